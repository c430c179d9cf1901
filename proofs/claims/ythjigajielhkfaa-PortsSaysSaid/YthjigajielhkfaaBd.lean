/- Tables of bounds: slices.Clone. -/
import Derived.Test.YthjigajielhkfaaSyZ
import Derived.Shelf.RegionOpenPlain
import Derived.WalkKit
import Derived.Deep.LoopGhost
import Derived.Lib.Walk
import Derived.Lib.SliceRun
namespace Go.Proofs.Ythjigajielhkfaa
open Go.RowKit Sy Go.Lib
set_option linter.unusedVariables false
set_option linter.unusedSimpArgs false

/-- The cells of a Bound: proto, local, remote, share, owner. -/
def bdLv : List Kd := [.int .i64, .int .u32, .int .i64, .int .u32, .int .i64, .bool, .int .i64]
theorem flat_bd {l : List (List Value)} (h : ∀ r ∈ l, kAll bdLv r) : l.flatten.length = l.length * 7 := flat_len (m := 7) fun r hr => kAll_len (h r hr)
theorem ne_of {g c n : Nat} : Value.slice (some ⟨g, 0, none⟩) n c ≠ .slice none 0 0 := fun h => by cases h
/-- What a slice that begins at the head of a row among the new blocks is, if it is not nil. -/
theorem row_of_own {w w' : World} {v : Value} {l : List (List Value)} (hk : ∀ r ∈ l, kAll bdLv r) (h : w'.ownsRow w.heap.size 50 7 v l.length l.flatten) (hn : v ≠ .slice none 0 0) :
    ∃ g c, v = .slice (some ⟨g, 0, none⟩) l.length c ∧ w.heap.size ≤ g ∧ RowT w' g c 50 bdLv l := by
  rcases h.2 with ⟨h1, _⟩ | ⟨g', c', cur, h1, h0, h2, h3, h4, h5, h6⟩
  · exact absurd h1 hn
  · refine ⟨g', c', h1, h0, fun hc => ⟨cur, h2, h5, h4, h6⟩, by omega, hk⟩
set_option maxHeartbeats 2000000 in
set_option maxRecDepth 100000 in
theorem clone_calls {w : World} {g c : Nat} {l : List (List Value)} (hT : RowT w g c 50 bdLv l) (hc : c ≠ 0) (hbig : l.length ≤ 4000) :
    Calls Try.prog 175 #[.slice (some ⟨g, 0, none⟩) l.length c] w fun e w' => ∃ v', e = .returned v' ∧ w'.ownsRow w.heap.size 50 7 v' l.length l.flatten ∧ v' ≠ .slice none 0 0 ∧ Below w.heap.size w w' := by
  have q22 : ∀ (w : World) (a : Option Addr) (n c n' c' : Nat), (binOp .eql 145 (.slice a n c) (.slice none n' c')).run Try.prog w = .ok (.bool a.isNone) w := fun w a n c n' c' => Lib.run_eql_slice_nil w _ 50 a n c n' c' rfl
  have u22 : ∀ w, Sem.run Try.prog (underlying 145) w = .ok (TypeDesc.slice 50) w := run_underlying rfl
  have hlen := flat_bd hT.ok
  have A : Aside (RowT w g c 50 bdLv l) := hT
  have hone := flat_one hT.ok
  clear hT
  go_enter Try.func175, Try.ntmps175
  go_wp2_with (at_builtin; refine wpList_append_own _ rfl _ _ 145 rfl w.heap.size 50 _ _ 7 56 rfl rfl rfl rfl rfl rfl (by decide) _ _ _ rfl (World.ownsRow_made w #[] 0 (Nat.le_refl _) (Nat.zero_le _) rfl) ⟨g, 0, none⟩ l.length c l.flatten rfl hlen ?qc2 hone ?qc4 ?qc5 ?qc6 ?_)
  case qc2 =>
    intro j u hj
    have hjl := (List.getElem?_eq_some_iff.1 hj).1
    rw [hlen] at hjl
    have hd := Nat.div_add_mod j 7
    rw [Addr.add_lit]
    refine Lib.cell?_alloc_some _ ?_
    have hdiv : j / 7 < l.length := by omega
    have hmod : j % 7 < 7 := by omega
    have hj' : j = j / 7 * 7 + j % 7 := by omega
    rw [hj', flat_get (m := 7) (fun x hx => kAll_len (A.out.ok x hx)) hdiv hmod] at hj
    have := A.out.cell hdiv hj
    rw [show (0 : Nat) + j = j / 7 * bdLv.length + j % 7 from by show 0 + j = j / 7 * 7 + j % 7; omega]
    exact this
  case qc4 => unfold maxLen; omega
  case qc5 => omega
  case qc6 => simp
  intro v' w1 hown hgrow hnil
  go_wp2
  go_ret
  refine ⟨v', rfl, by simpa using hown, ?_, ?_⟩
  · exact hnil
  · exact ((Below.refl _ w).alloc (Nat.le_refl _) _).grown hgrow (by simp) (by intro k hk; simp [Value.ownBlock] at hk; omega)
end Go.Proofs.Ythjigajielhkfaa
