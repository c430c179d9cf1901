/- Words for memory that is only read: a row of cells behind a slice. -/
import Derived.Test.YtdpapkcibpcmjaaRows
import Derived.WalkKit
import Derived.WalkSpells
import Derived.WalkLawsBesides
import Derived.Handy
import Derived.Deep.Light
import Derived.Below
import Derived.Lib.Hide
namespace Go.Proofs.Ytdpapkcibpcmjaa
open Go.RowKit

theorem ret_int {k : IntKind} {a b : Int} (h : a = b) : Ending.returned (.int k a) = .returned (.int k b) := by rw [h]
theorem ret_bool {a b : Bool} (h : a = b) : Ending.returned (.bool a) = .returned (.bool b) := by rw [h]

/-- The address A leads to the cells xs, in a block that is there already. Nothing is said where xs is empty. -/
def Rd (w : World) (A : Option Addr) (xs : List Value) : Prop :=
  xs = [] ∨ ∃ b off, A = some ⟨b, off, none⟩ ∧ b < w.heap.size ∧ ∀ j u, xs[j]? = some u → w.cell? ⟨b, off + j, none⟩ = some u

theorem Rd.keep {w w' : World} {A : Option Addr} {xs : List Value} (h : Rd w A xs) (hs : w.heap.size ≤ w'.heap.size) (hk : ∀ p : Addr, p.block < w.heap.size → w'.cell? p = w.cell? p) : Rd w' A xs := by
  rcases h with h | ⟨b, off, rfl, hb, hc⟩
  · exact .inl h
  · exact .inr ⟨b, off, rfl, by omega, fun j u hu => (hk _ hb).trans (hc j u hu)⟩
theorem Rd.below {w w' : World} {A : Option Addr} {xs : List Value} (h : Rd w A xs) (hb : Below w.heap.size w w') : Rd w' A xs := h.keep hb.size fun _ hp => hb.cell hp
theorem Rd.drew {w : World} {A : Option Addr} {xs : List Value} (h : Rd w A xs) : Rd w.drew A xs := h
theorem Rd.drewN {w : World} {A : Option Addr} {xs : List Value} (h : Rd w A xs) (n : Nat) : Rd (w.drewN n) A xs := h
theorem Rd.alloc {w : World} {A : Option Addr} {xs : List Value} (h : Rd w A xs) (o : Obj) : Rd (w.alloc o) A xs :=
  h.keep (by simp) fun p hp => World.cell?_alloc_lt w o p hp
theorem Rd.block {w : World} {g : Nat} {xs : List Value} {t : TypeId} {fr : Nat × Nat} (h : w.heap[g]? = some (.cells xs.toArray t fr)) : Rd w (some ⟨g, 0, none⟩) xs := by
  refine .inr ⟨g, 0, rfl, ?_, fun j u hu => ?_⟩
  · rcases Nat.lt_or_ge g w.heap.size with hlt | hge
    · exact hlt
    · rw [Array.getElem?_eq_none hge] at h; cases h
  · rw [Nat.zero_add, cell_of_row w g j _ t fr h]
    simpa using hu

/-- 'Eq' of two rows of numbers that hold the same. -/
theorem eq_ints (A B : Option Addr) (ca cb : Nat) (zs : List Int) (w : World) (hlen : zs.length ≤ 9223372036854775807) (ha : Rd w A (zs.map (.int .i64))) (hb : Rd w B (zs.map (.int .i64))) :
    Calls Try.prog 14 #[.slice A zs.length ca, .slice B zs.length cb] w fun e w' => e = .returned (.bool true) ∧ w = w' := by
  rcases ha with h0 | ⟨b1, o1, rfl, hb1, hc1⟩
  · have hz : zs = [] := by simpa using h0
    subst hz
    go_enter Try.func14, Try.ntmps14
    go_wp2
    go_rounds 1
    go_ret
    exact ⟨rfl, rfl⟩
  rcases hb with h0 | ⟨b2, o2, rfl, hb2, hc2⟩
  · have hz : zs = [] := by simpa using h0
    subst hz
    go_enter Try.func14, Try.ntmps14
    go_wp2
    go_rounds 1
    go_ret
    exact ⟨rfl, rfl⟩
  have H1 := Lib.hid hc1
  have H2 := Lib.hid hc2
  clear hc1 hc2
  obtain ⟨n, hn⟩ : ∃ n, n = zs.length := ⟨_, rfl⟩
  rw [← hn] at hlen ⊢
  have HN := Lib.hid hn
  clear hn
  go_enter Try.func14, Try.ntmps14
  go_wp2
  go_loop [14] (fun i => ∃ k : Nat, k ≤ n ∧ i = .int .i64 k) (fun i => n - (intOf i).toNat)
  case atStart => exact ⟨0, Nat.zero_le _, rfl⟩
  case round =>
    obtain ⟨k, hk, rfl⟩ := hrel
    by_cases hlt : k < n
    · obtain ⟨z, hz⟩ : ∃ z, zs[k]? = some z := ⟨zs[k]'(by have := HN.out; omega), List.getElem?_eq_getElem _⟩
      have c1 : w.cell? ⟨b1, o1 + k, none⟩ = some (.int .i64 z) := H1.out k _ (by simp [hz])
      have c2 : w.cell? ⟨b2, o2 + k, none⟩ = some (.int .i64 z) := H2.out k _ (by simp [hz])
      clear hz
      go_wp2
      go_round
      case rel => exact ⟨k + 1, by omega, by go_num⟩
      case measure => simp [intOf]; omega
    · go_wp2
      go_ret
      exact ⟨rfl, rfl⟩
end Go.Proofs.Ytdpapkcibpcmjaa
