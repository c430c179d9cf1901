/- The poller: the reference's at. -/
import Derived.Test.YtnjpoidpfcfbeaaLs0
import Derived.Test.YtnjpoidpfcfbeaaSyFo
import Derived.Shelf.SlicesE.IndexFunc
import Derived.Ground.SlgfProg
import Derived.Lib.SliceRun
import Derived.BigQuiet
namespace Go.Proofs.Ytnjpoidpfcfbeaa
open Go.RowKit Sy
set_option linter.unusedVariables false
set_option linter.unusedSimpArgs false

def waLv : List Kd := [.int .i64, .int .i64, .int .i64, .bool, .bool]
def poBs : List Bd := [⟨tlen (.cv 0), 0, 4000⟩, i64B 20]
def waTb : Bk := ⟨40, 139, [], false, none, .tab waLv (.cv 0)⟩
def waSl : C := .slt 40 5 (.il 0) (tlen (.cv 0)) (.il 0)
def poO (rw : Bool) : Bk := ⟨0, 69, [waSl], rw, none, .no⟩
def atA : List SV := [.one (.c (.ptr 0 0)), .one (.c (.int .i64 (.iv 20)))]
def atSt : Sy.St := ⟨[], [poO false, waTb], ⟨poBs, []⟩, 50⟩
def atL : List Sh := [(.out 0 .ret [(.eq (.tb (.get (.int .i64) 0) (.cv 0) (.iv 0) (.il 0)) (.iv 20)), (.lt (.iv 0) (.tb .len (.cv 0) (.il 0) (.il 0))), (.le (.iv 0) (.tb .len (.cv 0) (.il 0) (.il 0)))]), (.back [(.i 0 (.add (.iv 0) (.il 1)))] [(.not (.eq (.tb (.get (.int .i64) 0) (.cv 0) (.iv 0) (.il 0)) (.iv 20))), (.lt (.iv 0) (.tb .len (.cv 0) (.il 0) (.il 0))), (.le (.iv 0) (.tb .len (.cv 0) (.il 0) (.il 0)))]), (.out 2 (.exit 0) [(.not (.lt (.iv 0) (.tb .len (.cv 0) (.il 0) (.il 0)))), (.le (.iv 0) (.tb .len (.cv 0) (.il 0) (.il 0)))])]
set_option maxRecDepth 100000 in
theorem at_code : ScanCode Try.prog [] 73 Try.f73 atA atSt scP 12 atL (.one (.c (.int .i64 (.iv 0)))) (.one (.c (.int .i64 (.il (-1))))) [0] 2 where
  hf := Try.func73
  body := rfl
  tm := rfl
  run0 := by kernel_rfl
  mtch := by kernel_rfl
  loop := by kernel_rfl
  run1 := by kernel_rfl
  rets := by kernel_rfl
  fin := by kernel_rfl
def isFd (fd : Int) (r : List Value) : Bool := decide (gI .i64 r 0 = fd)
section
variable {rows : List (List Value)} {fd : Int}
theorem at_bs (hn : rows.length ≤ 4000) (h0 : -9223372036854775808 ≤ fd) (h1 : fd ≤ 9223372036854775807) {ρ : Env} (h : But0 (lsEnv (fun _ _ _ _ => dI 0) rows fd 0 0) ρ) : Bds ρ poBs := by
  refine bdsP_ok ⟨?_, ?_, trivial⟩
  · show (0 : Int) ≤ (((ρ.c 0).length : Nat) : Int) ∧ (((ρ.c 0).length : Nat) : Int) ≤ 4000
    rw [h.c]
    show (0 : Int) ≤ ((rows.length : Nat) : Int) ∧ ((rows.length : Nat) : Int) ≤ 4000
    omega
  · show _ ≤ ρ.i 20 ∧ ρ.i 20 ≤ _
    rw [h.i 20 (by decide)]
    exact ⟨h0, h1⟩
theorem at_goals : AllL (scGoal (lsEnv (fun _ _ _ _ => dI 0) rows fd 0 0) rows.length (fun j => isFd fd (rows.getD j [])) [0] 2) atL := by
  refine ⟨?_, ?_, ?_, trivial⟩
  all_goals
    refine ⟨rfl, fun ρ hB h0 hpc => ?_⟩
    replace hpc : pcs ρ _ := hpc
    have hc : ρ.c 0 = rows := by rw [hB.c]; rfl
    have h20 : ρ.i 20 = fd := hB.i 20 (by decide)
    simp only [pcs, t_lt, t_le, t_eq, t_not, t_and, t_or, t_bv, i_iv, i_il, i_tl, i_get, b_get, c_cv, hc, gI_def, gB_def, h20, and_true] at hpc
    first
      | (show ¬ _; omega)
      | (refine ⟨by omega, fun _ => ?_⟩
         change isFd fd (rows.getD (ρ.i 0).toNat []) = _
         generalize rows.getD (ρ.i 0).toNat [] = r at hpc ⊢
         unfold isFd
         simp only [decide_eq_true_eq, decide_eq_false_iff_not]
         (try simp_all))
theorem at_calls {w : World} {g0 g c : Nat} (hB : Blk w g0 69 [sltV g c rows.length]) (hT : RowT w g c 139 waLv rows) (h0 : -9223372036854775808 ≤ fd) (h1 : fd ≤ 9223372036854775807) (hn : rows.length ≤ 4000) (hne : c ≠ 0 → g0 ≠ g) :
    Calls Try.prog 73 #[.pointer (some ⟨g0, 0, none⟩), .int .i64 fd] w (RetP fun v w' => v = .int .i64 (ixOf (isFd fd) rows) ∧ Below w.heap.size w w') := by
  refine scan_calls at_code (ρ0 := lsEnv (fun _ _ _ _ => dI 0) rows fd 0 0) (β0 := ixB g c g0) (n := rows.length) (fun i => rfl) (fun _ _ q hq => by cases hq) (fun ρ h => at_bs hn h0 h1 h) ?_ hn rfl at_goals ?_ ?_ ?_
  · refine Sy.Md.init ⟨?_, hT, trivial⟩ ⟨⟨fun _ hr => apart.of rfl rfl (hne (hr.resolve_left (by simp [waTb, Bk.nilable, Xt.isTab]))), trivial⟩, trivial, trivial⟩ ⟨fun h => (by cases h), fun h => (by cases h), trivial⟩ ⟨at_bs hn h0 h1 ⟨fun _ _ => rfl, rfl, rfl, rfl, rfl, rfl⟩, fun t ht => by cases ht⟩ rfl
    show Blk w g0 _ [sltZ g c 5 0 rows.length 0]
    rw [sltZ_zero]
    exact hB
  · rfl
  · intro ρ β w' hb hbl h0 hlt hno hyes
    refine ⟨?_, hbl⟩
    show Value.int .i64 (ρ.i 0) = _
    rw [ixOf_some hlt hno hyes]
    congr 1
    omega
  · intro ρ β w' hb hbl hno
    refine ⟨?_, hbl⟩
    show Value.int .i64 (-1) = _
    rw [ixOf_none hno]
end
end Go.Proofs.Ytnjpoidpfcfbeaa
/- The poller: what it is in memory; its at. -/
namespace Go.Proofs
open Go.Shelf Go.RowKit Go.Lib
shelf_lay_g SlLaysH.n6 Slgf 6 at Try 98 as Try.pollIx
end Go.Proofs
namespace Go.Proofs.Ytnjpoidpfcfbeaa
open Go.RowKit Sy
set_option linter.unusedVariables false
set_option linter.unusedSimpArgs false

/-- The program's mask of the document's: errors are always asked for. -/
def mk4 (m : Int) : Int := if m / 4 % 2 = 1 then m else m + 4
/-- A watch's cells, of the document's row. -/
def wC (r : List Value) : List Value := [.int .i64 (gI .i64 r 0), .int .i64 (mk4 (gI .i64 r 1)), .int .i64 (gI .i64 r 2), .bool (gB r 3), .bool (gB r 4)]
structure WRow (r : List Value) : Prop where
  ok : kAll waLv r
  m0 : 0 ≤ gI .i64 r 1
  m1 : gI .i64 r 1 ≤ 7
  r0 : 0 ≤ gI .i64 r 2
  r1 : gI .i64 r 2 ≤ 7
/-- These blocks are watches, told by these rows. -/
structure Fam (w : World) (bs : List Nat) (rows : List (List Value)) : Prop where
  len : bs.length = rows.length
  nd : bs.Nodup
  blk : ∀ i, i < rows.length → Blk w (bs.getD i 0) 137 (wC (rows.getD i []))
  good : ∀ r ∈ rows, WRow r
def pr (b : Nat) : List Value := [.pointer (some ⟨b, 0, none⟩)]
theorem Fam.keep {w w' : World} {bs : List Nat} {rows : List (List Value)} (h : Fam w bs rows) (hk : ∀ b ∈ bs, w'.heap[b]? = w.heap[b]?) : Fam w' bs rows :=
  ⟨h.len, h.nd, fun i hi => (hk _ (by
    have : i < bs.length := by rw [h.len]; exact hi
    rw [List.getD_eq_getElem?_getD, List.getElem?_eq_getElem this]
    exact List.getElem_mem _)).trans (h.blk i hi), h.good⟩
theorem Fam.mem {w : World} {bs : List Nat} {rows : List (List Value)} (h : Fam w bs rows) {b : Nat} (hb : b ∈ bs) : ∃ i, i < rows.length ∧ bs.getD i 0 = b := by
  obtain ⟨i, hi, e⟩ := List.getElem_of_mem hb
  exact ⟨i, by rw [← h.len]; exact hi, by rw [List.getD_eq_getElem?_getD, List.getElem?_eq_getElem hi]; exact e⟩
theorem Fam.lt {w : World} {bs : List Nat} {rows : List (List Value)} (h : Fam w bs rows) {b : Nat} (hb : b ∈ bs) : b < w.heap.size := by
  obtain ⟨i, hi, rfl⟩ := h.mem hb
  exact (h.blk i hi).lt
/-- A poller: its block, its slice's block, its watches. -/
structure Pol (w : World) (g arr cap : Nat) (bs : List Nat) (rows : List (List Value)) : Prop where
  fam : Fam w bs rows
  l16 : rows.length ≤ 16
  obj : Blk w g 134 [sltV arr cap bs.length]
  tab : RowT w arr cap 135 [.ptr] (bs.map pr)
  g0 : g ∉ bs
  a0 : cap ≠ 0 → arr ∉ bs ∧ arr ≠ g
def polF (g arr cap : Nat) (bs : List Nat) : List Nat := g :: ((if cap = 0 then [] else [arr]) ++ bs)
theorem polF_mem {g arr cap : Nat} {bs : List Nat} {i : Nat} : i ∈ polF g arr cap bs ↔ i = g ∨ (cap ≠ 0 ∧ i = arr) ∨ i ∈ bs := by
  unfold polF
  by_cases h : cap = 0 <;> simp [h]
theorem Pol.keep {w w' : World} {g arr cap : Nat} {bs : List Nat} {rows : List (List Value)} (h : Pol w g arr cap bs rows) (hk : ∀ i ∈ polF g arr cap bs, w'.heap[i]? = w.heap[i]?) : Pol w' g arr cap bs rows :=
  ⟨h.fam.keep fun b hb => hk b (polF_mem.2 (.inr (.inr hb))), h.l16, (hk g (polF_mem.2 (.inl rfl))).trans h.obj, ⟨fun hc => by
    obtain ⟨cur, h1, h2⟩ := h.tab.row hc
    exact ⟨cur, (hk arr (polF_mem.2 (.inr (.inl ⟨hc, rfl⟩)))).trans h1, h2⟩, h.tab.len, h.tab.ok⟩, h.g0, h.a0⟩
theorem Pol.lt {w : World} {g arr cap : Nat} {bs : List Nat} {rows : List (List Value)} (h : Pol w g arr cap bs rows) {i : Nat} (hi : i ∈ polF g arr cap bs) : i < w.heap.size := by
  rcases polF_mem.1 hi with rfl | ⟨hc, rfl⟩ | hb
  · exact h.obj.lt
  · obtain ⟨cur, h1, _⟩ := h.tab.row hc
    exact (Array.getElem?_eq_some_iff.1 h1).1
  · exact h.fam.lt hb
def polP (w : World) (g : Nat) (F : Nat → Prop) (rows : List (List Value)) : Prop := ∃ arr cap bs, Pol w g arr cap bs rows ∧ ∀ i, F i ↔ i ∈ polF g arr cap bs
def polT : Thing where
  P := polP
  keep := fun ⟨arr, cap, bs, h, hF⟩ hk => ⟨arr, cap, bs, h.keep fun i hi => hk i ((hF i).2 hi), hF⟩
  lt := fun ⟨arr, cap, bs, h, hF⟩ i hi => h.lt ((hF i).1 hi)
  root := fun ⟨arr, cap, bs, h, hF⟩ => (hF _).2 (polF_mem.2 (.inl rfl))

set_option maxHeartbeats 1000000 in
set_option maxRecDepth 100000 in
theorem pcl_calls (W : World) (g B : Nat) (d fd : Int) (h0 : W.cell? ⟨g, 0, none⟩ = some (.int .i64 d)) (hc : W.cell? ⟨B, 0, none⟩ = some (.int .i64 fd)) : Calls Try.prog 99 #[.pointer (some ⟨g, 0, none⟩), .pointer (some ⟨B, 0, none⟩)] W fun e w' => e = .returned (.bool (decide (d = fd))) ∧ ∃ q, w' = W.drewN q := by
  go_enter Try.func99, Try.ntmps99
  go_wp2_with fail
  go_quiet (fail)
  go_wp2_with fail
  all_goals (go_ret; exact ⟨rfl, _, rfl⟩)
theorem flat_pr : ∀ bs : List Nat, (bs.map pr).flatten = bs.map fun b => Value.pointer (some ⟨b, 0, none⟩)
  | [] => rfl
  | b :: l => by simp [pr, flat_pr l]
/-- IndexFunc with it. -/
theorem pix_calls {w : World} {arr cap : Nat} {bs : List Nat} {rows : List (List Value)} (h : Fam w bs rows) (hT : RowT w arr cap 135 [.ptr] (bs.map pr)) (l16 : rows.length ≤ 16) (fd : Int) (B : Nat) (hB : B < w.heap.size) (hcell : w.cell? ⟨B, 0, none⟩ = some (.int .i64 fd)) :
    Calls Try.prog 98 #[sltV arr cap bs.length, .func (.func 99) #[] #[.pointer (some ⟨B, 0, none⟩)]] w fun e w' => e = .returned (.int .i64 (ixOf (isFd fd) rows)) ∧ ∃ q, w' = w.drewN q := by
  have eg : ∀ args w, (callFunc 99 args).run Try.prog w = .ok (.enter 99 args) w := enters_of Try.func99 (by kernel_rfl) rfl
  by_cases hn : rows.length = 0
  · have hr : rows = [] := List.eq_nil_of_length_eq_zero hn
    have hb0 : bs.length = 0 := by rw [h.len, hn]
    have he : ∀ (a : Option Addr) (c : Nat), Calls Try.prog 98 #[.slice a 0 c, .func (.func 99) #[] #[.pointer (some ⟨B, 0, none⟩)]] w fun e w' => e = .returned (.int .i64 (-1)) ∧ w' = w := fun a c => AnyE.slices_IndexFunc_empty Try.pollIx a c _ w
    rw [hr, hb0]
    unfold sltV
    split
    · exact (he none 0).mono fun e w' ⟨h1, h2⟩ => ⟨h1, 0, by rw [h2]; rfl⟩
    · exact (he _ cap).mono fun e w' ⟨h1, h2⟩ => ⟨h1, 0, by rw [h2]; rfl⟩
  · have hn : 0 < rows.length := by omega
    have hl := h.len
    have hT0 := hT.len
    rw [List.length_map] at hT0
    have hc0 : cap ≠ 0 := by omega
    obtain ⟨cur, hcur, _, _, htk⟩ := hT.row hc0
    have cell : ∀ j, j < rows.length → w.cell? ⟨arr, j, none⟩ = some (.pointer (some ⟨bs.getD j 0, 0, none⟩)) := fun j hj => by
      have h6 : w.cell? ⟨arr, j, none⟩ = cur[j]? := by simp [World.cell?, hcur]
      have hlt : j < bs.length := by omega
      have hfl := flat_pr bs
      rw [h6, ← Array.getElem?_toList]
      have h7 := congrArg (fun l => l[j]?) htk
      simp only [List.getElem?_take, hfl, List.length_map, List.length_cons, List.length_nil, Nat.zero_add, Nat.mul_one, if_pos hlt, List.getElem?_map] at h7
      rw [h7, List.getElem?_eq_getElem hlt, List.getD_eq_getElem?_getD, List.getElem?_eq_getElem hlt]
      rfl
    have hmod : ∀ j, j < rows.length → j % rows.length = j := fun j hj => Nat.mod_eq_of_lt hj
    have hp : Go.Proofs.PredAt Try.prog 99 #[.pointer (some ⟨B, 0, none⟩)] (fun i : Nat => .pointer (some ⟨bs.getD (i % rows.length) 0, 0, none⟩)) (fun i => isFd fd (rows.getD (i % rows.length) [])) w := fun W x hb => by
      have hlt : x % rows.length < rows.length := Nat.mod_lt _ hn
      have hW := h.blk _ hlt
      exact pcl_calls W _ B _ fd ((hW.below hb hW.lt).at_ (i := 0) rfl) ((hb.cell (p := ⟨B, 0, none⟩) hB).trans hcell)
    have hz : ∀ j, j < rows.length → (List.range rows.length)[j]! = j := fun j hj => by simp [hj]
    have := AnyE.slices_IndexFunc Try.pollIx (fun i : Nat => Value.pointer (some ⟨bs.getD (i % rows.length) 0, 0, none⟩)) (fun i => isFd fd (rows.getD (i % rows.length) [])) 99 #[.pointer (some ⟨B, 0, none⟩)] eg arr 0 rows.length cap (List.range rows.length) w hp (by simp) (by omega) (fun j hj => by
      rw [List.length_range] at hj
      rw [Nat.zero_add, hz j hj, hmod j hj]
      exact cell j hj)
    rw [hl]
    unfold sltV
    rw [if_neg hc0]
    refine this.mono ?_
    rintro e w' ⟨rfl, hq⟩
    refine ⟨?_, hq⟩
    congr 2
    by_cases hex : ∃ k, k < rows.length ∧ isFd fd (rows.getD k []) = true
    · obtain ⟨k, ⟨hk, hyes⟩, hmin⟩ := least hex
      have hno : ∀ j, j < k → isFd fd (rows.getD j []) = false := fun j hj => by
        cases q : isFd fd (rows.getD j []) with
        | false => rfl
        | true => have := hmin j ⟨by omega, q⟩; omega
      rw [ixOf_some hk hno hyes]
      exact Lib.idxBy_hit _ _ _ k _ hk (by simp) (by show isFd fd _ = true; rw [hz k hk, hmod k hk]; exact hyes) (fun j hj => by show isFd fd _ = false; rw [hz j (by omega), hmod j (by omega)]; exact hno j hj)
    · have hno : ∀ j, j < rows.length → isFd fd (rows.getD j []) = false := fun j hj => by
        cases q : isFd fd (rows.getD j []) with
        | false => rfl
        | true => exact absurd ⟨j, hj, q⟩ hex
      rw [ixOf_none hno]
      exact Lib.idxBy_miss _ _ _ _ fun j hj => by show isFd fd _ = false; rw [hz j hj, hmod j hj]; exact hno j hj
set_option maxHeartbeats 1000000 in
set_option maxRecDepth 100000 in
theorem pat_calls {w : World} {g arr cap : Nat} {bs : List Nat} {rows : List (List Value)} (h : Pol w g arr cap bs rows) (fd : Int) :
    Calls Try.prog 72 #[.pointer (some ⟨g, 0, none⟩), .int .i64 fd] w (RetP fun v w' => v = .int .i64 (ixOf (isFd fd) rows) ∧ Below w.heap.size w w') := by
  have hcon := pix_calls (w := w.alloc (.cells #[.int .i64 fd] 3)) (h.fam.keep fun b hb => Below.heap_alloc w _ b (h.fam.lt hb)) (arr := arr) (cap := cap) ⟨fun hc => by
    obtain ⟨cur, h1, h2⟩ := h.tab.row hc
    exact ⟨cur, (Below.heap_alloc w _ arr (Array.getElem?_eq_some_iff.1 h1).1).trans h1, h2⟩, h.tab.len, h.tab.ok⟩ h.l16 fd w.heap.size (by simp) (by simp)
  have hc := h.obj.at_ (i := 0) rfl
  have hg := h.obj.lt
  generalize sltV arr cap bs.length = sl at hcon hc
  generalize ixOf (isFd fd) rows = r at hcon ⊢
  clear h
  have hC := Lib.hid hcon
  clear hcon
  refine Calls.mono (R := fun e w' => e = .returned (.int .i64 r) ∧ Below w.heap.size w w') ?_ (fun e w' ⟨h1, h2⟩ => ⟨_, h1, rfl, h2⟩)
  go_enter Try.func72, Try.ntmps72
  go_wp2_with (go_at_call 98; refine hC.out.mono ?_; rintro e w' ⟨rfl, q, rfl⟩)
  go_ret
  exact ⟨rfl, below_drewN' ((Below.refl _ w).alloc (Nat.le_refl _) _) q⟩
end Go.Proofs.Ytnjpoidpfcfbeaa
/- The poller: what its calls do, plainly; numbers; Set's contract. -/
namespace Go.Proofs.Ytnjpoidpfcfbeaa
open Go.RowKit Sy
set_option linter.unusedVariables false
set_option linter.unusedSimpArgs false

/-! Numbers. -/
theorem band7 (x : Int) : bits .and .i64 x 7 = x % 8 := by
  have h1 : (BitVec.ofInt 64 x &&& BitVec.ofInt 64 7).toNat = (x % 18446744073709551616).toNat % 8 := by
    rw [BitVec.toNat_and]
    show (x % 18446744073709551616).toNat &&& 7 = _
    exact Nat.and_two_pow_sub_one_eq_mod _ 3
  show IntKind.i64.wrap ((BitVec.ofInt 64 x &&& BitVec.ofInt 64 7).toNat : Int) = _
  rw [h1]
  have h2 : (((x % 18446744073709551616).toNat % 8 : Nat) : Int) = x % 8 := by omega
  rw [h2]
  exact wrap_in (show (-9223372036854775808 : Int) ≤ _ by omega) (show _ ≤ (9223372036854775807 : Int) by omega)
theorem eight {m : Int} (h0 : 0 ≤ m) (h1 : m ≤ 7) : ∃ a : Fin 8, m = ((a : Nat) : Int) := ⟨⟨m.toNat, by omega⟩, by show m = ((m.toNat : Nat) : Int); omega⟩
theorem bor4' : ∀ a : Fin 8, bits .or .i64 (((a : Nat) : Int)) 4 = mk4 ((a : Nat) : Int) := by decide
theorem bor4 {m : Int} (h0 : 0 ≤ m) (h1 : m ≤ 7) : bits .or .i64 m 4 = mk4 m := by
  obtain ⟨a, rfl⟩ := eight h0 h1
  exact bor4' a
/-- Something new to be told. -/
def nwB (m r : Int) : Bool := decide ((m % 2 = 1 ∧ r % 2 = 0) ∨ (m / 2 % 2 = 1 ∧ r / 2 % 2 = 0) ∨ (m / 4 % 2 = 1 ∧ r / 4 % 2 = 0))
theorem bnew' : ∀ a b : Fin 8, decide (bits .andNot .i64 (((a : Nat) : Int)) (((b : Nat) : Int)) = 0) = !(nwB ((a : Nat) : Int) ((b : Nat) : Int)) := by decide
theorem bnew {m r : Int} (h0 : 0 ≤ m) (h1 : m ≤ 7) (h2 : 0 ≤ r) (h3 : r ≤ 7) : decide (bits .andNot .i64 m r = 0) = !(nwB m r) := by
  obtain ⟨a, rfl⟩ := eight h0 h1
  obtain ⟨b, rfl⟩ := eight h2 h3
  exact bnew' a b
/-- What there is to be told of. -/
def wkM (r k : Int) : Int := (if r % 2 = 1 ∧ k % 2 = 1 then 1 else 0) + ((if r / 2 % 2 = 1 ∧ k / 2 % 2 = 1 then 2 else 0) + (if r / 4 % 2 = 1 then 4 else 0))
theorem bwk' : ∀ a b : Fin 8, bits .and .i64 (((a : Nat) : Int)) (mk4 ((b : Nat) : Int)) = wkM ((a : Nat) : Int) ((b : Nat) : Int) := by decide
theorem bwk {r k : Int} (h0 : 0 ≤ r) (h1 : r ≤ 7) (h2 : 0 ≤ k) (h3 : k ≤ 7) : bits .and .i64 r (mk4 k) = wkM r k := by
  obtain ⟨a, rfl⟩ := eight h0 h1
  obtain ⟨b, rfl⟩ := eight h2 h3
  exact bwk' a b
theorem mk4_bd {m : Int} (h0 : 0 ≤ m) (h1 : m ≤ 7) : 0 ≤ mk4 m ∧ mk4 m ≤ 7 := by
  unfold mk4
  split <;> omega
theorem wkM_bd (r k : Int) : 0 ≤ wkM r k ∧ wkM r k ≤ 7 := by
  unfold wkM
  split <;> split <;> split <;> omega

/-! What the calls do. -/
def seR (r : List Value) (mask : Int) (edge : Bool) : List Value := [.int .i64 (gI .i64 r 0), .int .i64 (mask % 8), .int .i64 (gI .i64 r 2), .bool edge, .bool true]
def neR (fd mask : Int) (edge : Bool) : List Value := [.int .i64 fd, .int .i64 (mask % 8), .int .i64 0, .bool edge, .bool true]
def setC (rows : List (List Value)) (fd : Int) : Int := if fd < 0 ∨ 16 ≤ fd then 1 else if ixOf (isFd fd) rows < 0 ∧ 16 ≤ rows.length then 9 else 0
def setR (rows : List (List Value)) (fd mask : Int) (edge : Bool) : List (List Value) :=
  if fd < 0 ∨ 16 ≤ fd then rows
  else if ixOf (isFd fd) rows < 0 then (if 16 ≤ rows.length then rows else rows ++ [neR fd mask edge])
  else rows.set (ixOf (isFd fd) rows).toNat (seR (rows.getD (ixOf (isFd fd) rows).toNat []) mask edge)
def drpC (rows : List (List Value)) (fd : Int) : Int := if ixOf (isFd fd) rows < 0 then 7 else 0
def drpR (rows : List (List Value)) (fd : Int) : List (List Value) := if ixOf (isFd fd) rows < 0 then rows else rows.eraseIdx (ixOf (isFd fd) rows).toNat
def noR (r : List Value) (m : Int) : List Value := [.int .i64 (gI .i64 r 0), .int .i64 (gI .i64 r 1), .int .i64 m, .bool (gB r 3), .bool (gB r 4 || nwB m (gI .i64 r 2))]
def notR (rows : List (List Value)) (fd mask : Int) : List (List Value) := if ixOf (isFd fd) rows < 0 then rows else rows.set (ixOf (isFd fd) rows).toNat (noR (rows.getD (ixOf (isFd fd) rows).toNat []) (mask % 8))
def toldR (r : List Value) : List Value := [.int .i64 (gI .i64 r 0), .int .i64 (gI .i64 r 1), .int .i64 (gI .i64 r 2), .bool (gB r 3), .bool false]
def wakeR (r : List Value) : List Value := [.int .i64 (gI .i64 r 0), .int .i64 (wkM (gI .i64 r 2) (gI .i64 r 1))]
/-- Is it passed over? -/
def passB (most : Int) (n : Nat) (r : List Value) : Bool := decide (wkM (gI .i64 r 2) (gI .i64 r 1) = 0) || (gB r 3 && !(gB r 4)) || decide ((n : Int) = most)
/-- Who is told of (the first n told already), who is not. -/
def wtS (most : Int) : Nat → List (List Value) → List (List Value) × List (List Value)
  | _, [] => ([], [])
  | n, r :: l => if passB most n r then ((wtS most n l).1, r :: (wtS most n l).2) else (r :: (wtS most (n + 1) l).1, (wtS most (n + 1) l).2)
def waC (most : Int) : Int := if most < 1 then 1 else 0
def waO (rows : List (List Value)) (most : Int) : List (List Value) := if most < 1 then [] else (wtS most 0 rows).1.map wakeR
def waR (rows : List (List Value)) (most : Int) : List (List Value) := if most < 1 then rows else (wtS most 0 rows).2 ++ (wtS most 0 rows).1.map toldR
theorem ixOf_bd (p : List Value → Bool) : ∀ l : List (List Value), -1 ≤ ixOf p l ∧ ixOf p l < (l.length : Int)
  | [] => ⟨Int.le_refl _, by show (-1 : Int) < 0; omega⟩
  | a :: l => by
    have := ixOf_bd p l
    simp only [ixOf, List.length_cons]
    split
    · omega
    · split <;> omega
theorem row_wC {r : List Value} (h : WRow r) : kAll waLv (wC r) ∧ (0 ≤ mk4 (gI .i64 r 1) ∧ mk4 (gI .i64 r 1) ≤ 7) := by
  have b0 := gI_bd (k := .i64) r 0
  have b1 := mk4_bd h.m0 h.m1
  refine ⟨⟨⟨_, rfl, wf_of b0.1 b0.2⟩, ⟨_, rfl, wf_of (by show (-9223372036854775808 : Int) ≤ _; omega) (by show _ ≤ (9223372036854775807 : Int); omega)⟩, ⟨_, rfl, wf_of (by show (-9223372036854775808 : Int) ≤ _; have := h.r0; omega) (by show _ ≤ (9223372036854775807 : Int); have := h.r1; omega)⟩, ⟨_, rfl⟩, ⟨_, rfl⟩, trivial⟩, b1⟩
end Go.Proofs.Ytnjpoidpfcfbeaa
/- The poller: the frames of its methods; what is left of a poller whose one watch is turned. -/
namespace Go.Proofs.Ytnjpoidpfcfbeaa
open Go.RowKit Sy
set_option linter.unusedVariables false
set_option linter.unusedSimpArgs false

def polXT (arr cap : Nat) (bs : List Nat) : Thing where
  P := fun w g F rows => Pol w g arr cap bs rows ∧ ∀ i, F i ↔ i ∈ polF g arr cap bs
  keep := fun ⟨h, hF⟩ hk => ⟨h.keep fun i hi => hk i ((hF i).2 hi), hF⟩
  lt := fun ⟨h, hF⟩ i hi => h.lt ((hF i).1 hi)
  root := fun ⟨h, hF⟩ => (hF _).2 (polF_mem.2 (.inl rfl))
/-- The functions that the letters' terms name. -/
def poF : Nat → Dn → Dn → Dn → Dn := fun n x y z => match n with
  | 7 => dI (ixOf (isFd y.i) x.c)
  | 10 => dI (setC x.c y.i)
  | 11 => ⟨0, false, none8, setR x.c y.i (gI .i64 (z.c.getD 0 []) 0) (gB (z.c.getD 0 []) 1)⟩
  | 12 => dI (drpC x.c y.i)
  | 13 => ⟨0, false, none8, drpR x.c y.i⟩
  | 14 => ⟨0, false, none8, notR x.c y.i z.i⟩
  | 15 => dI (waC y.i)
  | 16 => ⟨0, false, none8, waO x.c y.i⟩
  | 17 => ⟨0, false, none8, waR x.c y.i⟩
  | 52 => ⟨0, false, none8, x.c.eraseIdx y.i.toNat⟩
  | _ => x
def ownB : Bk := ⟨0, 134, [.ptr 1 0], true, none, .own 0 (.cv 0)⟩
def atSel (s : Sy.St) : List SV → Option Did
  | [.one (.c (.ptr l 0)), .one (.c (.int .i64 fd))] => match find l s.hp with
    | some ⟨_, _, _, _, none, .own 0 t⟩ => some ⟨[], [], [], [], .one (.c (.int .i64 (.ap 7 t fd (.il 0)))), [⟨.ap 7 t fd (.il 0), -1, 15⟩], none⟩
    | _ => none
  | _ => none
def patSp : Sy.Spec := chgSp 72 atSel
theorem patSp_ok {ρ : Env} (hf : ρ.f = poF) {arr cap : Nat} {bs : List Nat} (ho : ρ.o 0 = polXT arr cap bs) : patSp.Ok Try.prog ρ := by
  refine chgSp_ok fun {s xs d} hs hc hm {β w} hb hne => ?_
  unfold atSel at hs
  split at hs
  · rename_i l fd
    split at hs
    · rename_i l' ty cs rw t hfind
      injection hs with hs
      subst hs
      have hm := find_mem hfind
      have hB : (ρ.o 0).P w (β l') (bitF β cs) (den ρ t).c := hb _ hm.1
      rw [ho] at hB
      obtain ⟨hP, hF⟩ := hB
      have hl : l' = l := hm.2
      subst hl
      have hap : (den ρ (.ap 7 t fd (.il 0))).i = ixOf (isFd (den ρ fd).i) (den ρ t).c := by
        show (ρ.f 7 _ _ _).i = _
        rw [hf]
        rfl
      refine ⟨fun y hy => ?_, (pat_calls hP (den ρ fd).i).mono ?_⟩
      · rw [List.mem_singleton.1 hy]
        show (-1 : Int) ≤ (den ρ (.ap 7 t fd (.il 0))).i ∧ (den ρ (.ap 7 t fd (.il 0))).i ≤ 15
        rw [hap]
        have := ixOf_bd (isFd (den ρ fd).i) (den ρ t).c
        have := hP.l16
        omega
      · rintro e w' ⟨v, rfl, rfl, hb'⟩
        refine ⟨β, ?_, Only.of_below hb' _, fun _ _ => rfl, fun _ h => (by cases h), fun _ h => (by cases h), fun _ h => (by cases h), fun _ h => (by cases h), fun _ h => (by cases h), fun _ h => (by cases h)⟩
        show _ = Ending.returned (.int .i64 (den ρ (.ap 7 t fd (.il 0))).i)
        rw [hap]
    · cases hs
  · cases hs
/-! Frames. -/
def ptB (rw : Bool) : Bk := ⟨0, 134, [.slt 2 1 (.il 0) (tlen (.cv 1)) (.il 0)], rw, none, .no⟩
def arB (rw : Bool) (t : Tm) : Bk := ⟨2, 135, [], rw, none, .tab [.ptr] t⟩
def foC : List C := [.int .i64 (.iv 30), .int .i64 (.iv 31), .int .i64 (.iv 32), .bool (.bv 33), .bool (.bv 34)]
def fdT : Tm := .tb (.get .ptr 0) (.cv 1) (.iv 22) (.il 0)
def poBs' : List Bd := [i64B 20, i64B 21, ⟨tlen (.cv 1), 0, 16⟩]
def foBs : List Bd := [⟨.iv 22, 0, 15⟩, i64B 20, i64B 21, ⟨tlen (.cv 1), 0, 16⟩, i64B 30, ⟨.iv 31, 0, 7⟩, ⟨.iv 32, 0, 7⟩]
def foCx : Cx := ⟨foBs, [.le (.il 0) (.iv 22), .lt (.iv 22) (tlen (.cv 1))]⟩
/-- What the letters stand for. -/
structure PoI (arr cap : Nat) (bs : List Nat) (rows : List (List Value)) (x y : Int) (e : Bool) (ρ : Env) : Prop where
  good : ρ.good
  i20 : ρ.i 20 = x
  i21 : ρ.i 21 = y
  b20 : ρ.b 20 = e
  c0 : ρ.c 0 = rows
  c1 : ρ.c 1 = bs.map pr
  f : ρ.f = poF
  o : ρ.o 0 = polXT arr cap bs
  x0 : -9223372036854775808 ≤ x
  x1 : x ≤ 9223372036854775807
  y0 : -9223372036854775808 ≤ y
  y1 : y ≤ 9223372036854775807
def poE (arr cap : Nat) (bs : List Nat) (rows : List (List Value)) (x y : Int) (e : Bool) : Env := { mkEnv0 [] [] [] [] with
  i := fun n => if n = 20 then x else if n = 21 then y else 0
  b := fun n => if n = 20 then e else false
  c := fun n => if n = 0 then rows else if n = 1 then bs.map pr else []
  f := poF
  o := fun _ => polXT arr cap bs }
def poN (g arr cap : Nat) (bs : List Nat) : Bn := fun l => if l = 0 then g else if l = 1 then bitsOf (polF g arr cap bs) else if l = 2 then arr else if l = 3 then cap else 0
section
variable {arr cap : Nat} {bs : List Nat} {rows : List (List Value)} {x y : Int} {e : Bool} {ρ : Env} {w : World} {g : Nat}
theorem poE_I (hx0 : -9223372036854775808 ≤ x) (hx1 : x ≤ 9223372036854775807) (hy0 : -9223372036854775808 ≤ y) (hy1 : y ≤ 9223372036854775807) : PoI arr cap bs rows x y e (poE arr cap bs rows x y e) :=
  ⟨fun i => rfl, rfl, rfl, rfl, rfl, rfl, rfl, rfl, hx0, hx1, hy0, hy1⟩
theorem PoI.bds (I : PoI arr cap bs rows x y e ρ) (hl : bs.length ≤ 16) : Bds ρ poBs' := by
  refine bdsP_ok ⟨?_, ?_, ?_, trivial⟩
  · show _ ≤ ρ.i 20 ∧ ρ.i 20 ≤ _
    rw [I.i20]; exact ⟨I.x0, I.x1⟩
  · show _ ≤ ρ.i 21 ∧ ρ.i 21 ≤ _
    rw [I.i21]; exact ⟨I.y0, I.y1⟩
  · show (0 : Int) ≤ ((ρ.c 1).length : Int) ∧ ((ρ.c 1).length : Int) ≤ 16
    rw [I.c1, List.length_map]
    omega
theorem own_start (h : Pol w g arr cap bs rows) (I : PoI arr cap bs rows x y e ρ) : BkOk ρ (poN g arr cap bs) w ownB := by
  show (ρ.o 0).P w g (fun i => (bitsOf (polF g arr cap bs)).testBit i = true) (ρ.c 0)
  rw [I.o, I.c0]
  exact ⟨h, fun i => bitsOf_test i _⟩
theorem own_back (I : PoI arr cap bs rows x y e ρ) {β : Bn} (hβ : ∀ l, l < 4 → β l = poN g arr cap bs l) (h : BkOk ρ β w ownB) : Pol w g arr cap bs rows := by
  have h : (ρ.o 0).P w (β 0) (fun i => (β 1).testBit i = true) (ρ.c 0) := h
  rw [I.o, I.c0, hβ 0 (by decide)] at h
  exact h.1
/-- How a method begins. -/
theorem po_init (h : Pol w g arr cap bs rows) (I : PoI arr cap bs rows x y e ρ) : Md ρ (fun i => i ∈ polF g arr cap bs) w (poN g arr cap bs) 4 ⟨[], [ownB], ⟨poBs', []⟩, 40⟩ (poN g arr cap bs) ⟨#[], []⟩ w := by
  refine Sy.Md.init ⟨own_start h I, trivial⟩ ⟨trivial, trivial⟩ ⟨fun _ _ i hi => ?_, trivial⟩ ⟨I.bds (by rw [h.fam.len]; exact h.l16), fun t ht => by cases ht⟩ rfl
  rcases hi with rfl | ⟨_, hi⟩
  · exact polF_mem.2 (.inl rfl)
  · exact (bitsOf_test i _).1 hi
/-- The poller's own blocks, and one of its watches. -/
theorem po_focus {β : Bn} {a : Act} {S : Nat → Prop} {w0 : World} {β0 : Bn} {s : Sy.St} (h : Pol w g arr cap bs rows) (I : PoI arr cap bs rows x y e ρ) {k : Nat} (hk : k < rows.length) (h22 : ρ.i 22 = (k : Int)) (hβ : ∀ l, l < 4 → β l = poN g arr cap bs l)
    (hlow : lowSt 30 s = true) (hf : ∀ n, 4 ≤ n → n < 8 → ({ s with hp := [ptB false, arB false (.cv 1)], cx := foCx } : Sy.St).free n = true) (hM : Md ρ S w0 β0 4 s β a w) :
    ∃ ρ' β', PoI arr cap bs rows x y e ρ' ∧ ρ'.i 22 = (k : Int) ∧ (∀ β, denL ρ' β foC = wC (rows.getD k [])) ∧ (∀ l, l < 4 → β' l = poN g arr cap bs l) ∧ β' 4 = bs.getD k 0 ∧
      Md ρ' (fun i => i = bs.getD k 0) w β' 8 (St.focus { s with hp := [ptB false, arB false (.cv 1)], cx := foCx } 4 137 foC true fdT) β' a w := by
  have hl := h.fam.len
  have hkb : k < bs.length := by omega
  have M1 := Sy.Md.hi hM 30 (wC (rows.getD k [])) hlow
  have hmem : rows.getD k [] ∈ rows := by rw [List.getD_eq_getElem?_getD, List.getElem?_eq_getElem hk]; exact List.getElem_mem _
  have hgood := h.fam.good _ hmem
  have hw := row_wC hgood
  have b0 := gI_bd (k := .i64) (rows.getD k []) 0
  have I1 : PoI arr cap bs rows x y e (ρ.hi 30 (wC (rows.getD k []))) := ⟨I.good, I.i20, I.i21, I.b20, I.c0, I.c1, I.f, I.o, I.x0, I.x1, I.y0, I.y1⟩
  have h221 : (ρ.hi 30 (wC (rows.getD k []))).i 22 = (k : Int) := h22
  have hmb : bs.getD k 0 ∈ bs := by rw [List.getD_eq_getElem?_getD, List.getElem?_eq_getElem hkb]; exact List.getElem_mem _
  have hcs : ∀ β, denL (ρ.hi 30 (wC (rows.getD k []))) β foC = wC (rows.getD k []) := fun β => rfl
  have hi30 : (ρ.hi 30 (wC (rows.getD k []))).i 30 = gI .i64 (rows.getD k []) 0 := rfl
  have hi31 : (ρ.hi 30 (wC (rows.getD k []))).i 31 = mk4 (gI .i64 (rows.getD k []) 1) := rfl
  have hi32 : (ρ.hi 30 (wC (rows.getD k []))).i 32 = gI .i64 (rows.getD k []) 2 := rfl
  generalize ρ.hi 30 (wC (rows.getD k [])) = ρ1 at *
  have e0 := hβ 0 (by decide)
  have e2 := hβ 2 (by decide)
  have e3 := hβ 3 (by decide)
  change β 0 = g at e0
  change β 2 = arr at e2
  change β 3 = cap at e3
  have hsl : denL ρ1 β [.slt 2 1 (.il 0) (tlen (.cv 1)) (.il 0)] = [sltV arr cap bs.length] := by
    show [sltZ (β 2) (β 3) 1 0 ((ρ1.c 1).length : Int).toNat 0] = _
    rw [sltZ_zero, e2, e3, I1.c1, List.length_map, Int.toNat_natCast]
  have M2 : Md ρ1 (fun i => i = bs.getD k 0) w β 4 { s with hp := [ptB false, arB false (.cv 1)], cx := foCx } β a w := by
    refine Sy.Md.anew M1.act ⟨?_, ?_, trivial⟩ ⟨⟨fun _ hr => ?_, trivial⟩, trivial, trivial⟩ ⟨fun h => (by cases h), fun h => (by cases h), trivial⟩ (cxP ⟨?_, ?_, ?_, ?_, ?_, ?_, ?_, trivial⟩ ⟨?_, ?_, trivial⟩)
    · show Blk w (β 0) 134 (denL ρ1 β [.slt 2 1 (.il 0) (tlen (.cv 1)) (.il 0)])
      rw [hsl, e0]
      exact h.obj
    · show RowT w (β 2) (β 3) 135 [.ptr] (ρ1.c 1)
      rw [e2, e3, I1.c1]
      exact h.tab
    · refine apart.of rfl rfl ?_
      show β 0 ≠ β 2
      rw [e0, e2]
      have : cap ≠ 0 := fun e => (hr.resolve_left (by simp [arB, Bk.nilable, Xt.isTab])) (e3.trans e)
      exact (h.a0 this).2.symm
    · show (0 : Int) ≤ ρ1.i 22 ∧ ρ1.i 22 ≤ 15
      have := h.l16
      omega
    · show _ ≤ ρ1.i 20 ∧ ρ1.i 20 ≤ _
      rw [I1.i20]; exact ⟨I1.x0, I1.x1⟩
    · show _ ≤ ρ1.i 21 ∧ ρ1.i 21 ≤ _
      rw [I1.i21]; exact ⟨I1.y0, I1.y1⟩
    · show (0 : Int) ≤ ((ρ1.c 1).length : Int) ∧ ((ρ1.c 1).length : Int) ≤ 16
      rw [I1.c1, List.length_map]
      have := h.l16
      omega
    · show _ ≤ ρ1.i 30 ∧ ρ1.i 30 ≤ _
      rw [hi30]; exact b0
    · show (0 : Int) ≤ ρ1.i 31 ∧ ρ1.i 31 ≤ 7
      rw [hi31]; exact hw.2
    · show (0 : Int) ≤ ρ1.i 32 ∧ ρ1.i 32 ≤ 7
      rw [hi32]; exact ⟨hgood.r0, hgood.r1⟩
    · rw [t_le]
      show (0 : Int) ≤ ρ1.i 22
      omega
    · rw [t_lt]
      show ρ1.i 22 < ((ρ1.c 1).length : Int)
      rw [I1.c1, List.length_map]
      omega
  have hg : (den ρ1 fdT).i.toNat = bs.getD k 0 := by
    show (getV .ptr (((ρ1.c 1).getD (ρ1.i 22).toNat []).getD 0 (.bool false))).i.toNat = _
    rw [I1.c1, h221, Int.toNat_natCast]
    have : (bs.map pr).getD k [] = pr (bs.getD k 0) := by
      rw [List.getD_eq_getElem?_getD, List.getD_eq_getElem?_getD, List.getElem?_map, List.getElem?_eq_getElem hkb]
      rfl
    rw [this]
    show (((bs.getD k 0 : Nat) : Int)).toNat = _
    exact Int.toNat_natCast _
  obtain ⟨β', M3, e4⟩ := Sy.Md.focus M2 4 (Nat.le_refl _) (hf 4 (by decide) (by decide)) (hf 5 (by decide) (by decide)) (hf 6 (by decide) (by decide)) (hf 7 (by decide) (by decide)) true hg (h.fam.blk k hk) hcs (fun z hz hr hfz => by
    rcases List.mem_cons.1 hz with rfl | hz
    · have := fp_one rfl hfz
      exact h.g0 ((this.trans e0) ▸ hmb)
    · rw [List.mem_singleton.1 hz] at hfz hr
      have q := fp_one rfl hfz
      have : cap ≠ 0 := fun e => (hr.resolve_left (by simp [arB, Bk.nilable, Xt.isTab])) (e3.trans e)
      exact (h.a0 this).1 ((q.trans e2) ▸ hmb)) (fun _ => .inl rfl)
  exact ⟨ρ1, β', I1, h221, hcs, fun l hl => (M3.old l hl).trans (hβ l hl), e4, ⟨M3.act, M3.hp, M3.ne, M3.may, M3.cx, M3.only, fun _ _ => rfl⟩⟩
/-- What is left of it when a watch has been turned. -/
theorem Pol.turned (h : Pol w g arr cap bs rows) {k : Nat} (hk : k < rows.length) {r' : List Value} (hr : WRow r') {w' : World} (ho : Only (fun i => i = bs.getD k 0) w w') (h3 : Blk w' (bs.getD k 0) 137 (wC r')) : Pol w' g arr cap bs (rows.set k r') := by
  have hl := h.fam.len
  have hkb : k < bs.length := by omega
  have hmb : bs.getD k 0 ∈ bs := by rw [List.getD_eq_getElem?_getD, List.getElem?_eq_getElem hkb]; exact List.getElem_mem _
  refine ⟨⟨by rw [List.length_set]; exact hl, h.fam.nd, fun i hi => ?_, fun r hr' => ?_⟩, by rw [List.length_set]; exact h.l16, h.obj.only ho fun e => h.g0 (e ▸ hmb), ⟨fun hc => ?_, h.tab.len, h.tab.ok⟩, h.g0, h.a0⟩
  · rw [List.length_set] at hi
    by_cases e : i = k
    · subst e
      have : (rows.set i r').getD i [] = r' := by rw [List.getD_eq_getElem?_getD, List.getElem?_set_self hi]; rfl
      rw [this]
      exact h3
    · have : (rows.set k r').getD i [] = rows.getD i [] := by rw [List.getD_eq_getElem?_getD, List.getD_eq_getElem?_getD, List.getElem?_set_ne (Ne.symm e)]
      rw [this]
      refine (h.fam.blk i hi).only ho fun q => e ?_
      have hib : i < bs.length := by omega
      rw [List.getD_eq_getElem?_getD, List.getD_eq_getElem?_getD, List.getElem?_eq_getElem hib, List.getElem?_eq_getElem hkb] at q
      exact (List.getElem_inj h.fam.nd).1 q
  · rcases List.mem_or_eq_of_mem_set hr' with q | q
    · exact h.fam.good r q
    · rw [q]; exact hr
  · obtain ⟨cur, h1, h2⟩ := h.tab.row hc
    exact ⟨cur, (ho.block _ (Array.getElem?_eq_some_iff.1 h1).1 fun e => (h.a0 hc).1 (e ▸ hmb)).trans h1, h2⟩
end
/-- What a call leaves of a poller: all that it turned was the poller's, all that is the poller's was that before or is new. -/
def PolGo (w w' : World) (g arr cap : Nat) (bs : List Nat) (rows' : List (List Value)) : Prop := ∃ arr' cap' bs', Pol w' g arr' cap' bs' rows' ∧ Only (fun i => i ∈ polF g arr cap bs) w w' ∧ ∀ i ∈ polF g arr' cap' bs', i ∈ polF g arr cap bs ∨ w.heap.size ≤ i
end Go.Proofs.Ytnjpoidpfcfbeaa
