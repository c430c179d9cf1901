/- The reference's poller: its Wait, run in parts. -/
import Derived.Test.YtnjpoidpfcfbeaaPollE
namespace Go.Proofs.Ytnjpoidpfcfbeaa
open Go.RowKit Sy
set_option linter.unusedVariables false
set_option linter.unusedSimpArgs false

def rwA : List SV := [.one (.c (.ptr 0 0)), .one (.c (.int .i64 (.iv 21)))]
def gwT (k : Nat) : Tm := .tb (.get (.int .i64) k) (.cv 0) (.iv 0) (.il 0)
def gwB (k : Nat) : Tm := .tb (.get .bool k) (.cv 0) (.iv 0) (.il 0)
def rwBs : List Bd := [⟨tlen (.cv 0), 0, 16⟩, i64B 21]
def rwSt : Sy.St := ⟨[], rfHp, ⟨rwBs, []⟩, 50⟩
def rwP : List Nat := [1, 1, 1, 1, 0, 1, 2]
def rw0 (P : Program) (fn : Func) : Rs := run P [] 10 400 4 (.code (pre rwP (bodyOf fn))) (enterS fn rwA rwSt)
def rwS1 (P : Program) (fn : Func) : Sy.St := tabSlot (tabSlot (tabSlot (lfAt (rw0 P fn) 1) 6 60 78 wkLv) 7 62 139 waLv) 8 64 139 waLv
def rwPc : List Tm := [.le (.iv 0) (tlen (.cv 0)), .le (.iv 1) (tlen (.cv 2)), .le (tlen (.cv 2)) (.iv 1), .le (.iv 2) (tlen (.cv 3)), .le (tlen (.cv 3)) (.iv 2), .le (.iv 3) (tlen (.cv 4)), .le (tlen (.cv 4)) (.iv 3)]
def rwCx : Cx := ⟨⟨.iv 0, 0, 16⟩ :: ⟨.iv 1, 0, 16⟩ :: ⟨.iv 2, 0, 16⟩ :: ⟨.iv 3, 0, 16⟩ :: ⟨tlen (.cv 2), 0, 16⟩ :: ⟨tlen (.cv 3), 0, 16⟩ :: ⟨tlen (.cv 4), 0, 16⟩ :: rwBs, rwPc⟩
def rwTbs : List Bk := [waB 60 2 78 wkLv, waB 62 3 139 waLv, waB 64 4 139 waLv]
def rwL (fn : Func) : Code := lpBody (Sy.sub rwP (bodyOf fn))
def rwT (P : Program) (fn : Func) : Sy.St := tplS (rwS1 P fn) (rwL fn) [(20, .one (.c (.int .i64 (.iv 0)))), (6, .one (.c (.slt 60 2 (.il 0) (.iv 1) (.il 0)))), (7, .one (.c (.slt 62 5 (.il 0) (.iv 2) (.il 0)))), (8, .one (.c (.slt 64 5 (.il 0) (.iv 3) (.il 0))))] rwTbs rwCx 70
def inP : List Nat := [1, 1, 0, 2, 1, 1, 0, 1, 2]
def rw1 (P : Program) (fn : Func) : Rs := run P [] 10 400 4 (.code (pre inP (rwL fn))) (rwT P fn)
def inL (fn : Func) : Code := lpBody (Sy.sub inP (rwL fn))
def inPc : List Tm := (.lt (.iv 0) (tlen (.cv 0))) :: rwPc
def inCx : Cx := ⟨⟨.iv 4, 0, 7⟩ :: ⟨.iv 5, 1, 8⟩ :: ⟨gwT 1, 0, 7⟩ :: ⟨gwT 2, 0, 7⟩ :: rwCx.bs, inPc⟩
def inT (P : Program) (fn : Func) : Sy.St := tplS (lfAt (rw1 P fn) 0) (inL fn) [(11, .one (.c (.int .i64 (.iv 4)))), (12, .one (.c (.int .i64 (.iv 5))))] [] inCx 72
def rw2 (P : Program) (fn : Func) : Rs := run P [] 10 400 4 (.code (inL fn)) (inT P fn)
def inX : Cx := ⟨⟨.iv 4, 0, 7⟩ :: rwCx.bs, inPc⟩
def inE (P : Program) (fn : Func) : Sy.St := { lfAt (rw2 P fn) 4 with cx := inX }
def rw3 (P : Program) (fn : Func) : Rs := run P [] 10 400 4 (.code (aft (.exit 2) inP (rwL fn))) (inE P fn)
def rwX (P : Program) (fn : Func) : Sy.St := { lfAt (rw1 P fn) 1 with cx := rwCx }
set_option maxRecDepth 100000 in
theorem rw_run0 : shR 4 none (rw0 Try.prog Try.f43) = some [.out 0 .ret [.lt (.iv 21) (.il 1)], .out 1 .normal [.not (.lt (.iv 21) (.il 1))]] := by kernel_rfl
set_option maxRecDepth 100000 in
theorem rw_ret0 : retsB Try.prog Try.f43 (rw0 Try.prog Try.f43) (.tup [.c .nslc, .c (.int .i64 (.il 1))]) [0] = true := by kernel_rfl
set_option maxRecDepth 100000 in
theorem rw_hp0 : (lfAt (rw0 Try.prog Try.f43) 0).hp = rfHp := by kernel_rfl
set_option maxRecDepth 100000 in
theorem rw_match : (matchS 4 (rwT Try.prog Try.f43) (rwS1 Try.prog Try.f43)).map noU = some [.i 1 (.il 0), .i 2 (.il 0), .i 3 (.il 0), .i 0 (.il 0), .c 4 tn, .c 3 tn, .c 2 tn] := by kernel_rfl
set_option maxRecDepth 100000 in
theorem rw_fr : ((lfAt (rw0 Try.prog Try.f43) 1).free 60 && (lfAt (rw0 Try.prog Try.f43) 1).free 61 && ((tabSlot (lfAt (rw0 Try.prog Try.f43) 1) 6 60 78 wkLv).free 62 && (tabSlot (lfAt (rw0 Try.prog Try.f43) 1) 6 60 78 wkLv).free 63) && ((tabSlot (tabSlot (lfAt (rw0 Try.prog Try.f43) 1) 6 60 78 wkLv) 7 62 139 waLv).free 64 && (tabSlot (tabSlot (lfAt (rw0 Try.prog Try.f43) 1) 6 60 78 wkLv) 7 62 139 waLv).free 65)) = true := by kernel_rfl
set_option maxRecDepth 100000 in
theorem rw_loop : Sy.sub rwP (bodyOf Try.f43) = .loop (rwL Try.f43) := by kernel_rfl
set_option maxRecDepth 100000 in
theorem rw_run1 : shR 4 none (rw1 Try.prog Try.f43) = some [.out 0 .normal inPc, .out 1 (.exit 0) (.not (.lt (.iv 0) (tlen (.cv 0))) :: rwPc)] := by kernel_rfl
set_option maxRecDepth 100000 in
theorem in_loop : Sy.sub inP (rwL Try.f43) = .loop (inL Try.f43) := by kernel_rfl
set_option maxRecDepth 100000 in
theorem in_match : (matchS 4 (inT Try.prog Try.f43) (lfAt (rw1 Try.prog Try.f43) 0)).map noU = some [.i 4 (.il 0), .i 5 (.il 1)] := by kernel_rfl
set_option maxRecDepth 100000 in
theorem rw_run2 : shR 4 (some (inT Try.prog Try.f43)) (rw2 Try.prog Try.f43) = some [.back [(.i 4 (.add (.iv 4) (.iv 5))), (.i 5 (.mul (.iv 5) (.il 2)))] ([(.eq (.iv 5) (.il 4)), .not (.eq (.md (.dv (gwT 1) (.iv 5)) (.il 2)) (.il 1)), (.eq (.md (.dv (gwT 2) (.iv 5)) (.il 2)) (.il 1)), (.lt (.iv 5) (.il 8))] ++ inPc), .back [(.i 5 (.mul (.iv 5) (.il 2)))] ([.not (.eq (.iv 5) (.il 4)), .not (.eq (.md (.dv (gwT 1) (.iv 5)) (.il 2)) (.il 1)), (.eq (.md (.dv (gwT 2) (.iv 5)) (.il 2)) (.il 1)), (.lt (.iv 5) (.il 8))] ++ inPc), .back [(.i 4 (.add (.iv 4) (.iv 5))), (.i 5 (.mul (.iv 5) (.il 2)))] ([(.eq (.md (.dv (gwT 1) (.iv 5)) (.il 2)) (.il 1)), (.eq (.md (.dv (gwT 2) (.iv 5)) (.il 2)) (.il 1)), (.lt (.iv 5) (.il 8))] ++ inPc), .back [(.i 5 (.mul (.iv 5) (.il 2)))] ([.not (.eq (.md (.dv (gwT 2) (.iv 5)) (.il 2)) (.il 1)), (.lt (.iv 5) (.il 8))] ++ inPc), .out 4 (.exit 2) (.not (.lt (.iv 5) (.il 8)) :: inPc)] := by kernel_rfl
def rwL3 : List Sh := [.back [.i 3 (.add (tlen (.cv 4)) (.il 1)), .i 0 (.add (.iv 0) (.il 1)), .c 4 (.tb .app (.cv 4) (wRw (gwT 0) (gwT 1) (gwT 2) (gwB 3) (gwB 4)) (.il 0))] ([(.eq (.iv 1) (.iv 21)), gwB 4, gwB 3, .not (.eq (.iv 4) (.il 0))] ++ inPc), .back [.i 1 (.add (tlen (.cv 2)) (.il 1)), .i 2 (.add (tlen (.cv 3)) (.il 1)), .i 0 (.add (.iv 0) (.il 1)), .c 3 (.tb .app (.cv 3) (wRw (gwT 0) (gwT 1) (gwT 2) (gwB 3) (.bl false)) (.il 0)), .c 2 (.tb .app (.cv 2) (.tb (.cons (.int .i64)) (gwT 0) (.tb (.cons (.int .i64)) (.iv 4) (.tb .row (.il 0) (.il 0) (.il 0)) (.il 0)) (.il 0)) (.il 0))] ([.not (.eq (.iv 1) (.iv 21)), gwB 4, gwB 3, .not (.eq (.iv 4) (.il 0))] ++ inPc), .back [.i 3 (.add (tlen (.cv 4)) (.il 1)), .i 0 (.add (.iv 0) (.il 1)), .c 4 (.tb .app (.cv 4) (wRw (gwT 0) (gwT 1) (gwT 2) (gwB 3) (gwB 4)) (.il 0))] ([.not (gwB 4), gwB 3, .not (.eq (.iv 4) (.il 0))] ++ inPc), .back [.i 3 (.add (tlen (.cv 4)) (.il 1)), .i 0 (.add (.iv 0) (.il 1)), .c 4 (.tb .app (.cv 4) (wRw (gwT 0) (gwT 1) (gwT 2) (gwB 3) (gwB 4)) (.il 0))] ([(.eq (.iv 1) (.iv 21)), .not (gwB 3), .not (.eq (.iv 4) (.il 0))] ++ inPc), .back [.i 1 (.add (tlen (.cv 2)) (.il 1)), .i 2 (.add (tlen (.cv 3)) (.il 1)), .i 0 (.add (.iv 0) (.il 1)), .c 3 (.tb .app (.cv 3) (wRw (gwT 0) (gwT 1) (gwT 2) (gwB 3) (.bl false)) (.il 0)), .c 2 (.tb .app (.cv 2) (.tb (.cons (.int .i64)) (gwT 0) (.tb (.cons (.int .i64)) (.iv 4) (.tb .row (.il 0) (.il 0) (.il 0)) (.il 0)) (.il 0)) (.il 0))] ([.not (.eq (.iv 1) (.iv 21)), .not (gwB 3), .not (.eq (.iv 4) (.il 0))] ++ inPc), .back [.i 3 (.add (tlen (.cv 4)) (.il 1)), .i 0 (.add (.iv 0) (.il 1)), .c 4 (.tb .app (.cv 4) (wRw (gwT 0) (gwT 1) (gwT 2) (gwB 3) (gwB 4)) (.il 0))] ((.eq (.iv 4) (.il 0)) :: inPc)]
set_option maxRecDepth 100000 in
theorem rw_run3 : shR 4 (some (rwT Try.prog Try.f43)) (rw3 Try.prog Try.f43) = some rwL3 := by kernel_rfl
def rwEnd : List Bk := [rfT 70 (.tb .app (.cv 4) (.cv 3) (.il 0)), rfO 70 (.add (tlen (.cv 4)) (tlen (.cv 3))), waB 60 2 78 wkLv, rfT 2 (.cv 0)]
set_option maxRecDepth 100000 in
theorem rw_run4 : smR Try.prog Try.f43 4 (run Try.prog [] 10 400 4 (.code (aft (.exit 0) rwP (bodyOf Try.f43))) (rwX Try.prog Try.f43)) = some [.ret (.tup [.c (.slt 60 2 (.il 0) (.iv 1) (.il 0)), .c (.int .i64 (.il 0))]) rwEnd rwPc] := by kernel_rfl

/-- What there is below bit b. -/
def parW (r k b : Int) : Int := (if 1 < b ∧ r % 2 = 1 ∧ k % 2 = 1 then 1 else 0) + ((if 2 < b ∧ r / 2 % 2 = 1 ∧ k / 2 % 2 = 1 then 2 else 0) + (if 4 < b ∧ r / 4 % 2 = 1 then 4 else 0))
theorem parW_8 (r k : Int) : parW r k 8 = wkM r k := by
  unfold parW wkM
  simp
theorem parW_1 (r k : Int) : parW r k 1 = 0 := by
  unfold parW
  simp
theorem parW_bd (r k b : Int) : 0 ≤ parW r k b ∧ parW r k b ≤ 7 := by
  unfold parW
  split <;> split <;> split <;> omega
theorem parW_yes {r k b : Int} (hb : b = 1 ∨ b = 2 ∨ b = 4) (hr : r / b % 2 = 1) (hk : k / b % 2 = 1 ∨ b = 4) : parW r k (b * 2) = parW r k b + b := by
  unfold parW
  rcases hb with rfl | rfl | rfl
  · have hk : k % 2 = 1 := by omega
    have hr : r % 2 = 1 := by omega
    simp [hr, hk]
  · have hk : k / 2 % 2 = 1 := by omega
    simp [hr, hk]
    all_goals (split <;> omega)
  · simp [hr]
    all_goals (split <;> split <;> omega)
theorem parW_no {r k b : Int} (hb : b = 1 ∨ b = 2 ∨ b = 4) (h : ¬ (r / b % 2 = 1 ∧ (k / b % 2 = 1 ∨ b = 4))) : parW r k (b * 2) = parW r k b := by
  unfold parW
  rcases hb with rfl | rfl | rfl
  · have h : ¬ (r % 2 = 1 ∧ k % 2 = 1) := by omega
    simp [h]
  · have h : ¬ (r / 2 % 2 = 1 ∧ k / 2 % 2 = 1) := by omega
    simp [h]
  · have h : ¬ (r / 4 % 2 = 1) := by omega
    simp [h]
/-- After k rows: T told of, R not. -/
structure RwI (rows : List (List Value)) (most : Int) (k : Nat) (T R : List (List Value)) : Prop where
  hk : k ≤ rows.length
  spl : wtS most 0 rows = (T ++ (wtS most T.length (rows.drop k)).1, R ++ (wtS most T.length (rows.drop k)).2)
  len : T.length + R.length = k
theorem RwI.pass {rows : List (List Value)} {most : Int} {k : Nat} {T R : List (List Value)} (h : RwI rows most k T R) (hk : k < rows.length) (hp : passB most T.length (rows.getD k []) = true) : RwI rows most (k + 1) T (R ++ [rows.getD k []]) := by
  have e : rows.getD k [] = rows[k] := by rw [List.getD_eq_getElem?_getD, List.getElem?_eq_getElem hk]; rfl
  have hs := h.spl
  have hl := h.len
  rw [List.drop_eq_getElem_cons hk, ← e] at hs
  simp only [wtS, hp, if_true] at hs
  exact ⟨hk, by rw [hs, List.append_assoc]; rfl, by rw [List.length_append, List.length_singleton]; omega⟩
theorem RwI.tell {rows : List (List Value)} {most : Int} {k : Nat} {T R : List (List Value)} (h : RwI rows most k T R) (hk : k < rows.length) (hp : passB most T.length (rows.getD k []) = false) : RwI rows most (k + 1) (T ++ [rows.getD k []]) R := by
  have e : rows.getD k [] = rows[k] := by rw [List.getD_eq_getElem?_getD, List.getElem?_eq_getElem hk]; rfl
  have hs := h.spl
  have hl := h.len
  rw [List.drop_eq_getElem_cons hk, ← e] at hs
  simp only [wtS, hp, if_false, Bool.false_eq_true] at hs
  exact ⟨hk, by rw [hs, List.append_assoc, List.length_append]; rfl, by rw [List.length_append, List.length_singleton]; omega⟩
theorem RwI.fin {rows : List (List Value)} {most : Int} {T R : List (List Value)} (h : RwI rows most rows.length T R) : wtS most 0 rows = (T, R) := by
  have := h.spl
  rw [List.drop_of_length_le (Nat.le_refl _)] at this
  simpa [wtS] using this
end Go.Proofs.Ytnjpoidpfcfbeaa
/- The reference's poller: contract of Wait. -/
namespace Go.Proofs.Ytnjpoidpfcfbeaa
open Go.RowKit Sy
set_option linter.unusedVariables false
set_option linter.unusedSimpArgs false

structure RwE (rows : List (List Value)) (most : Int) (k : Nat) (T R : List (List Value)) (ρ : Env) : Prop where
  good : ρ.good
  i0 : ρ.i 0 = (k : Int)
  i1 : ρ.i 1 = (T.length : Int)
  i2 : ρ.i 2 = (T.length : Int)
  i3 : ρ.i 3 = (R.length : Int)
  i21 : ρ.i 21 = most
  c0 : ρ.c 0 = rows
  c2 : ρ.c 2 = T.map wakeR
  c3 : ρ.c 3 = T.map toldR
  c4 : ρ.c 4 = R
  m0 : -9223372036854775808 ≤ most
  m1 : most ≤ 9223372036854775807
section
variable {rows : List (List Value)} {most : Int} {k : Nat} {T R : List (List Value)} {ρ : Env} {w w1 : World} {g a c : Nat}
theorem RwE.cx (E : RwE rows most k T R ρ) (l16 : rows.length ≤ 16) (I : RwI rows most k T R) : rwCx.ok ρ := by
  have i0 := E.i0
  have i1 := E.i1
  have i2 := E.i2
  have i3 := E.i3
  have hk := I.hk
  have hl := I.len
  have l1 : (ρ.c 0).length = rows.length := by rw [E.c0]
  have l2 : (ρ.c 2).length = T.length := by rw [E.c2, List.length_map]
  have l3 : (ρ.c 3).length = T.length := by rw [E.c3, List.length_map]
  have l4 : (ρ.c 4).length = R.length := by rw [E.c4]
  refine ⟨bdsP_ok ⟨?_, ?_, ?_, ?_, ?_, ?_, ?_, ?_, ?_, trivial⟩, pcs_all ⟨?_, ?_, ?_, ?_, ?_, ?_, ?_, trivial⟩⟩
  · show (0 : Int) ≤ ρ.i 0 ∧ ρ.i 0 ≤ 16
    omega
  · show (0 : Int) ≤ ρ.i 1 ∧ ρ.i 1 ≤ 16
    omega
  · show (0 : Int) ≤ ρ.i 2 ∧ ρ.i 2 ≤ 16
    omega
  · show (0 : Int) ≤ ρ.i 3 ∧ ρ.i 3 ≤ 16
    omega
  · show (0 : Int) ≤ ((ρ.c 2).length : Int) ∧ ((ρ.c 2).length : Int) ≤ 16
    omega
  · show (0 : Int) ≤ ((ρ.c 3).length : Int) ∧ ((ρ.c 3).length : Int) ≤ 16
    omega
  · show (0 : Int) ≤ ((ρ.c 4).length : Int) ∧ ((ρ.c 4).length : Int) ≤ 16
    omega
  · show (0 : Int) ≤ ((ρ.c 0).length : Int) ∧ ((ρ.c 0).length : Int) ≤ 16
    omega
  · show _ ≤ ρ.i 21 ∧ ρ.i 21 ≤ _
    rw [E.i21]; exact ⟨E.m0, E.m1⟩
  all_goals rw [t_le]
  · show ρ.i 0 ≤ ((ρ.c 0).length : Int)
    omega
  · show ρ.i 1 ≤ ((ρ.c 2).length : Int)
    omega
  · show ((ρ.c 2).length : Int) ≤ ρ.i 1
    omega
  · show ρ.i 2 ≤ ((ρ.c 3).length : Int)
    omega
  · show ((ρ.c 3).length : Int) ≤ ρ.i 2
    omega
  · show ρ.i 3 ≤ ((ρ.c 4).length : Int)
    omega
  · show ((ρ.c 4).length : Int) ≤ ρ.i 3
    omega
theorem RwE.gi (E : RwE rows most k T R ρ) (j : Nat) : (den ρ (gwT j)).i = gI .i64 (rows.getD k []) j := by
  show (getV (.int .i64) (((ρ.c 0).getD (ρ.i 0).toNat []).getD j (.bool false))).i = _
  rw [E.c0, E.i0, Int.toNat_natCast]
  rfl
theorem RwE.gb (E : RwE rows most k T R ρ) (j : Nat) : (den ρ (gwB j)).b = gB (rows.getD k []) j := by
  show (getV .bool (((ρ.c 0).getD (ρ.i 0).toNat []).getD j (.bool false))).b = _
  rw [E.c0, E.i0, Int.toNat_natCast]
  rfl
theorem RwE.li (E : RwE rows most k T R ρ) (hk : k < rows.length) : (den ρ (.lt (.iv 0) (tlen (.cv 0)))).b = true := by
  rw [t_lt]
  show ρ.i 0 < ((ρ.c 0).length : Int)
  rw [E.i0, E.c0]
  omega
/-- In the loop over the bits. -/
structure RiE (rows : List (List Value)) (most : Int) (k : Nat) (T R : List (List Value)) (ρ : Env) : Prop where
  e : RwE rows most k T R ρ
  i5 : ρ.i 5 = 1 ∨ ρ.i 5 = 2 ∨ ρ.i 5 = 4 ∨ ρ.i 5 = 8
  i4 : ρ.i 4 = parW (gI .i64 (rows.getD k []) 2) (gI .i64 (rows.getD k []) 1) (ρ.i 5)
theorem RiE.cx (E : RiE rows most k T R ρ) (l16 : rows.length ≤ 16) (I : RwI rows most k T R) (hk : k < rows.length) (hr : WRow (rows.getD k [])) : inCx.ok ρ := by
  have hc := E.e.cx l16 I
  have i5 := E.i5
  have b4 := parW_bd (gI .i64 (rows.getD k []) 2) (gI .i64 (rows.getD k []) 1) (ρ.i 5)
  refine ⟨fun z hz => ?_, fun t ht => ?_⟩
  · rcases List.mem_cons.1 hz with rfl | hz
    · show (0 : Int) ≤ ρ.i 4 ∧ ρ.i 4 ≤ 7
      rw [E.i4]; exact b4
    rcases List.mem_cons.1 hz with rfl | hz
    · show (1 : Int) ≤ ρ.i 5 ∧ ρ.i 5 ≤ 8
      omega
    rcases List.mem_cons.1 hz with rfl | hz
    · show (0 : Int) ≤ (den ρ (gwT 1)).i ∧ (den ρ (gwT 1)).i ≤ 7
      rw [E.e.gi]; exact ⟨hr.m0, hr.m1⟩
    rcases List.mem_cons.1 hz with rfl | hz
    · show (0 : Int) ≤ (den ρ (gwT 2)).i ∧ (den ρ (gwT 2)).i ≤ 7
      rw [E.e.gi]; exact ⟨hr.r0, hr.r1⟩
    exact hc.bs z hz
  · rcases List.mem_cons.1 ht with rfl | ht
    · exact E.e.li hk
    · exact hc.pc t ht
def RwJ (rows : List (List Value)) (most : Int) (ρ : Env) : Prop := ∃ k T R, RwE rows most k T R ρ ∧ RwI rows most k T R
theorem rw_out : outOf 0 inP (rwL Try.f43) := ⟨by decide, by decide, trivial⟩
theorem rw_leaves (E : RwE rows most k T R ρ) (I : RwI rows most k T R) (hk : k < rows.length) (hr : WRow (rows.getD k [])) (h4 : ρ.i 4 = wkM (gI .i64 (rows.getD k []) 2) (gI .i64 (rows.getD k []) 1)) {r : Rs} {B : Bs} (hB : B.ρ = ρ) {Q : Exit → Act → World → Prop} :
    AllL (Sh.done r B Q fun l β => ∀ u, RwJ rows most { ρ.sub β l with u := u } ∧ (rows.length - (({ ρ.sub β l with u := u } : Env).i 0).toNat) < (rows.length - (ρ.i 0).toNat)) rwL3 := by
  subst hB
  have i0 := E.i0
  have lt : (rows.length - (B.ρ.i 0 + 1).toNat) < (rows.length - (B.ρ.i 0).toNat) := by rw [i0]; omega
  have pas : ∀ β u, passB most T.length (rows.getD k []) = true → RwJ rows most { B.ρ.sub β [.i 3 (.add (tlen (.cv 4)) (.il 1)), .i 0 (.add (.iv 0) (.il 1)), .c 4 (.tb .app (.cv 4) (wRw (gwT 0) (gwT 1) (gwT 2) (gwB 3) (gwB 4)) (.il 0))] with u := u } ∧ (rows.length - (({ B.ρ.sub β [.i 3 (.add (tlen (.cv 4)) (.il 1)), .i 0 (.add (.iv 0) (.il 1)), .c 4 (.tb .app (.cv 4) (wRw (gwT 0) (gwT 1) (gwT 2) (gwB 3) (gwB 4)) (.il 0))] with u := u } : Env).i 0).toNat) < (rows.length - (B.ρ.i 0).toNat) := fun β u hp => by
    refine ⟨⟨k + 1, T, R ++ [rows.getD k []], ⟨E.good, ?_, E.i1, E.i2, ?_, E.i21, E.c0, E.c2, E.c3, ?_, E.m0, E.m1⟩, I.pass hk hp⟩, lt⟩
    · show B.ρ.i 0 + 1 = _
      rw [i0]; rfl
    · show ((B.ρ.c 4).length : Int) + 1 = _
      rw [E.c4, List.length_append]; rfl
    · show B.ρ.c 4 ++ [[Value.int .i64 (den B.ρ (gwT 0)).i, .int .i64 (den B.ρ (gwT 1)).i, .int .i64 (den B.ρ (gwT 2)).i, .bool (den B.ρ (gwB 3)).b, .bool (den B.ρ (gwB 4)).b]] = _
      rw [E.gi, E.gi, E.gi, E.gb, E.gb, ← row_eq hr.ok, E.c4]
  have tol : ∀ β u, passB most T.length (rows.getD k []) = false → RwJ rows most { B.ρ.sub β [.i 1 (.add (tlen (.cv 2)) (.il 1)), .i 2 (.add (tlen (.cv 3)) (.il 1)), .i 0 (.add (.iv 0) (.il 1)), .c 3 (.tb .app (.cv 3) (wRw (gwT 0) (gwT 1) (gwT 2) (gwB 3) (.bl false)) (.il 0)), .c 2 (.tb .app (.cv 2) (.tb (.cons (.int .i64)) (gwT 0) (.tb (.cons (.int .i64)) (.iv 4) (.tb .row (.il 0) (.il 0) (.il 0)) (.il 0)) (.il 0)) (.il 0))] with u := u } ∧ (rows.length - (({ B.ρ.sub β [.i 1 (.add (tlen (.cv 2)) (.il 1)), .i 2 (.add (tlen (.cv 3)) (.il 1)), .i 0 (.add (.iv 0) (.il 1)), .c 3 (.tb .app (.cv 3) (wRw (gwT 0) (gwT 1) (gwT 2) (gwB 3) (.bl false)) (.il 0)), .c 2 (.tb .app (.cv 2) (.tb (.cons (.int .i64)) (gwT 0) (.tb (.cons (.int .i64)) (.iv 4) (.tb .row (.il 0) (.il 0) (.il 0)) (.il 0)) (.il 0)) (.il 0))] with u := u } : Env).i 0).toNat) < (rows.length - (B.ρ.i 0).toNat) := fun β u hp => by
    refine ⟨⟨k + 1, T ++ [rows.getD k []], R, ⟨E.good, ?_, ?_, ?_, E.i3, E.i21, E.c0, ?_, ?_, E.c4, E.m0, E.m1⟩, I.tell hk hp⟩, lt⟩
    · show B.ρ.i 0 + 1 = _
      rw [i0]; rfl
    · show ((B.ρ.c 2).length : Int) + 1 = _
      rw [E.c2, List.length_map, List.length_append]; rfl
    · show ((B.ρ.c 3).length : Int) + 1 = _
      rw [E.c3, List.length_map, List.length_append]; rfl
    · show B.ρ.c 2 ++ [[Value.int .i64 (den B.ρ (gwT 0)).i, .int .i64 (B.ρ.i 4)]] = _
      rw [E.gi, h4, E.c2, List.map_append]; rfl
    · show B.ρ.c 3 ++ [[Value.int .i64 (den B.ρ (gwT 0)).i, .int .i64 (den B.ρ (gwT 1)).i, .int .i64 (den B.ρ (gwT 2)).i, .bool (den B.ρ (gwB 3)).b, .bool false]] = _
      rw [E.gi, E.gi, E.gi, E.gb, E.c3, List.map_append]; rfl
  have e21 := E.i21
  have e1 := E.i1
  have g3 := E.gb 3
  have g4 := E.gb 4
  have nb : ∀ t : Tm, (den B.ρ (.not t)).b = true → (den B.ρ t).b = false := fun t q => by rw [t_not] at q; simpa using q
  refine ⟨?_, ?_, ?_, ?_, ?_, ?_, trivial⟩
  · intro hpc β u
    refine pas β u ?_
    have q := hpc.1
    rw [t_eq] at q
    change B.ρ.i 1 = B.ρ.i 21 at q
    unfold passB
    rw [show ((T.length : Int) = most) from by omega, decide_eq_true rfl, Bool.or_true]
  · intro hpc β u
    refine tol β u ?_
    obtain ⟨q, q2, q3, q4, _⟩ := hpc
    rw [t_not, t_eq] at q q4
    change ¬ B.ρ.i 1 = B.ρ.i 21 at q
    change ¬ B.ρ.i 4 = 0 at q4
    rw [h4] at q4
    rw [g4] at q2
    unfold passB
    rw [q2, decide_eq_false q4, decide_eq_false (show ¬ (T.length : Int) = most by omega)]
    simp
  · intro hpc β u
    refine pas β u ?_
    obtain ⟨q, q2, q3, _⟩ := hpc
    have q := nb _ q
    rw [g4] at q
    rw [g3] at q2
    unfold passB
    rw [q, q2]
    simp
  · intro hpc β u
    refine pas β u ?_
    have q := hpc.1
    rw [t_eq] at q
    change B.ρ.i 1 = B.ρ.i 21 at q
    unfold passB
    rw [show ((T.length : Int) = most) from by omega, decide_eq_true rfl, Bool.or_true]
  · intro hpc β u
    refine tol β u ?_
    obtain ⟨q, q2, q4, _⟩ := hpc
    rw [t_not, t_eq] at q q4
    have q2 := nb _ q2
    change ¬ B.ρ.i 1 = B.ρ.i 21 at q
    change ¬ B.ρ.i 4 = 0 at q4
    rw [h4] at q4
    rw [g3] at q2
    unfold passB
    rw [q2, decide_eq_false q4, decide_eq_false (show ¬ (T.length : Int) = most by omega)]
    simp
  · intro hpc β u
    refine pas β u ?_
    have q := hpc.1
    rw [t_eq] at q
    change B.ρ.i 4 = 0 at q
    rw [h4] at q
    unfold passB
    rw [decide_eq_true q, Bool.true_or, Bool.true_or]
set_option maxRecDepth 100000 in
set_option maxHeartbeats 1000000 in
theorem rw_round (l16 : rows.length ≤ 16) (hg : ∀ r ∈ rows, WRow r) {Q : Exit → Act → World → Prop}
    (hend : ∀ ρ T R β a' w1, RwE rows most rows.length T R ρ → RwI rows most rows.length T R → Md ρ (poS g a c) w (rfN g a c) 4 (lfAt (rw1 Try.prog Try.f43) 1) β a' w1 → Q (.exit 0) a' w1)
    (ρ : Env) (hJ : RwJ rows most ρ) (β : Bn) (a' : Act) (w' : World) (M : Md ρ (poS g a c) w (rfN g a c) 4 (rwT Try.prog Try.f43) β a' w') :
    (rwL Try.f43).wp Try.prog (Exit.then (NextR (poS g a c) w (rfN g a c) 4 (rwT Try.prog Try.f43) (RwJ rows most) (fun ρ => rows.length - (ρ.i 0).toNat) (rows.length - (ρ.i 0).toNat)) Q) a' w' := by
  obtain ⟨k, T, R, E, I⟩ := hJ
  refine part_pre (B := ⟨ρ, poS g a c, w, rfN g a c, 4⟩) (sp := []) (p := inP) E.good (fun q hq => by cases hq) rfl (r := rw1 Try.prog Try.f43) rfl rw_run1 ⟨?_, ?_, trivial⟩ M
  · intro hpc β1 a1 w1 M1
    have hk : k < rows.length := by
      have q : (den ρ (.lt (.iv 0) (tlen (.cv 0)))).b = true := hpc.1
      rw [t_lt] at q
      change ρ.i 0 < ((ρ.c 0).length : Int) at q
      rw [E.c0, E.i0] at q
      omega
    have hmem : rows.getD k [] ∈ rows := by rw [List.getD_eq_getElem?_getD, List.getElem?_eq_getElem hk]; exact List.getElem_mem _
    have hr := hg _ hmem
    show (Sy.sub inP (rwL Try.f43)).wp Try.prog (ctx Try.prog inP (rwL Try.f43) _) a1 w1
    rw [in_loop]
    have E1 : ∀ u, RiE rows most k T R { ρ.sub β1 [.i 4 (.il 0), .i 5 (.il 1)] with u := u } := fun u => ⟨⟨E.good, E.i0, E.i1, E.i2, E.i3, E.i21, E.c0, E.c2, E.c3, E.c4, E.m0, E.m1⟩, .inl rfl, (parW_1 _ _).symm⟩
    obtain ⟨u, β2, M2⟩ := Sy.Md.enter M1 in_match (fun u => (E1 u).cx l16 I hk hr)
    refine loop_wp (r := rw2 Try.prog Try.f43) rfl rw_run2 (RiE rows most k T R) (fun ρ => (16 - ρ.i 5).toNat) (fun ρ E => E.e.good) (fun _ _ q hq => by cases hq) (fun ρ E => E.cx l16 I hk hr) (fun ρ2 E2 => ?_) (E1 u) M2
    have i5 := E2.i5
    have h4 := E2.i4
    have dbl : (den ρ2 (.lt (.iv 5) (.il 8))).b = true → ρ2.i 5 = 1 ∨ ρ2.i 5 = 2 ∨ ρ2.i 5 = 4 := fun q => by
      rw [t_lt] at q
      change ρ2.i 5 < 8 at q
      omega
    have nxt : (ρ2.i 5 = 1 ∨ ρ2.i 5 = 2 ∨ ρ2.i 5 = 4) → ((16 - ρ2.i 5 * 2).toNat < (16 - ρ2.i 5).toNat) ∧ (ρ2.i 5 * 2 = 1 ∨ ρ2.i 5 * 2 = 2 ∨ ρ2.i 5 * 2 = 4 ∨ ρ2.i 5 * 2 = 8) := fun q => by omega
    have cr : (den ρ2 (.eq (.md (.dv (gwT 2) (.iv 5)) (.il 2)) (.il 1))).b = true ↔ gI .i64 (rows.getD k []) 2 / ρ2.i 5 % 2 = 1 := by
      rw [t_eq]
      show (den ρ2 (gwT 2)).i / ρ2.i 5 % 2 = 1 ↔ _
      rw [E2.e.gi]
    have cm : (den ρ2 (.eq (.md (.dv (gwT 1) (.iv 5)) (.il 2)) (.il 1))).b = true ↔ gI .i64 (rows.getD k []) 1 / ρ2.i 5 % 2 = 1 := by
      rw [t_eq]
      show (den ρ2 (gwT 1)).i / ρ2.i 5 % 2 = 1 ↔ _
      rw [E2.e.gi]
    have c4 : (den ρ2 (.eq (.iv 5) (.il 4))).b = true ↔ ρ2.i 5 = 4 := by
      rw [t_eq]
      exact Iff.rfl
    have yes : ∀ β u, (ρ2.i 5 = 1 ∨ ρ2.i 5 = 2 ∨ ρ2.i 5 = 4) → gI .i64 (rows.getD k []) 2 / ρ2.i 5 % 2 = 1 → (gI .i64 (rows.getD k []) 1 / ρ2.i 5 % 2 = 1 ∨ ρ2.i 5 = 4) → RiE rows most k T R { ρ2.sub β [(.i 4 (.add (.iv 4) (.iv 5))), (.i 5 (.mul (.iv 5) (.il 2)))] with u := u } ∧ (16 - (({ ρ2.sub β [(.i 4 (.add (.iv 4) (.iv 5))), (.i 5 (.mul (.iv 5) (.il 2)))] with u := u } : Env).i 5)).toNat < (16 - ρ2.i 5).toNat := fun β u hb h1 h2 => by
      refine ⟨⟨⟨E2.e.good, E2.e.i0, E2.e.i1, E2.e.i2, E2.e.i3, E2.e.i21, E2.e.c0, E2.e.c2, E2.e.c3, E2.e.c4, E2.e.m0, E2.e.m1⟩, (nxt hb).2, ?_⟩, (nxt hb).1⟩
      show ρ2.i 4 + ρ2.i 5 = parW _ _ (ρ2.i 5 * 2)
      rw [parW_yes hb h1 h2, h4]
    have no : ∀ β u, (ρ2.i 5 = 1 ∨ ρ2.i 5 = 2 ∨ ρ2.i 5 = 4) → ¬ (gI .i64 (rows.getD k []) 2 / ρ2.i 5 % 2 = 1 ∧ (gI .i64 (rows.getD k []) 1 / ρ2.i 5 % 2 = 1 ∨ ρ2.i 5 = 4)) → RiE rows most k T R { ρ2.sub β [(.i 5 (.mul (.iv 5) (.il 2)))] with u := u } ∧ (16 - (({ ρ2.sub β [(.i 5 (.mul (.iv 5) (.il 2)))] with u := u } : Env).i 5)).toNat < (16 - ρ2.i 5).toNat := fun β u hb h1 => by
      refine ⟨⟨⟨E2.e.good, E2.e.i0, E2.e.i1, E2.e.i2, E2.e.i3, E2.e.i21, E2.e.c0, E2.e.c2, E2.e.c3, E2.e.c4, E2.e.m0, E2.e.m1⟩, (nxt hb).2, ?_⟩, (nxt hb).1⟩
      show ρ2.i 4 = parW _ _ (ρ2.i 5 * 2)
      rw [parW_no hb h1, h4]
    refine ⟨?_, ?_, ?_, ?_, ?_, trivial⟩
    · intro hpc β u
      obtain ⟨q1, q2, q3, q4, _⟩ := hpc
      exact yes β u (dbl q4) (cr.1 q3) (.inr (c4.1 q1))
    · intro hpc β u
      obtain ⟨q1, q2, q3, q4, _⟩ := hpc
      rw [t_not] at q1 q2
      exact no β u (dbl q4) (fun q => q.2.elim (fun q => q2 (cm.2 q)) (fun q => q1 (c4.2 q)))
    · intro hpc β u
      obtain ⟨q2, q3, q4, _⟩ := hpc
      exact yes β u (dbl q4) (cr.1 q3) (.inl (cm.1 q2))
    · intro hpc β u
      obtain ⟨q3, q4, _⟩ := hpc
      rw [t_not] at q3
      exact no β u (dbl q4) (fun q => q3 (cr.2 q.1))
    · intro hpc β3 a3 w3 M3
      have q3 := hpc.1
      rw [t_not, t_lt] at q3
      change ¬ ρ2.i 5 < 8 at q3
      have h8 : ρ2.i 5 = 8 := by omega
      rw [h8, parW_8] at h4
      have hcx : inX.ok ρ2 := by
        have hc := E2.e.cx l16 I
        have b4 := parW_bd (gI .i64 (rows.getD k []) 2) (gI .i64 (rows.getD k []) 1) 8
        rw [parW_8] at b4
        refine ⟨fun z hz => ?_, fun t ht => ?_⟩
        · rcases List.mem_cons.1 hz with rfl | hz
          · show (0 : Int) ≤ ρ2.i 4 ∧ ρ2.i 4 ≤ 7
            rw [h4]; exact b4
          · exact hc.bs z hz
        · rcases List.mem_cons.1 ht with rfl | ht
          · exact E2.e.li hk
          · exact hc.pc t ht
      have M4 : Md ρ2 (poS g a c) w (rfN g a c) 4 (inE Try.prog Try.f43) β3 a3 w3 := ⟨M3.act, M3.hp, M3.ne, M3.may, hcx, M3.only, M3.old⟩
      have e00 : ρ2.i 0 = ρ.i 0 := E2.e.i0.trans E.i0.symm
      refine round_aft (r := rw3 Try.prog Try.f43) (.exit 2) rfl rw_run3 (fun ρ ⟨k, T, R, E, I⟩ => E.cx l16 I) E2.e.good (fun q hq => by cases hq) ?_ M4
      have := rw_leaves E2.e I hk hr h4 (r := rw3 Try.prog Try.f43) (B := ⟨ρ2, poS g a c, w, rfN g a c, 4⟩) rfl (Q := Q)
      rw [e00] at this
      exact this
  · intro hpc β1 a1 w1 M1
    have hk : k = rows.length := by
      have q : (den ρ (.not (.lt (.iv 0) (tlen (.cv 0))))).b = true := hpc.1
      rw [t_not, t_lt] at q
      change ¬ ρ.i 0 < ((ρ.c 0).length : Int) at q
      rw [E.c0, E.i0] at q
      have := I.hk
      omega
    subst hk
    exact ⟨rw_out, hend ρ T R β1 a1 w1 E I M1⟩
/-- What the reference's Wait does. -/
def RwPost (w : World) (g a c : Nat) (rows : List (List Value)) (most : Int) (v : Value) (w' : World) : Prop :=
  ∃ go co, v = .tuple #[sltV go co (waO rows most).length, .int .i64 (waC most)] ∧ RowT w' go co 78 wkLv (waO rows most) ∧ (co ≠ 0 → w.heap.size ≤ go) ∧
  ∃ a' c', Rf w' g a' c' (waR rows most) ∧ Only (poS g a c) w w' ∧ (c' ≠ 0 → (c ≠ 0 ∧ a' = a) ∨ w.heap.size ≤ a') ∧ (co ≠ 0 → go ≠ g ∧ (c' ≠ 0 → go ≠ a'))
theorem wtS_len (most : Int) : ∀ (l : List (List Value)) (n : Nat), (wtS most n l).1.length + (wtS most n l).2.length = l.length
  | [], _ => rfl
  | r :: l, n => by
    simp only [wtS]
    split
    · have := wtS_len most l n
      simp only [List.length_cons]
      omega
    · have := wtS_len most l (n + 1)
      simp only [List.length_cons]
      omega
def rwE0 (rows : List (List Value)) (most : Int) : Env := { mkEnv0 [] [] [] [] with
  i := fun n => if n = 21 then most else 0
  c := fun n => if n = 0 then rows else [] }
set_option maxRecDepth 100000 in
set_option maxHeartbeats 1000000 in
/-- The reference's Wait. -/
theorem rwai_calls (h : Rf w g a c rows) (hg : ∀ r ∈ rows, WRow r) (hm0 : -9223372036854775808 ≤ most) (hm1 : most ≤ 9223372036854775807) :
    Calls Try.prog 43 #[.pointer (some ⟨g, 0, none⟩), .int .i64 most] w (RetP (RwPost w g a c rows most)) := by
  have l16 := h.l16
  have hE0 : RwE rows most 0 [] [] (rwE0 rows most) := ⟨fun i => rfl, rfl, rfl, rfl, rfl, rfl, rfl, rfl, rfl, rfl, hm0, hm1⟩
  have hI0 : RwI rows most 0 [] [] := ⟨Nat.zero_le _, rfl, rfl⟩
  have hM0 : Md (rwE0 rows most) (poS g a c) w (rfN g a c) 4 rwSt (rfN g a c) ⟨#[], []⟩ w := by
    refine Sy.Md.init ⟨?_, h.tab, trivial⟩ ⟨⟨fun _ hr => ?_, trivial⟩, trivial, trivial⟩ ⟨fun _ _ i hi => ?_, fun _ hr i hi => ?_, trivial⟩ ⟨bdsP_ok ⟨⟨(show (0 : Int) ≤ (rows.length : Int) by omega), (show (rows.length : Int) ≤ 16 by omega)⟩, ⟨hm0, hm1⟩, trivial⟩, fun t ht => by cases ht⟩ rfl
    · show Blk w g 69 [sltZ a c 5 0 ((rows.length : Int)).toNat 0]
      rw [sltZ_zero, Int.toNat_natCast]
      exact h.obj
    · exact apart.of rfl rfl (h.ne (hr.resolve_left (by simp [rfT, Bk.nilable, Xt.isTab]))).symm
    · exact .inl (fp_one rfl hi)
    · exact .inr ⟨hr.resolve_left (by simp [rfT, Bk.nilable, Xt.isTab]), fp_one rfl hi⟩
  refine calls_pre (B := ⟨rwE0 rows most, poS g a c, w, rfN g a c, 4⟩) (sp := []) (p := rwP) (xs := rwA) (s := rwSt) (r := rw0 Try.prog Try.f43) hE0.good (fun q hq => by cases hq) rfl Try.func43 rfl rfl rw_run0 hM0 ⟨?_, ?_, trivial⟩ rfl
  · intro hpc β a1 w1 M1
    have hm : most < 1 := by
      have := hpc.1
      rw [t_lt] at this
      exact this
    refine ret_post (B := ⟨rwE0 rows most, poS g a c, w, rfN g a c, 4⟩) M1 (retsB_ok rw_ret0 rfl) ?_
    have hp := rw_hp0
    obtain ⟨a', c', h1, h2, h3⟩ := rf_leaf (hp := rfHp) ⟨fun b hb => M1.hp b (by rw [hp]; exact hb), fun x hx y hy => M1.ne x (by rw [hp]; exact hx) y (by rw [hp]; exact hy), fun b hb => M1.may b (by rw [hp]; exact hb), M1.only, M1.old⟩ (List.mem_cons_self ..) (List.mem_cons_of_mem _ (List.mem_cons_self ..)) (by decide) (rows' := rows) rfl rfl l16
    refine ⟨0, 0, ?_, ⟨fun hc => absurd rfl hc, ?_, fun r hr => ?_⟩, fun hc => absurd rfl hc, a', c', ?_, h2, h3, fun hc => absurd rfl hc⟩
    · show Value.tuple #[.slice none 0 0, .int .i64 1] = _
      have : waC most = 1 := if_pos hm
      rw [this]
      unfold waO
      rw [if_pos hm]
      rfl
    · unfold waO; rw [if_pos hm]; exact Nat.le_refl _
    · unfold waO at hr; rw [if_pos hm] at hr; cases hr
    · unfold waR; rw [if_pos hm]; exact h1
  · intro hpc β a1 w1 M1
    have hm : ¬ most < 1 := by
      have := hpc.1
      rw [t_not, t_lt] at this
      exact this
    show (Sy.sub rwP (bodyOf Try.f43)).wp Try.prog (ctx Try.prog rwP (bodyOf Try.f43) _) a1 w1
    rw [rw_loop]
    have fr := rw_fr
    simp only [Bool.and_eq_true] at fr
    obtain ⟨⟨⟨f60, f61⟩, f62, f63⟩, f64, f65⟩ := fr
    obtain ⟨β2, M2⟩ := Sy.Md.tabSlot M1 6 60 78 wkLv (show 4 ≤ 60 by decide) f60 f61
    obtain ⟨β3, M3⟩ := Sy.Md.tabSlot M2 7 62 139 waLv (show 4 ≤ 62 by decide) f62 f63
    obtain ⟨β4, M4⟩ := Sy.Md.tabSlot M3 8 64 139 waLv (show 4 ≤ 64 by decide) f64 f65
    have hE1 : ∀ u, RwE rows most 0 [] [] { (rwE0 rows most).sub β4 [.i 1 (.il 0), .i 2 (.il 0), .i 3 (.il 0), .i 0 (.il 0), .c 4 tn, .c 3 tn, .c 2 tn] with u := u } := fun u => ⟨hE0.good, rfl, rfl, rfl, rfl, hE0.i21, hE0.c0, rfl, rfl, rfl, hm0, hm1⟩
    obtain ⟨u, β5, M5⟩ := Sy.Md.enter M4 rw_match (fun u => (hE1 u).cx l16 hI0)
    refine loop_round (RwJ rows most) (fun ρ => rows.length - (ρ.i 0).toNat) (rw_round l16 hg fun ρ T R β6 a6 w6 E I M6 => ?_) ⟨0, [], [], hE1 u, hI0⟩ M5
    have M7 : Md ρ (poS g a c) w (rfN g a c) 4 (rwX Try.prog Try.f43) β6 a6 w6 := ⟨M6.act, M6.hp, M6.ne, M6.may, E.cx l16 I, M6.only, M6.old⟩
    refine aft_fin (B := ⟨ρ, poS g a c, w, rfN g a c, 4⟩) (sp := []) (lim := 10) (fuel := 400) E.good (fun q hq => by cases hq) rfl (.exit 0) rw_run4 ⟨?_, trivial⟩ M7
    intro _ βf w2 hH
    have hS := I.fin
    have hlen := wtS_len most rows 0
    rw [hS] at hlen
    change T.length + R.length = rows.length at hlen
    have ho : waO rows most = T.map wakeR := by unfold waO; rw [if_neg hm, hS]
    have hR : waR rows most = R ++ T.map toldR := by unfold waR; rw [if_neg hm, hS]
    have b70 : rfT 70 (.tb .app (.cv 4) (.cv 3) (.il 0)) ∈ rwEnd := List.mem_cons_self ..
    have b0 : rfO 70 (.add (tlen (.cv 4)) (tlen (.cv 3))) ∈ rwEnd := List.mem_cons_of_mem _ (List.mem_cons_self ..)
    have b60 : waB 60 2 78 wkLv ∈ rwEnd := List.mem_cons_of_mem _ (List.mem_cons_of_mem _ (List.mem_cons_self ..))
    have b2 : rfT 2 (.cv 0) ∈ rwEnd := List.mem_cons_of_mem _ (List.mem_cons_of_mem _ (List.mem_cons_of_mem _ (List.mem_cons_self ..)))
    have k0 : βf 0 = g := hH.old 0 (show 0 < 4 by decide)
    have k2 : βf 2 = a := hH.old 2 (show 2 < 4 by decide)
    have k3 : βf 3 = c := hH.old 3 (show 3 < 4 by decide)
    have hK : RowT w2 (βf 60) (βf 61) 78 wkLv (ρ.c 2) := hH.hp _ b60
    have hT : RowT w2 (βf 70) (βf 71) 139 waLv (ρ.c 4 ++ ρ.c 3) := hH.hp _ b70
    have hO : Blk w2 (βf 0) 69 [sltZ (βf 70) (βf 71) 5 0 (((ρ.c 4).length : Int) + ((ρ.c 3).length : Int)).toNat 0] := hH.hp _ b0
    have hsz : (((ρ.c 4).length : Int) + ((ρ.c 3).length : Int)).toNat = (waR rows most).length := by rw [hR, E.c4, E.c3, List.length_append]; omega
    rw [hsz, sltZ_zero, k0] at hO
    rw [E.c4, E.c3, ← hR] at hT
    rw [E.c2, ← ho] at hK
    have n70 : βf 71 ≠ 0 → βf 70 ≠ βf 0 := fun hc => hH.neq _ b70 _ b0 (by decide) (.inr hc) (.inl rfl)
    have n60 : βf 61 ≠ 0 → βf 60 ≠ βf 0 := fun hc => hH.neq _ b60 _ b0 (by decide) (.inr hc) (.inl rfl)
    refine ⟨βf 60, βf 61, ?_, hK, fun hc => ?_, βf 70, βf 71, ⟨hO, hT, fun hc q => n70 hc (q.trans k0.symm), ?_⟩, hH.only, fun hc => ?_, fun hc => ⟨fun q => n60 hc (q.trans k0.symm), fun hc' => hH.neq _ b60 _ b70 (by decide) (.inr hc) (.inr hc')⟩⟩
    · show Value.tuple #[sltZ (βf 60) (βf 61) 2 0 (ρ.i 1).toNat 0, .int .i64 0] = _
      rw [sltZ_zero, E.i1, Int.toNat_natCast]
      have : waC most = 0 := if_neg hm
      rw [this, ho, List.length_map]
    · rcases hH.may0 _ b60 rfl (.inr hc) with q | q
      · rcases q with q | ⟨qc, q⟩
        · exact absurd (q.trans k0.symm) (n60 hc)
        · exact absurd (q.trans k2.symm) (hH.neq _ b60 _ b2 (by decide) (.inr hc) (.inr fun e => qc (k3.symm.trans e)))
      · exact q
    · rw [hR, List.length_append, List.length_map]; omega
    · rcases hH.may0 _ b70 rfl (.inr hc) with q | q
      · rcases q with q | q
        · exact absurd (q.trans k0.symm) (n70 hc)
        · exact .inl q
      · exact .inr q
end
end Go.Proofs.Ytnjpoidpfcfbeaa
