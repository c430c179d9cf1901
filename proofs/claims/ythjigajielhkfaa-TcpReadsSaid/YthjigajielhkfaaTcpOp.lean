/- The program's options of a segment: what they come to, by a run with letters. Printed by gen_tcpop.py. -/
import Derived.Test.YthjigajielhkfaaSyQ
namespace Go.Proofs.Ythjigajielhkfaa
open Go.RowKit Sy
set_option linter.unusedVariables false
set_option linter.unusedSimpArgs false

/-- The number of two bytes at a place. -/
def num2 (s : ByteArray) (o : Int) : Int := (numL (s.extract (o + 2).toNat (o + 4).toNat).data.toList : Int)
theorem num2_bd (s : ByteArray) (o : Int) : 0 ≤ num2 s o ∧ num2 s o ≤ 65535 := by
  unfold num2
  have := numL_le (l := (s.extract (o + 2).toNat (o + 4).toNat).data.toList) (k := 2) (by simp; omega)
  omega
theorem byteOf_bd (s : ByteArray) (o : Int) : 0 ≤ Sy.byteOf s o ∧ Sy.byteOf s o ≤ 255 := by
  unfold Sy.byteOf
  have := (s.data.toList.getD o.toNat 0).toNat_lt
  omega
/-- What options come to: the largest size that was told last (none: they are wrong). -/
def optF (s : ByteArray) : Nat → Int → Int → Int → Option Int
  | 0, _, _, m => some m
  | n + 1, o, len, m =>
    if len ≤ 0 then some m
    else if Sy.byteOf s o = 0 then some m
    else if Sy.byteOf s o = 1 then optF s n (o + 1) (len - 1) m
    else if len < 2 then none
    else if Sy.byteOf s (o + 1) < 2 ∨ len < Sy.byteOf s (o + 1) then none
    else if Sy.byteOf s o = 2 then (if Sy.byteOf s (o + 1) = 4 then optF s n (o + Sy.byteOf s (o + 1)) (len - Sy.byteOf s (o + 1)) (num2 s o) else none)
    else optF s n (o + Sy.byteOf s (o + 1)) (len - Sy.byteOf s (o + 1)) m
theorem optF_end {s : ByteArray} {n : Nat} {o len m : Int} (hn : len.toNat ≤ n) (h : len ≤ 0 ∨ Sy.byteOf s o = 0) : optF s n o len m = some m := by
  cases n with
  | zero => rfl
  | succ n =>
    unfold optF
    split
    · rfl
    · rw [if_pos (by omega)]
theorem optF_one {s : ByteArray} {n : Nat} {o len m : Int} (hl : 0 < len) (h : Sy.byteOf s o = 1) : optF s (n + 1) o len m = optF s n (o + 1) (len - 1) m := by
  conv => lhs; unfold optF
  rw [if_neg (by omega), if_neg (by omega), if_pos h]
theorem optF_bad {s : ByteArray} {n : Nat} {o len m : Int} (hl : 0 < len) (h0 : Sy.byteOf s o ≠ 0) (h1 : Sy.byteOf s o ≠ 1) (h : len < 2 ∨ Sy.byteOf s (o + 1) < 2 ∨ len < Sy.byteOf s (o + 1) ∨ (Sy.byteOf s o = 2 ∧ Sy.byteOf s (o + 1) ≠ 4)) : optF s (n + 1) o len m = none := by
  unfold optF
  rw [if_neg (by omega), if_neg h0, if_neg h1]
  split
  · rfl
  · split
    · rfl
    · rw [if_pos (by omega), if_neg (by omega)]
theorem optF_two {s : ByteArray} {n : Nat} {o len m : Int} (hl : 2 ≤ len) (h2 : Sy.byteOf s o = 2) (h4 : Sy.byteOf s (o + 1) = 4) (hl4 : Sy.byteOf s (o + 1) ≤ len) : optF s (n + 1) o len m = optF s n (o + Sy.byteOf s (o + 1)) (len - Sy.byteOf s (o + 1)) (num2 s o) := by
  conv => lhs; unfold optF
  rw [if_neg (by omega), if_neg (by omega), if_neg (by omega), if_neg (by omega), if_neg (by omega), if_pos h2, if_pos h4]
theorem optF_any {s : ByteArray} {n : Nat} {o len m : Int} (hl : 2 ≤ len) (h0 : Sy.byteOf s o ≠ 0) (h1 : Sy.byteOf s o ≠ 1) (h2 : Sy.byteOf s o ≠ 2) (h4 : 2 ≤ Sy.byteOf s (o + 1)) (hl4 : Sy.byteOf s (o + 1) ≤ len) : optF s (n + 1) o len m = optF s n (o + Sy.byteOf s (o + 1)) (len - Sy.byteOf s (o + 1)) m := by
  conv => lhs; unfold optF
  rw [if_neg (by omega), if_neg h0, if_neg h1, if_neg (by omega), if_neg (by omega), if_neg h2]
theorem num2_congr {s t : ByteArray} {o : Int} (ho : 20 ≤ o) (h : ∀ j, 20 ≤ j → s.data.toList[j]? = t.data.toList[j]?) : num2 s o = num2 t o := by
  unfold num2
  congr 2
  have e : ∀ u : ByteArray, (u.extract (o + 2).toNat (o + 4).toNat).data.toList = (u.data.toList.drop (o + 2).toNat).take 2 := fun u => by
    rw [show (o + 4).toNat = (o + 2).toNat + 2 from by omega]
    simp only [ByteArray.data_extract, Array.toList_extract, List.extract_eq_take_drop]
    congr 1
    omega
  rw [e, e]
  apply List.ext_getElem?
  intro i
  rw [List.getElem?_take, List.getElem?_take, List.getElem?_drop, List.getElem?_drop, h _ (by omega)]
theorem byteOf_congr {s t : ByteArray} {o : Int} (ho : 20 ≤ o) (h : ∀ j, 20 ≤ j → s.data.toList[j]? = t.data.toList[j]?) : Sy.byteOf s o = Sy.byteOf t o := by
  unfold Sy.byteOf
  rw [List.getD, List.getD, h _ (by omega)]
theorem optF_congr {s t : ByteArray} (h : ∀ j, 20 ≤ j → s.data.toList[j]? = t.data.toList[j]?) : ∀ (n : Nat) (o len m : Int), 20 ≤ o → optF s n o len m = optF t n o len m
  | 0, _, _, _, _ => rfl
  | n + 1, o, len, m, ho => by
    have hb := byteOf_bd t (o + 1)
    unfold optF
    rw [byteOf_congr ho h, byteOf_congr (o := o + 1) (by omega) h, num2_congr ho h, optF_congr h n (o + 1) _ _ (by omega), optF_congr h n (o + Sy.byteOf t (o + 1)) _ _ (by omega), optF_congr h n (o + Sy.byteOf t (o + 1)) _ _ (by omega)]
theorem optF_bd {s : ByteArray} : ∀ (n : Nat) (o len m : Int) (r : Int), 0 ≤ m → m ≤ 65535 → optF s n o len m = some r → 0 ≤ r ∧ r ≤ 65535
  | 0, _, _, _, _, h1, h2, h => by injection h with h; omega
  | n + 1, o, len, m, r, h1, h2, h => by
    have hb := num2_bd s o
    unfold optF at h
    split at h
    · injection h with h; omega
    · split at h
      · injection h with h; omega
      · split at h
        · exact optF_bd n _ _ _ _ h1 h2 h
        · split at h
          · cases h
          · split at h
            · cases h
            · split at h
              · split at h
                · exact optF_bd n _ _ _ _ hb.1 hb.2 h
                · cases h
              · exact optF_bd n _ _ _ _ h1 h2 h

def anys (b n : Nat) : List SV := (List.range n).map fun i => .any (b + i)
def opqs (b n : Nat) : List C := (List.range n).map fun i => .opq (b + i)
def optHp : List Bk := [⟨0, 33, opqs 0 11 ++ [.int .i64 (.iv 2), .opq 12], true, none⟩, ⟨2, 5, ownCs false, false, some (.sv 0)⟩]
def optCx : Cx := ⟨[⟨.iv 0, 0, 140737488355328⟩, ⟨.iv 1, 0, 140737488355328⟩, ⟨.iv 2, -9223372036854775808, 9223372036854775807⟩, ⟨.len (.sv 0), 0, 140737488355328⟩], [.le (.add (.iv 0) (.iv 1)) (.len (.sv 0))]⟩
def optArgs : List SV := [.one (.c (.ptr 0 0)), .one (.c (.slr 2 (.iv 0) (.iv 1) (.iv 3)))]
def optS : Sy.St := ⟨[], optHp, optCx, 4⟩
def optT : Sy.St := ⟨optArgs ++ anys 2 53, optHp, optCx, 4⟩
def optP : List Nat := [1, 2, 1, 0, 2]
def optR0' (P : Program) (fn : Func) : Rs := run P [get16Sp] 10 400 4 (.code (pre optP (bodyOf fn))) (enterS fn optArgs optS)
def optR1' (P : Program) (fn : Func) : Rs := run P [get16Sp] 10 400 4 (.code (lpBody (Sy.sub optP (bodyOf fn)))) optT

set_option maxRecDepth 100000 in
theorem opt_run0 : shR none (optR0' Try.prog Try.f173) = some [.out 0 .normal [.le (.add (.iv 0) (.iv 1)) (.len (.sv 0))]] := by kernel_rfl
set_option maxRecDepth 100000 in
theorem opt_match : (matchS optT (lfAt (optR0' Try.prog Try.f173) 0)).map noU = some [.i 0 (.iv 0), .i 1 (.iv 1), .i 3 (.iv 3)] := by kernel_rfl
set_option maxRecDepth 100000 in
theorem opt_run1 : shR (some optT) (optR1' Try.prog Try.f173) = some
    [(.must (.lt (.iv 0) (.len (.sv 0))) [(.lt (.il 0) (.iv 1)), (.le (.add (.iv 0) (.iv 1)) (.len (.sv 0)))]),
    (.out 1 (.exit 0) [(.eq (.byte (.sv 0) (.iv 0)) (.il 0)), (.lt (.iv 0) (.len (.sv 0))), (.lt (.il 0) (.iv 1)), (.le (.add (.iv 0) (.iv 1)) (.len (.sv 0)))]),
    (.back [(.i 0 (.add (.iv 0) (.il 1))), (.i 1 (.add (.iv 1) (.il (-1)))), (.i 3 (.iv 0))] [(.eq (.byte (.sv 0) (.iv 0)) (.il 1)), (.not (.eq (.byte (.sv 0) (.iv 0)) (.il 0))), (.lt (.iv 0) (.len (.sv 0))), (.lt (.il 0) (.iv 1)), (.le (.add (.iv 0) (.iv 1)) (.len (.sv 0)))]),
    (.must (.lt (.add (.iv 0) (.il 1)) (.len (.sv 0))) [(.not (.lt (.iv 1) (.il 2))), (.not (.eq (.byte (.sv 0) (.iv 0)) (.il 1))), (.not (.eq (.byte (.sv 0) (.iv 0)) (.il 0))), (.lt (.iv 0) (.len (.sv 0))), (.lt (.il 0) (.iv 1)), (.le (.add (.iv 0) (.iv 1)) (.len (.sv 0)))]),
    (.out 4 .ret [(.lt (.iv 1) (.byte (.sv 0) (.add (.iv 0) (.il 1)))), (.not (.lt (.byte (.sv 0) (.add (.iv 0) (.il 1))) (.il 2))), (.lt (.add (.iv 0) (.il 1)) (.len (.sv 0))), (.not (.lt (.iv 1) (.il 2))), (.not (.eq (.byte (.sv 0) (.iv 0)) (.il 1))), (.not (.eq (.byte (.sv 0) (.iv 0)) (.il 0))), (.lt (.iv 0) (.len (.sv 0))), (.lt (.il 0) (.iv 1)), (.le (.add (.iv 0) (.iv 1)) (.len (.sv 0)))]),
    (.out 5 .ret [(.not (.eq (.byte (.sv 0) (.add (.iv 0) (.il 1))) (.il 4))), (.eq (.byte (.sv 0) (.iv 0)) (.il 2)), (.not (.lt (.iv 1) (.byte (.sv 0) (.add (.iv 0) (.il 1))))), (.not (.lt (.byte (.sv 0) (.add (.iv 0) (.il 1))) (.il 2))), (.lt (.add (.iv 0) (.il 1)) (.len (.sv 0))), (.not (.lt (.iv 1) (.il 2))), (.not (.eq (.byte (.sv 0) (.iv 0)) (.il 1))), (.not (.eq (.byte (.sv 0) (.iv 0)) (.il 0))), (.lt (.iv 0) (.len (.sv 0))), (.lt (.il 0) (.iv 1)), (.le (.add (.iv 0) (.iv 1)) (.len (.sv 0)))]),
    (.must (.le (.il 2) (.add (.iv 1) (.il (-2)))) [(.eq (.byte (.sv 0) (.add (.iv 0) (.il 1))) (.il 4)), (.eq (.byte (.sv 0) (.iv 0)) (.il 2)), (.not (.lt (.iv 1) (.byte (.sv 0) (.add (.iv 0) (.il 1))))), (.not (.lt (.byte (.sv 0) (.add (.iv 0) (.il 1))) (.il 2))), (.lt (.add (.iv 0) (.il 1)) (.len (.sv 0))), (.not (.lt (.iv 1) (.il 2))), (.not (.eq (.byte (.sv 0) (.iv 0)) (.il 1))), (.not (.eq (.byte (.sv 0) (.iv 0)) (.il 0))), (.lt (.iv 0) (.len (.sv 0))), (.lt (.il 0) (.iv 1)), (.le (.add (.iv 0) (.iv 1)) (.len (.sv 0)))]),
    (.back [(.i 0 (.add (.iv 0) (.byte (.sv 0) (.add (.iv 0) (.il 1))))), (.i 1 (.sub (.iv 1) (.byte (.sv 0) (.add (.iv 0) (.il 1))))), (.i 3 (.iv 0)), (.i 2 (.ap 0 (.cut (.sv 0) (.add (.iv 0) (.il 2)) (.add (.iv 0) (.il 4))) (.il 0) (.il 0)))] [(.le (.il 2) (.add (.iv 1) (.il (-2)))), (.eq (.byte (.sv 0) (.add (.iv 0) (.il 1))) (.il 4)), (.eq (.byte (.sv 0) (.iv 0)) (.il 2)), (.not (.lt (.iv 1) (.byte (.sv 0) (.add (.iv 0) (.il 1))))), (.not (.lt (.byte (.sv 0) (.add (.iv 0) (.il 1))) (.il 2))), (.lt (.add (.iv 0) (.il 1)) (.len (.sv 0))), (.not (.lt (.iv 1) (.il 2))), (.not (.eq (.byte (.sv 0) (.iv 0)) (.il 1))), (.not (.eq (.byte (.sv 0) (.iv 0)) (.il 0))), (.lt (.iv 0) (.len (.sv 0))), (.lt (.il 0) (.iv 1)), (.le (.add (.iv 0) (.iv 1)) (.len (.sv 0)))]),
    (.back [(.i 0 (.add (.iv 0) (.byte (.sv 0) (.add (.iv 0) (.il 1))))), (.i 1 (.sub (.iv 1) (.byte (.sv 0) (.add (.iv 0) (.il 1))))), (.i 3 (.iv 0))] [(.not (.eq (.byte (.sv 0) (.iv 0)) (.il 2))), (.not (.lt (.iv 1) (.byte (.sv 0) (.add (.iv 0) (.il 1))))), (.not (.lt (.byte (.sv 0) (.add (.iv 0) (.il 1))) (.il 2))), (.lt (.add (.iv 0) (.il 1)) (.len (.sv 0))), (.not (.lt (.iv 1) (.il 2))), (.not (.eq (.byte (.sv 0) (.iv 0)) (.il 1))), (.not (.eq (.byte (.sv 0) (.iv 0)) (.il 0))), (.lt (.iv 0) (.len (.sv 0))), (.lt (.il 0) (.iv 1)), (.le (.add (.iv 0) (.iv 1)) (.len (.sv 0)))]),
    (.out 9 .ret [(.lt (.byte (.sv 0) (.add (.iv 0) (.il 1))) (.il 2)), (.lt (.add (.iv 0) (.il 1)) (.len (.sv 0))), (.not (.lt (.iv 1) (.il 2))), (.not (.eq (.byte (.sv 0) (.iv 0)) (.il 1))), (.not (.eq (.byte (.sv 0) (.iv 0)) (.il 0))), (.lt (.iv 0) (.len (.sv 0))), (.lt (.il 0) (.iv 1)), (.le (.add (.iv 0) (.iv 1)) (.len (.sv 0)))]),
    (.out 10 .ret [(.lt (.iv 1) (.il 2)), (.not (.eq (.byte (.sv 0) (.iv 0)) (.il 1))), (.not (.eq (.byte (.sv 0) (.iv 0)) (.il 0))), (.lt (.iv 0) (.len (.sv 0))), (.lt (.il 0) (.iv 1)), (.le (.add (.iv 0) (.iv 1)) (.len (.sv 0)))]),
    (.out 11 (.exit 0) [(.not (.lt (.il 0) (.iv 1))), (.le (.add (.iv 0) (.iv 1)) (.len (.sv 0)))])] := by kernel_rfl
set_option maxRecDepth 100000 in
theorem opt_aft1 : smR Try.prog Try.f173 4 (run Try.prog [get16Sp] 10 400 4 (.code (aft (.exit 0) optP (bodyOf Try.f173))) (lfAt (optR1' Try.prog Try.f173) 1)) = some
    [(.ret (.one (.c (.int .i64 (.il 0)))) [⟨0, 33, [(.opq 0), (.opq 1), (.opq 2), (.opq 3), (.opq 4), (.opq 5), (.opq 6), (.opq 7), (.opq 8), (.opq 9), (.opq 10), (.int .i64 (.iv 2)), (.opq 12)], true, .none⟩, ⟨2, 5, [.nptr], false, (.some (.sv 0))⟩] [(.eq (.byte (.sv 0) (.iv 0)) (.il 0)), (.lt (.iv 0) (.len (.sv 0))), (.lt (.il 0) (.iv 1)), (.le (.add (.iv 0) (.iv 1)) (.len (.sv 0)))])] := by kernel_rfl
set_option maxRecDepth 100000 in
theorem opt_aft11 : smR Try.prog Try.f173 4 (run Try.prog [get16Sp] 10 400 4 (.code (aft (.exit 0) optP (bodyOf Try.f173))) (lfAt (optR1' Try.prog Try.f173) 11)) = some
    [(.ret (.one (.c (.int .i64 (.il 0)))) [⟨0, 33, [(.opq 0), (.opq 1), (.opq 2), (.opq 3), (.opq 4), (.opq 5), (.opq 6), (.opq 7), (.opq 8), (.opq 9), (.opq 10), (.int .i64 (.iv 2)), (.opq 12)], true, .none⟩, ⟨2, 5, [.nptr], false, (.some (.sv 0))⟩] [(.not (.lt (.il 0) (.iv 1))), (.le (.add (.iv 0) (.iv 1)) (.len (.sv 0)))])] := by kernel_rfl
theorem opt_ret (k : Nat) (hk : k = 4 ∨ k = 5 ∨ k = 9 ∨ k = 10) : retS Try.prog (lfAt (optR1' Try.prog Try.f173) k) Try.f173.results.toList = some (.one (.c (.int .i64 (.il 4)))) := by
  rcases hk with rfl | rfl | rfl | rfl <;> kernel_rfl
theorem opt_loop : Code.loop (lpBody (Sy.sub optP (bodyOf Try.f173))) = Sy.sub optP (bodyOf Try.f173) := by kernel_rfl

/-- The cells of the segment that is being read; m: the largest size that was told. -/
def optCells (vs : List Value) (m : Int) : List Value := (List.range 11).map (fun i => vs.getD i (.bool false)) ++ [.int .i64 m, vs.getD 12 (.bool false)]
structure OptI (s : ByteArray) (vs : List Value) (r : Option Int) (ρ : Env) : Prop where
  f : ρ.f = stdF
  s0 : ρ.s 0 = s
  v : ρ.v = fun n => vs.getD n (.bool false)
  o : 0 ≤ ρ.i 0
  l : 0 ≤ ρ.i 1
  ol : ρ.i 0 + ρ.i 1 ≤ (s.size : Int)
  m0 : 0 ≤ ρ.i 2
  m1 : ρ.i 2 ≤ 65535
  r : ∃ n, (ρ.i 1).toNat ≤ n ∧ optF s n (ρ.i 0) (ρ.i 1) (ρ.i 2) = r
def OptR (g : Nat) (vs : List Value) (r : Option Int) (w : World) (v : Value) (w' : World) : Prop :=
  (r = none → v = .int .i64 4) ∧ (∀ m, r = some m → v = .int .i64 0 ∧ Blk w' g 33 (optCells vs m)) ∧ Only (· = g) w w'
theorem getD_one {vs : List Value} (h : ∀ v ∈ vs, v.oneCell' = true) (n : Nat) : (vs.getD n (.bool false)).oneCell' = true := by
  rw [List.getD]
  cases hn : vs[n]? with
  | none => rfl
  | some x => exact h x (List.mem_of_getElem? hn)
theorem OptI.good {s : ByteArray} {vs : List Value} {r : Option Int} {ρ : Env} (h : OptI s vs r ρ) (hv : ∀ v ∈ vs, v.oneCell' = true) : ρ.good := fun i => by
  rw [h.v]
  exact getD_one hv i
theorem OptI.cx {s : ByteArray} {vs : List Value} {r : Option Int} {ρ : Env} (h : OptI s vs r ρ) (hs : s.size ≤ 140737488355328) : optT.cx.ok ρ := by
  obtain ⟨h1, h2, h3, h4, h5, h6, h7, h8, h9⟩ := h
  refine ⟨fun x hx => ?_, fun t ht => ?_⟩
  · change x ∈ [_, _, _, _] at hx
    simp only [List.mem_cons, List.not_mem_nil, or_false] at hx
    rcases hx with rfl | rfl | rfl | rfl
    · show (0 : Int) ≤ ρ.i 0 ∧ ρ.i 0 ≤ 140737488355328
      omega
    · show (0 : Int) ≤ ρ.i 1 ∧ ρ.i 1 ≤ 140737488355328
      omega
    · show -9223372036854775808 ≤ ρ.i 2 ∧ ρ.i 2 ≤ 9223372036854775807
      omega
    · show (0 : Int) ≤ ((ρ.s 0).size : Int) ∧ ((ρ.s 0).size : Int) ≤ 140737488355328
      rw [h2]
      omega
  · change t ∈ [_] at ht
    simp only [List.mem_cons, List.not_mem_nil, or_false] at ht
    subst ht
    show decide (ρ.i 0 + ρ.i 1 ≤ ((ρ.s 0).size : Int)) = true
    rw [h2]
    exact decide_eq_true h6
set_option maxRecDepth 100000 in
set_option maxHeartbeats 4000000 in
theorem opt_calls (g gb cap : Nat) (s : ByteArray) (vs : List Value) (off len an : Int) (r : Option Int) (w : World) (hv : ∀ v ∈ vs, v.oneCell' = true) (hs : s.size ≤ 140737488355328) (ho : 0 ≤ off) (hl : 0 ≤ len) (hol : off + len ≤ (s.size : Int))
    (hr : optF s len.toNat off len 0 = r) (hg : Blk w g 33 (optCells vs 0)) (hb : RowB w gb cap 5 false s.data.toList) (hne : cap ≠ 0 → g ≠ gb) :
    Calls Try.prog 173 #[.pointer (some ⟨g, 0, none⟩), slrZ gb cap off.toNat len.toNat an.toNat] w (RetP (OptR g vs r w)) := by
  have hgood0 : (mkEnv [off, len, 0, an] [] [s] vs).good := fun i => getD_one hv i
  have hI0 : OptI s vs r (mkEnv [off, len, 0, an] [] [s] vs) := ⟨rfl, rfl, rfl, ho, hl, hol, Int.le_refl 0, (by show (0 : Int) ≤ 65535; omega), _, Nat.le_refl _, hr⟩
  have hM0 : Md (mkEnv [off, len, 0, an] [] [s] vs) (· = g) w (fun l => if l = 0 then g else if l = 2 then gb else cap) 4 optS (fun l => if l = 0 then g else if l = 2 then gb else cap) ⟨#[], []⟩ w := by
    refine ⟨rfl, fun b hb' => ?_, fun x hx y hy hxy hrx hry => ?_, fun b hb' hw _ => ?_, hI0.cx hs, Only.refl _ _, fun _ _ => rfl⟩
    · change b ∈ [_, _] at hb'
      simp only [List.mem_cons, List.not_mem_nil, or_false] at hb'
      rcases hb' with rfl | rfl
      · exact hg
      · exact hb
    · change x ∈ [_, _] at hx
      change y ∈ [_, _] at hy
      simp only [List.mem_cons, List.not_mem_nil, or_false] at hx hy
      rcases hx with rfl | rfl <;> rcases hy with rfl | rfl
      · exact absurd rfl hxy
      · refine hne ?_
        rcases hry with h | h
        · cases h
        · exact h
      · refine fun e => hne ?_ e.symm
        rcases hrx with h | h
        · cases h
        · exact h
      · exact absurd rfl hxy
    · change b ∈ [_, _] at hb'
      simp only [List.mem_cons, List.not_mem_nil, or_false] at hb'
      rcases hb' with rfl | rfl
      · exact .inl rfl
      · cases hw
  refine calls_pre (B := ⟨mkEnv [off, len, 0, an] [] [s] vs, (· = g), w, fun l => if l = 0 then g else if l = 2 then gb else cap, 4⟩) (sp := [get16Sp]) (p := optP) (xs := optArgs) (s := optS) (r := (optR0' Try.prog Try.f173)) hgood0 (fun q hq => by
    rcases List.mem_cons.1 hq with rfl | hq
    · exact get16Sp_ok rfl
    · cases hq) rfl Try.func173 rfl rfl opt_run0 hM0 ?_ rfl
  refine ⟨?_, trivial⟩
  intro _ β a w1 hM1
  show (Sy.sub optP (bodyOf Try.f173)).wp _ _ a w1
  rw [← opt_loop]
  have hI1 : ∀ u, OptI s vs r { (mkEnv [off, len, 0, an] [] [s] vs).sub β [.i 0 (.iv 0), .i 1 (.iv 1), .i 3 (.iv 3)] with u := u } := fun u => ⟨rfl, rfl, rfl, ho, hl, hol, Int.le_refl 0, (by show (0 : Int) ≤ 65535; omega), _, Nat.le_refl _, hr⟩
  obtain ⟨u, hM2⟩ := Sy.Md.enter hM1 opt_match fun u => (hI1 u).cx hs
  have sp1 : ∀ ρ, OptI s vs r ρ → ∀ q ∈ [get16Sp], q.Ok Try.prog ρ := fun ρ hI q hq => by
    rcases List.mem_cons.1 hq with rfl | hq
    · exact get16Sp_ok hI.f
    · cases hq
  refine loop_wp (w0 := w) (r := (optR1' Try.prog Try.f173)) rfl opt_run1 (OptI s vs r) (fun ρ => (ρ.i 1).toNat) (fun ρ hI => hI.good hv) sp1 (fun ρ hI => hI.cx hs) ?_ (hI1 u) hM2
  intro ρ hI
  have hI' := hI
  obtain ⟨h1, h2, h3, h4, h5, h6, h7, h8, n, h9, h10⟩ := hI'
  have b0 := byteOf_bd s (ρ.i 0)
  have b1 := byteOf_bd s (ρ.i 0 + 1)
  have bn := num2_bd s (ρ.i 0)
  have hq : (ρ.f 0 (den ρ (.cut (.sv 0) (.add (.iv 0) (.il 2)) (.add (.iv 0) (.il 4)))) (dI 0) (dI 0)).i = num2 s (ρ.i 0) := by
    rw [h1]
    show ((numL ((ρ.s 0).extract (ρ.i 0 + 2).toNat (ρ.i 0 + 4).toNat).data.toList : Nat) : Int) = _
    rw [h2]
    rfl
  have fin : ∀ (k : Nat), (k = 1 ∨ k = 11) → (∃ n, optF s n (ρ.i 0) (ρ.i 1) (ρ.i 2) = r ∧ (ρ.i 1).toNat ≤ n ∧ (ρ.i 1 ≤ 0 ∨ Sy.byteOf s (ρ.i 0) = 0)) → ∀ β a w', Md ρ (· = g) w (fun l => if l = 0 then g else if l = 2 then gb else cap) 4 (lfAt (optR1' Try.prog Try.f173) k) β a w' → ctx Try.prog optP (bodyOf Try.f173) (bodyPost Try.prog Try.f173 (RetP (OptR g vs r w))) (Ex.exit 0).to a w' := by
    rintro k hk ⟨n, hn, hle, he⟩ β a w' hM
    rw [optF_end hle he] at hn
    have key : ∀ pc, Sm.done ⟨ρ, (· = g), w, fun l => if l = 0 then g else if l = 2 then gb else cap, 4⟩ (OptR g vs r w) (.ret (.one (.c (.int .i64 (.il 0)))) [⟨0, 33, opqs 0 11 ++ [.int .i64 (.iv 2), .opq 12], true, none⟩, ⟨2, 5, ownCs false, false, some (.sv 0)⟩] pc) := by
      intro pc _ β w' hH
      refine ⟨fun e => (by rw [e] at hn; cases hn), fun m hm => ⟨rfl, ?_⟩, hH.only⟩
      rw [hm] at hn
      injection hn with hn
      have := hH.hp _ (List.mem_cons_self ..)
      have hβ : β 0 = g := hH.old 0 (show 0 < 4 by decide)
      change Blk w' (β 0) 33 _ at this
      rw [hβ] at this
      rw [← hn]
      have ec : optCells vs (ρ.i 2) = denL ρ β (opqs 0 11 ++ [.int .i64 (.iv 2), .opq 12]) := by
        show _ = [ρ.v 0, ρ.v 1, ρ.v 2, ρ.v 3, ρ.v 4, ρ.v 5, ρ.v 6, ρ.v 7, ρ.v 8, ρ.v 9, ρ.v 10, .int .i64 (ρ.i 2), ρ.v 12]
        rw [h3]
        rfl
      rw [ec]
      exact this
    rcases hk with rfl | rfl
    · exact aft_fin (B := ⟨ρ, (· = g), w, fun l => if l = 0 then g else if l = 2 then gb else cap, 4⟩) (hI.good hv) (sp1 ρ hI) rfl (.exit 0) opt_aft1 ⟨key _, trivial⟩ hM
    · exact aft_fin (B := ⟨ρ, (· = g), w, fun l => if l = 0 then g else if l = 2 then gb else cap, 4⟩) (hI.good hv) (sp1 ρ hI) rfl (.exit 0) opt_aft11 ⟨key _, trivial⟩ hM
  have bad : ∀ (k : Nat), (k = 4 ∨ k = 5 ∨ k = 9 ∨ k = 10) → r = none → ∀ β a w', Md ρ (· = g) w (fun l => if l = 0 then g else if l = 2 then gb else cap) 4 (lfAt (optR1' Try.prog Try.f173) k) β a w' → ctx Try.prog optP (bodyOf Try.f173) (bodyPost Try.prog Try.f173 (RetP (OptR g vs r w))) Ex.ret.to a w' := by
    intro k hk hn β a w' hM
    refine ctx_ret _ _ _ (ret_post (B := ⟨ρ, (· = g), w, fun l => if l = 0 then g else if l = 2 then gb else cap, 4⟩) hM (opt_ret k hk) ?_)
    exact ⟨fun _ => rfl, fun m hm => (by rw [hn] at hm; cases hm), hM.only⟩
  have out : ∀ m, 0 < ρ.i 1 → Sy.byteOf s (ρ.i 0) ≠ 0 → Sy.byteOf s (ρ.i 0) ≠ 1 → (ρ.i 1 < 2 ∨ Sy.byteOf s (ρ.i 0 + 1) < 2 ∨ ρ.i 1 < Sy.byteOf s (ρ.i 0 + 1) ∨ (Sy.byteOf s (ρ.i 0) = 2 ∧ Sy.byteOf s (ρ.i 0 + 1) ≠ 4)) → m = r → m = none := by
    intro m g0 g1 g2 g3 hm
    obtain ⟨n', rfl⟩ : ∃ n', n = n' + 1 := ⟨n - 1, by omega⟩
    rw [optF_bad g0 g1 g2 g3] at h10
    rw [hm, ← h10]
  obtain ⟨n', hn'⟩ : ∃ n', 0 < ρ.i 1 → n = n' + 1 := ⟨n - 1, by omega⟩
  refine ⟨?_, ?_, ?_, ?_, ?_, ?_, ?_, ?_, ?_, ?_, ?_, ?_, trivial⟩
  all_goals
    intro hpc
    replace hpc : pcs ρ _ := hpc
    simp only [pcs, t_lt, t_le, t_eq, t_not, i_iv, i_il, i_add, i_sub, i_len, i_byte, s_sv, h2, and_true] at hpc
  · simp only [t_lt, t_le, t_eq, t_not, i_iv, i_il, i_add, i_sub, i_len, i_byte, s_sv, h2]
    omega
  · exact fin 1 (.inl rfl) ⟨n, h10, h9, .inr hpc.1⟩
  · intro β u
    obtain rfl := hn' (by omega)
    rw [optF_one (by omega) (by omega)] at h10
    refine ⟨⟨h1, h2, h3, ?_, ?_, ?_, h7, h8, n', ?_, h10⟩, ?_⟩
    · show 0 ≤ ρ.i 0 + 1
      omega
    · show 0 ≤ ρ.i 1 + -1
      omega
    · show ρ.i 0 + 1 + (ρ.i 1 + -1) ≤ _
      omega
    · show (ρ.i 1 + -1).toNat ≤ _
      omega
    · show (ρ.i 1 + -1).toNat < (ρ.i 1).toNat
      omega
  · simp only [t_lt, t_le, t_eq, t_not, i_iv, i_il, i_add, i_sub, i_len, i_byte, s_sv, h2]
    omega
  · exact bad 4 (by decide) (out r (by omega) (by omega) (by omega) (by omega) rfl)
  · exact bad 5 (by decide) (out r (by omega) (by omega) (by omega) (by omega) rfl)
  · simp only [t_lt, t_le, t_eq, t_not, i_iv, i_il, i_add, i_sub, i_len, i_byte, s_sv, h2]
    omega
  · intro β u
    obtain rfl := hn' (by omega)
    rw [optF_two (by omega) (by omega) (by omega) (by omega)] at h10
    refine ⟨⟨h1, h2, h3, ?_, ?_, ?_, ?_, ?_, n', ?_, ?_⟩, ?_⟩
    · show 0 ≤ ρ.i 0 + Sy.byteOf (ρ.s 0) (ρ.i 0 + 1)
      rw [h2]
      omega
    · show 0 ≤ ρ.i 1 - Sy.byteOf (ρ.s 0) (ρ.i 0 + 1)
      rw [h2]
      omega
    · show ρ.i 0 + Sy.byteOf (ρ.s 0) (ρ.i 0 + 1) + (ρ.i 1 - Sy.byteOf (ρ.s 0) (ρ.i 0 + 1)) ≤ _
      omega
    · show 0 ≤ (ρ.f 0 (den ρ (.cut (.sv 0) (.add (.iv 0) (.il 2)) (.add (.iv 0) (.il 4)))) (dI 0) (dI 0)).i
      rw [hq]
      omega
    · show (ρ.f 0 (den ρ (.cut (.sv 0) (.add (.iv 0) (.il 2)) (.add (.iv 0) (.il 4)))) (dI 0) (dI 0)).i ≤ _
      rw [hq]
      omega
    · show (ρ.i 1 - Sy.byteOf (ρ.s 0) (ρ.i 0 + 1)).toNat ≤ _
      rw [h2]
      omega
    · show optF s n' (ρ.i 0 + Sy.byteOf (ρ.s 0) (ρ.i 0 + 1)) (ρ.i 1 - Sy.byteOf (ρ.s 0) (ρ.i 0 + 1)) (ρ.f 0 (den ρ (.cut (.sv 0) (.add (.iv 0) (.il 2)) (.add (.iv 0) (.il 4)))) (dI 0) (dI 0)).i = r
      rw [hq, h2]
      exact h10
    · show (ρ.i 1 - Sy.byteOf (ρ.s 0) (ρ.i 0 + 1)).toNat < (ρ.i 1).toNat
      rw [h2]
      omega
  · intro β u
    obtain rfl := hn' (by omega)
    rw [optF_any (by omega) (by omega) (by omega) (by omega) (by omega) (by omega)] at h10
    refine ⟨⟨h1, h2, h3, ?_, ?_, ?_, h7, h8, n', ?_, ?_⟩, ?_⟩
    · show 0 ≤ ρ.i 0 + Sy.byteOf (ρ.s 0) (ρ.i 0 + 1)
      rw [h2]
      omega
    · show 0 ≤ ρ.i 1 - Sy.byteOf (ρ.s 0) (ρ.i 0 + 1)
      rw [h2]
      omega
    · show ρ.i 0 + Sy.byteOf (ρ.s 0) (ρ.i 0 + 1) + (ρ.i 1 - Sy.byteOf (ρ.s 0) (ρ.i 0 + 1)) ≤ _
      omega
    · show (ρ.i 1 - Sy.byteOf (ρ.s 0) (ρ.i 0 + 1)).toNat ≤ _
      rw [h2]
      omega
    · show optF s n' (ρ.i 0 + Sy.byteOf (ρ.s 0) (ρ.i 0 + 1)) (ρ.i 1 - Sy.byteOf (ρ.s 0) (ρ.i 0 + 1)) (ρ.i 2) = r
      rw [h2]
      exact h10
    · show (ρ.i 1 - Sy.byteOf (ρ.s 0) (ρ.i 0 + 1)).toNat < (ρ.i 1).toNat
      rw [h2]
      omega
  · exact bad 9 (by decide) (out r (by omega) (by omega) (by omega) (by omega) rfl)
  · exact bad 10 (by decide) (out r (by omega) (by omega) (by omega) (by omega) rfl)
  · exact fin 11 (.inr rfl) ⟨n, h10, h9, .inl (by omega)⟩
#print axioms opt_calls
end Go.Proofs.Ythjigajielhkfaa
