/- The operations that only reckon, run with letters. -/
import Derived.Test.YtnmfmjlpfhdgeaaSyC
import Derived.Lib.ConvBytes
import Derived.Laws.StructEq
namespace Go.Proofs.Ytnmfmjlpfhdgeaa
namespace Sy
open Go Go.RowKit
set_option linter.unusedVariables false
set_option linter.unusedSimpArgs false

/-- What is still to be shown for a test to be met. -/
def need (c : Cx) (t : Tm) : List Tm := if sure c t then [] else [t]
def Met (ρ : Env) (l : List Tm) : Prop := ∀ t ∈ l, (den ρ t).b = true
theorem need_ok {ρ : Env} {c : Cx} (hc : c.ok ρ) {t : Tm} (h : Met ρ (need c t)) : (den ρ t).b = true := by
  unfold need at h
  split at h
  · rename_i q; exact sure_ok hc q
  · exact h t (by simp)
theorem Met.l {ρ : Env} {a b : List Tm} (h : Met ρ (a ++ b)) : Met ρ a := fun t ht => h t (List.mem_append_left _ ht)
theorem Met.r {ρ : Env} {a b : List Tm} (h : Met ρ (a ++ b)) : Met ρ b := fun t ht => h t (List.mem_append_right _ ht)

/-! Strings. -/
def mkLen (c : Cx) : Tm → Tm
  | .sl l => .il l.length
  | .chr _ => .il 1
  | .app x y => mkAdd (mkLen c x) (mkLen c y)
  | .cut s lo hi => if sure c (.le (.il 0) lo) && (sure c (.le lo hi) && sure c (.le hi (mkLen c s))) then mkSub hi lo else .len (.cut s lo hi)
  | t => .len t
theorem mkLen_ok {ρ : Env} {c : Cx} (hc : c.ok ρ) : ∀ t : Tm, (den ρ (mkLen c t)).i = ((den ρ t).s.size : Int) := by
  intro t
  induction t with
  | sl l => show (l.length : Int) = ((l.toArray.size : Nat) : Int); simp
  | chr x _ => rfl
  | app x y i1 i2 =>
    show (den ρ (mkAdd (mkLen c x) (mkLen c y))).i = _
    rw [mkAdd_ok, i1, i2]
    show _ = ((((den ρ x).s ++ (den ρ y).s).size : Nat) : Int)
    rw [ByteArray.size_append]
    simp
  | cut s lo hi i1 _ _ =>
    simp only [mkLen]
    split
    · rename_i q
      simp only [Bool.and_eq_true] at q
      have h1 := sure_ok hc q.1
      have h2 := sure_ok hc q.2.1
      have h3 := sure_ok hc q.2.2
      change decide ((0 : Int) ≤ (den ρ lo).i) = true at h1
      change decide ((den ρ lo).i ≤ (den ρ hi).i) = true at h2
      change decide ((den ρ hi).i ≤ (den ρ (mkLen c s)).i) = true at h3
      rw [i1] at h3
      simp only [decide_eq_true_eq] at h1 h2 h3
      rw [mkSub_ok]
      show _ = ((((den ρ s).s.extract (den ρ lo).i.toNat (den ρ hi).i.toNat).size : Nat) : Int)
      rw [ByteArray.size_extract]
      omega
    · rfl
  | _ => rfl
def app1 (x y : Tm) : Tm :=
  match x, y with
  | .sl [], t => t
  | t, .sl [] => t
  | .sl a, .sl b => .sl (a ++ b)
  | .sl a, .app (.sl b) t => .app (.sl (a ++ b)) t
  | x, y => .app x y
def mkApp : Tm → Tm → Tm
  | .app a b, y => mkApp a (mkApp b y)
  | x, y => app1 x y
theorem app_nil8 (s : ByteArray) : s ++ ⟨#[]⟩ = s := by
  apply ByteArray.ext
  simp
theorem nil8_app (s : ByteArray) : (⟨#[]⟩ : ByteArray) ++ s = s := by
  apply ByteArray.ext
  simp
theorem app1_ok (ρ : Env) (x y : Tm) : (den ρ (app1 x y)).s = (den ρ x).s ++ (den ρ y).s := by
  unfold app1
  split
  · exact (nil8_app _).symm
  · exact (app_nil8 _).symm
  · rename_i a b _ _
    show (⟨(a ++ b).toArray⟩ : ByteArray) = ⟨a.toArray⟩ ++ ⟨b.toArray⟩
    apply ByteArray.ext
    simp
  · rename_i a b t _
    show (⟨(a ++ b).toArray⟩ : ByteArray) ++ (den ρ t).s = ⟨a.toArray⟩ ++ (⟨b.toArray⟩ ++ (den ρ t).s)
    apply ByteArray.ext
    apply Array.ext'
    simp
  · rfl
theorem mkApp_ok (ρ : Env) (x : Tm) : ∀ y, (den ρ (mkApp x y)).s = (den ρ x).s ++ (den ρ y).s := by
  induction x with
  | app a b iha ihb =>
    intro y
    rw [mkApp, iha, ihb]
    show _ = ((den ρ a).s ++ (den ρ b).s) ++ _
    apply ByteArray.ext
    simp
  | _ => intro y; exact app1_ok ..
def mkSeq (c : Cx) (x y : Tm) : Tm :=
  match x, y with
  | .sl a, .sl b => .bl (sameL a b)
  | .sl [], t => mkB c (.eq (mkLen c t) (.il 0))
  | t, .sl [] => mkB c (.eq (mkLen c t) (.il 0))
  | x, y => mkB c (.seq x y)
theorem sameL_self : ∀ a : List UInt8, sameL a a = true
  | [] => rfl
  | a :: l => by simp [sameL, sameL_self l]
theorem empty_iff (s : ByteArray) : (s.toList == []) = decide ((s.size : Int) = 0) := by
  have h : s.toList.length = s.size := by rw [ByteArray.toList_eq]; simp
  cases hs : s.toList with
  | nil =>
    rw [hs] at h
    have h0 : s.size = 0 := h.symm
    rw [h0]
    rfl
  | cons a l =>
    rw [hs, List.length_cons] at h
    have h0 : ¬ ((s.size : Int) = 0) := by omega
    rw [decide_eq_false h0]
    rfl
theorem mkSeq_ok {ρ : Env} {c : Cx} (hc : c.ok ρ) (x y : Tm) : (den ρ (mkSeq c x y)).b = ((den ρ x).s.toList == (den ρ y).s.toList) := by
  unfold mkSeq
  split
  · rename_i a b
    show sameL a b = ((ByteArray.mk a.toArray).toList == (ByteArray.mk b.toArray).toList)
    rw [ByteArray.toList_eq, ByteArray.toList_eq]
    show _ = (a == b)
    cases h : sameL a b with
    | true => rw [sameL_eq h]; simp
    | false =>
      symm
      rw [beq_eq_false_iff_ne]
      rintro rfl
      rw [sameL_self] at h
      cases h
  · skip
    rw [mkB_ok hc]
    show ((den ρ (mkLen c y)).i == 0) = ((ByteArray.mk ([] : List UInt8).toArray).toList == (den ρ y).s.toList)
    rw [show (ByteArray.mk ([] : List UInt8).toArray) = ByteArray.mk #[] from rfl, mkLen_ok hc, show ((ByteArray.mk #[]).toList == (den ρ y).s.toList) = ((den ρ y).s.toList == []) from by
      rw [show (ByteArray.mk #[]).toList = [] from by rw [ByteArray.toList_eq]]
      cases (den ρ y).s.toList <;> rfl, empty_iff]
    rfl
  · skip
    rw [mkB_ok hc]
    show ((den ρ (mkLen c x)).i == 0) = ((den ρ x).s.toList == (ByteArray.mk ([] : List UInt8).toArray).toList)
    rw [show (ByteArray.mk ([] : List UInt8).toArray) = ByteArray.mk #[] from rfl, mkLen_ok hc, show (ByteArray.mk #[]).toList = [] from by rw [ByteArray.toList_eq], empty_iff]
    rfl
  · rw [mkB_ok hc]
    rfl
def cut1 (c : Cx) (s lo hi : Tm) : Tm :=
  match s with
  | .sl l => match isLit lo, isLit hi with
    | some a, some b => .sl ((l.take b.toNat).drop a.toNat)
    | _, _ => .cut s lo hi
  | .cut t a b => if sure c (.le (.il 0) a) && (sure c (.le (.il 0) lo) && (sure c (.le (.il 0) hi) && sure c (.le hi (mkSub b a)))) then .cut t (mkAdd a lo) (mkAdd a hi) else .cut s lo hi
  | .app t u =>
    if sure c (.le (.il 0) lo) && (sure c (.le lo hi) && sure c (.le hi (mkLen c t))) then (if same lo (.il 0) && same hi (mkLen c t) then t else cut1 c t lo hi)
    else if sure c (.le (mkLen c t) lo) && sure c (.le lo hi) then (if same lo (mkLen c t) && same (mkSub hi (mkLen c t)) (mkLen c u) then u else cut1 c u (mkSub lo (mkLen c t)) (mkSub hi (mkLen c t)))
    else .cut s lo hi
  | s => .cut s lo hi
theorem cut_app_l (a b : ByteArray) {i j : Nat} (h : j ≤ a.size) : (a ++ b).extract i j = a.extract i j := by
  apply ByteArray.ext
  apply Array.ext'
  have hl : a.data.toList.length = a.size := rfl
  simp only [ByteArray.data_extract, ByteArray.data_append, Array.toList_extract, Array.toList_append, List.extract_eq_take_drop]
  apply List.ext_getElem?
  intro k
  simp only [List.getElem?_take, List.getElem?_drop]
  split
  · rw [List.getElem?_append_left (by omega)]
  · rfl
theorem cut_app_r (a b : ByteArray) {i j : Nat} (h : a.size ≤ i) : (a ++ b).extract i j = b.extract (i - a.size) (j - a.size) := by
  apply ByteArray.ext
  apply Array.ext'
  have hl : a.data.toList.length = a.size := rfl
  simp only [ByteArray.data_extract, ByteArray.data_append, Array.toList_extract, Array.toList_append, List.extract_eq_take_drop]
  apply List.ext_getElem?
  intro k
  simp only [List.getElem?_take, List.getElem?_drop]
  by_cases hk : k < j - i
  · rw [if_pos hk, if_pos (by omega), List.getElem?_append_right (by omega)]
    congr 1
    omega
  · rw [if_neg hk, if_neg (by omega)]
theorem cut_whole (a : ByteArray) {i j : Nat} (hi : i = 0) (hj : j = a.size) : a = a.extract i j := by
  subst hi hj
  apply ByteArray.ext
  simp
theorem cut1_ok {ρ : Env} {c : Cx} (hc : c.ok ρ) : ∀ (s lo hi : Tm), (den ρ (cut1 c s lo hi)).s = (den ρ s).s.extract (den ρ lo).i.toNat (den ρ hi).i.toNat := by
  intro s
  induction s with
  | sl l =>
    intro lo hi
    unfold cut1
    split
    · rename_i a b h1 h2
      rw [isLit_eq h1, isLit_eq h2]
      show (⟨((l.take b.toNat).drop a.toNat).toArray⟩ : ByteArray) = (⟨l.toArray⟩ : ByteArray).extract a.toNat b.toNat
      apply ByteArray.ext
      apply Array.ext'
      simp only [ByteArray.data_extract, Array.toList_extract, List.extract_eq_take_drop, List.drop_take]
    · rfl
  | cut t a b _ _ _ =>
    intro lo hi
    unfold cut1
    split
    · rename_i q
      simp only [Bool.and_eq_true] at q
      have h1 := sure_ok hc q.1
      have h2 := sure_ok hc q.2.1
      have h3 := sure_ok hc q.2.2.1
      have h4 := sure_ok hc q.2.2.2
      change decide ((0 : Int) ≤ (den ρ a).i) = true at h1
      change decide ((0 : Int) ≤ (den ρ lo).i) = true at h2
      change decide ((0 : Int) ≤ (den ρ hi).i) = true at h3
      change decide ((den ρ hi).i ≤ (den ρ (mkSub b a)).i) = true at h4
      rw [mkSub_ok] at h4
      simp only [decide_eq_true_eq] at h1 h2 h3 h4
      show (den ρ t).s.extract (den ρ (mkAdd a lo)).i.toNat (den ρ (mkAdd a hi)).i.toNat = ((den ρ t).s.extract (den ρ a).i.toNat (den ρ b).i.toNat).extract _ _
      rw [mkAdd_ok, mkAdd_ok]
      apply ByteArray.ext
      simp only [ByteArray.data_extract, Array.extract_extract]
      congr 1
      · omega
      · omega
    · rfl
  | app t u iht ihu =>
    intro lo hi
    unfold cut1
    have hs : (den ρ (.app t u)).s = (den ρ t).s ++ (den ρ u).s := rfl
    rw [hs]
    split
    · rename_i q
      simp only [Bool.and_eq_true] at q
      have h1 := sure_ok hc q.1
      have h2 := sure_ok hc q.2.1
      have h3 := sure_ok hc q.2.2
      change decide ((0 : Int) ≤ (den ρ lo).i) = true at h1
      change decide ((den ρ lo).i ≤ (den ρ hi).i) = true at h2
      change decide ((den ρ hi).i ≤ (den ρ (mkLen c t)).i) = true at h3
      rw [mkLen_ok hc] at h3
      simp only [decide_eq_true_eq] at h1 h2 h3
      rw [cut_app_l _ _ (by omega)]
      split
      · rename_i z
        simp only [Bool.and_eq_true] at z
        refine cut_whole _ ?_ ?_
        · rw [same_eq z.1]; rfl
        · rw [same_eq z.2, mkLen_ok hc, Int.toNat_natCast]
      · exact iht lo hi
    · split
      · rename_i q
        simp only [Bool.and_eq_true] at q
        have h1 := sure_ok hc q.1
        have h2 := sure_ok hc q.2
        change decide ((den ρ (mkLen c t)).i ≤ (den ρ lo).i) = true at h1
        change decide ((den ρ lo).i ≤ (den ρ hi).i) = true at h2
        rw [mkLen_ok hc] at h1
        simp only [decide_eq_true_eq] at h1 h2
        rw [cut_app_r _ _ (by omega)]
        split
        · rename_i z
          simp only [Bool.and_eq_true] at z
          have e := same_eq z.2
          have e2 : (den ρ (mkSub hi (mkLen c t))).i = (den ρ (mkLen c u)).i := by rw [e]
          rw [mkSub_ok, mkLen_ok hc, mkLen_ok hc] at e2
          refine cut_whole _ ?_ ?_
          · rw [same_eq z.1, mkLen_ok hc]; omega
          · omega
        · rw [ihu, mkSub_ok, mkSub_ok, mkLen_ok hc]
          congr 1
          · omega
          · omega
      · rfl
  | _ => intro lo hi; rfl
/-- s[lo:hi] where 0 ≤ lo ≤ hi ≤ len(s). -/
def mkCut (c : Cx) (s lo hi : Tm) : Tm :=
  if same lo hi then .sl []
  else if same lo (.il 0) && same hi (mkLen c s) then s else cut1 c s lo hi
theorem mkCut_ok {ρ : Env} {c : Cx} (hc : c.ok ρ) (s lo hi : Tm) : (den ρ (mkCut c s lo hi)).s = (den ρ s).s.extract (den ρ lo).i.toNat (den ρ hi).i.toNat := by
  unfold mkCut
  split
  · rename_i q
    rw [same_eq q]
    apply ByteArray.ext
    show (#[] : Array UInt8) = _
    simp
  · split
    · rename_i q
      simp only [Bool.and_eq_true] at q
      rw [same_eq q.1, same_eq q.2, mkLen_ok hc]
      show _ = (den ρ s).s.extract 0 _
      apply ByteArray.ext
      simp
    · exact cut1_ok hc ..
def mkByte (c : Cx) (s i : Tm) : Tm :=
  match s with
  | .sl l => match isLit i with
    | some n => .il (((l.getD n.toNat 0).toNat : Nat) : Int)
    | none => .byte s i
  | .app t u =>
    if sure c (.le (.il 0) i) && sure c (.lt i (mkLen c t)) then mkByte c t i
    else if sure c (.le (mkLen c t) i) then mkByte c u (mkSub i (mkLen c t))
    else .byte s i
  | .cut t a b => if sure c (.le (.il 0) a) && (sure c (.le (.il 0) i) && sure c (.lt i (mkSub b a))) then mkByte c t (mkAdd a i) else .byte s i
  | s => .byte s i
theorem byteOf_app_l (a b : ByteArray) {i : Int} (h0 : 0 ≤ i) (h : i < (a.size : Int)) : byteOf (a ++ b) i = byteOf a i := by
  unfold byteOf
  have hl : a.data.toList.length = a.size := rfl
  rw [ByteArray.data_append, Array.toList_append, List.getD, List.getD, List.getElem?_append_left (by omega)]
theorem byteOf_app_r (a b : ByteArray) {i : Int} (h : (a.size : Int) ≤ i) : byteOf (a ++ b) i = byteOf b (i - (a.size : Int)) := by
  unfold byteOf
  have hl : a.data.toList.length = a.size := rfl
  rw [ByteArray.data_append, Array.toList_append, List.getD, List.getD, List.getElem?_append_right (by omega), show i.toNat - a.data.toList.length = (i - (a.size : Int)).toNat from by omega]
theorem byteOf_cut (a : ByteArray) {i lo hi : Int} (h0 : 0 ≤ lo) (h1 : 0 ≤ i) (h2 : i < hi - lo) : byteOf (a.extract lo.toNat hi.toNat) i = byteOf a (lo + i) := by
  unfold byteOf
  simp only [ByteArray.data_extract, Array.toList_extract, List.extract_eq_take_drop]
  rw [List.getD, List.getD, List.getElem?_take, if_pos (by omega), List.getElem?_drop, show lo.toNat + i.toNat = (lo + i).toNat from by omega]
theorem mkByte_ok {ρ : Env} {c : Cx} (hc : c.ok ρ) : ∀ (s i : Tm), (den ρ (mkByte c s i)).i = byteOf (den ρ s).s (den ρ i).i := by
  intro s
  induction s with
  | sl l =>
    intro i
    unfold mkByte
    split
    · rename_i n h
      rw [isLit_eq h]
      rfl
    · rfl
  | app t u iht ihu =>
    intro i
    unfold mkByte
    have hs : (den ρ (.app t u)).s = (den ρ t).s ++ (den ρ u).s := rfl
    rw [hs]
    split
    · rename_i q
      simp only [Bool.and_eq_true] at q
      have h1 := sure_ok hc q.1
      have h2 := sure_ok hc q.2
      change decide ((0 : Int) ≤ (den ρ i).i) = true at h1
      change decide ((den ρ i).i < (den ρ (mkLen c t)).i) = true at h2
      rw [mkLen_ok hc] at h2
      simp only [decide_eq_true_eq] at h1 h2
      rw [byteOf_app_l _ _ h1 h2]
      exact iht i
    · split
      · rename_i q
        have h1 := sure_ok hc q
        change decide ((den ρ (mkLen c t)).i ≤ (den ρ i).i) = true at h1
        rw [mkLen_ok hc] at h1
        simp only [decide_eq_true_eq] at h1
        rw [byteOf_app_r _ _ h1, ihu, mkSub_ok, mkLen_ok hc]
      · rfl
  | cut t a b iht _ _ =>
    intro i
    unfold mkByte
    split
    · rename_i q
      simp only [Bool.and_eq_true] at q
      have h1 := sure_ok hc q.1
      have h2 := sure_ok hc q.2.1
      have h3 := sure_ok hc q.2.2
      change decide ((0 : Int) ≤ (den ρ a).i) = true at h1
      change decide ((0 : Int) ≤ (den ρ i).i) = true at h2
      change decide ((den ρ i).i < (den ρ (mkSub b a)).i) = true at h3
      rw [mkSub_ok] at h3
      simp only [decide_eq_true_eq] at h1 h2 h3
      show _ = byteOf ((den ρ t).s.extract (den ρ a).i.toNat (den ρ b).i.toNat) (den ρ i).i
      rw [byteOf_cut _ h1 h2 h3, iht, mkAdd_ok]
    · rfl
  | _ => intro i; rfl

/-! Numbers. -/
def kBits : IntKind → Int
  | .i8 | .u8 => 8 | .i16 | .u16 => 16 | .i32 | .u32 => 32 | .i64 | .u64 => 64
theorem kBits_ok (k : IntKind) : kBits k = (k.bits : Int) := by cases k <;> rfl
def arith (c : Cx) (op : BinOp) (k : IntKind) (a b : Tm) : Option (List Tm × C) :=
  match op with
  | .add => some ([], .int k (mkWrap c.bs k (mkAdd a b)))
  | .sub => some ([], .int k (mkWrap c.bs k (mkSub a b)))
  | .mul => some ([], .int k (mkWrap c.bs k (mkMul a b)))
  | .quo => some (need c (.not (.eq b (.il 0))), .int k (mkWrap c.bs k (mkQuo c.bs a b)))
  | .rem => some (need c (.not (.eq b (.il 0))), .int k (mkRem c.bs a b))
  | .and => some ([], .int k (mkBop .and k a b))
  | .or => some ([], .int k (mkBop .or k a b))
  | .xor => some ([], .int k (mkBop .xor k a b))
  | .andNot => some ([], .int k (mkBop .andNot k a b))
  | .eql => some ([], .bool (mkB c (.eq a b)))
  | .neq => some ([], .bool (mkNot (mkB c (.eq a b))))
  | .lss => some ([], .bool (mkB c (.lt a b)))
  | .leq => some ([], .bool (mkB c (.le a b)))
  | .gtr => some ([], .bool (mkB c (.lt b a)))
  | .geq => some ([], .bool (mkB c (.le b a)))
  | .shl | .shr => none
theorem int_eq {k : IntKind} {a b : Int} (h : a = b) : Value.int k a = Value.int k b := by rw [h]
theorem bool_eq {a b : Bool} (h : a = b) : Value.bool a = Value.bool b := by rw [h]
theorem res_int {k : IntKind} {a b : Int} {w : World} (h : b = a) : (Result.ok (Value.int k a) w) = .ok (.int k b) w := by rw [h]
theorem res_bool {a b : Bool} {w : World} (h : b = a) : (Result.ok (Value.bool a) w) = .ok (.bool b) w := by rw [h]
theorem not0 {ρ : Env} {b : Tm} (h : (den ρ (.not (.eq b (.il 0)))).b = true) : (den ρ b).i ≠ 0 := by
  change (!((den ρ b).i == 0)) = true at h
  simpa using h
theorem arith_ok {ρ : Env} {β : Bn} {c : Cx} (hc : c.ok ρ) {op : BinOp} {k : IntKind} {a b : Tm} {m : List Tm} {r : C} (h : arith c op k a b = some (m, r)) (hm : Met ρ m) (P : Program) (t : TypeId) (w : World) :
    (binOp op t (.int k (den ρ a).i) (.int k (den ρ b).i)).run P w = .ok (r.den ρ β) w := by
  cases op <;> simp only [arith] at h <;> first
    | (cases h; done)
    | (injection h with h; injection h with h1 h2; subst h1 h2)
  · rw [binOp_add]; exact res_int (by rw [mkWrap_ok hc.bs, mkAdd_ok])
  · rw [binOp_sub]; exact res_int (by rw [mkWrap_ok hc.bs, mkSub_ok])
  · rw [binOp_mul]; exact res_int (by rw [mkWrap_ok hc.bs, mkMul_ok])
  · have h0 := not0 (need_ok hc hm)
    rw [binOp_quo]
    simp only [Op.intDiv, h0, if_false]
    exact res_int (by rw [mkWrap_ok hc.bs, mkQuo_ok hc.bs])
  · have h0 := not0 (need_ok hc hm)
    rw [binOp_rem]
    simp only [Op.intDiv, h0, if_false]
    exact res_int (by rw [mkRem_ok hc.bs])
  · rw [binOp_and]; exact res_int (mkBop_ok ..)
  · rw [binOp_or]; exact res_int (mkBop_ok ..)
  · rw [binOp_xor]; exact res_int (mkBop_ok ..)
  · rw [binOp_andNot]; exact res_int (mkBop_ok ..)
  · rw [binOp_eql]; exact res_bool (mkB_ok hc _)
  · rw [binOp_neq]; exact res_bool (by rw [mkNot_ok, mkB_ok hc]; rfl)
  · rw [binOp_lss]; exact res_bool (mkB_ok hc _)
  · rw [binOp_leq]; exact res_bool (mkB_ok hc _)
  · rw [binOp_gtr]; exact res_bool (mkB_ok hc _)
  · rw [binOp_geq]; exact res_bool (mkB_ok hc _)
def shiftS (c : Cx) (op : BinOp) (k : IntKind) (a b : Tm) : Option (List Tm × C) :=
  match op with
  | .shl => some (need c (.le (.il 0) b) ++ need c (.le b (.il (kBits k))), .int k (mkWrap c.bs k (mkMul a (mkPw b))))
  | .shr => some (need c (.le (.il 0) b) ++ need c (.le b (.il (kBits k))), .int k (mkDv a (mkPw b)))
  | _ => none
theorem le_of {ρ : Env} {a b : Tm} (h : (den ρ (.le a b)).b = true) : (den ρ a).i ≤ (den ρ b).i := by
  change decide ((den ρ a).i ≤ (den ρ b).i) = true at h
  simpa using h
theorem lt_of {ρ : Env} {a b : Tm} (h : (den ρ (.lt a b)).b = true) : (den ρ a).i < (den ρ b).i := by
  change decide ((den ρ a).i < (den ρ b).i) = true at h
  simpa using h
theorem shiftS_ok {ρ : Env} {β : Bn} {c : Cx} (hc : c.ok ρ) {op : BinOp} {k l : IntKind} {a b : Tm} {m : List Tm} {r : C} (h : shiftS c op k a b = some (m, r)) (hm : Met ρ m) (P : Program) (t : TypeId) (w : World) :
    (binOp op t (.int k (den ρ a).i) (.int l (den ρ b).i)).run P w = .ok (r.den ρ β) w := by
  cases op <;> simp only [shiftS] at h <;> first
    | (cases h; done)
    | (injection h with h; injection h with h1 h2; subst h1 h2)
  · have h0 := le_of (need_ok hc hm.l)
    have h1 := le_of (need_ok hc hm.r)
    change (0 : Int) ≤ _ at h0
    change _ ≤ kBits k at h1
    rw [kBits_ok] at h1
    rw [binOp_shl, shift_shl k l _ _ h0 h1]
    exact res_int (by rw [mkWrap_ok hc.bs, mkMul_ok, mkPw_ok])
  · have h0 := le_of (need_ok hc hm.l)
    have h1 := le_of (need_ok hc hm.r)
    change (0 : Int) ≤ _ at h0
    change _ ≤ kBits k at h1
    rw [kBits_ok] at h1
    rw [binOp_shr, shift_shr k l _ _ h0 h1]
    exact res_int (by rw [mkDv_ok, mkPw_ok])

/-! Equal values of structs. -/
def V1.isAgg : V1 → Bool
  | .agg _ => true
  | _ => false
/-- A part of a row of cells. -/
def rowB : TypeDesc → Bool
  | .struct _ => true
  | .array _ _ => true
  | _ => false
def partS (P : Program) (t : TypeId) (cs : List C) (off : Nat) : Option V1 :=
  match P.underlying t with
  | some d =>
    if rowB d then (P.info? t).map fun i => .agg ((cs.take (off + i.size)).drop off)
    else (cs[off]?).map .c
  | none => none
theorem run_isAgg {P : Program} {t : TypeId} {d : TypeDesc} (h : P.underlying t = some d) (w : World) : (isAgg t).run P w = .ok (rowB d) w := by
  simp only [isAgg, Sem.run_bind, run_underlying h, Result.andThen_ok]
  cases d <;> rfl
theorem denL_take (ρ : Env) (β : Bn) (l : List C) (n : Nat) : denL ρ β (l.take n) = (denL ρ β l).take n := by simp [denL, List.map_take]
theorem denL_drop (ρ : Env) (β : Bn) (l : List C) (n : Nat) : denL ρ β (l.drop n) = (denL ρ β l).drop n := by simp [denL, List.map_drop]
theorem denL_app (ρ : Env) (β : Bn) (l m : List C) : denL ρ β (l ++ m) = denL ρ β l ++ denL ρ β m := by simp [denL]
theorem denL_len (ρ : Env) (β : Bn) (l : List C) : (denL ρ β l).length = l.length := by simp [denL]
theorem extract_list (l : List Value) (a b : Nat) : l.toArray.extract a b = ((l.take b).drop a).toArray := by
  apply Array.ext'
  simp [List.drop_take]
theorem partS_ok {ρ : Env} {β : Bn} {P : Program} {t : TypeId} {cs : List C} {off : Nat} {x : V1} (h : partS P t cs off = some x) (w : World) : (part t (denL ρ β cs).toArray off).run P w = .ok (x.den ρ β) w := by
  unfold partS at h
  split at h
  · rename_i d hu
    have ha := run_isAgg hu w
    split at h
    · rename_i hr
      rw [hr] at ha
      cases hi : P.info? t with
      | none => rw [hi] at h; cases h
      | some i =>
        rw [hi] at h
        injection h with h
        subst h
        simp only [part, Sem.run_bind, ha, Result.andThen_ok, if_true, sizeOf, typeInfo, run_program, hi, Sem.run_pure]
        rw [extract_list]
        show _ = Result.ok (Value.agg (denL ρ β ((cs.take (off + i.size)).drop off)).toArray) w
        rw [denL_drop, denL_take]
    · rename_i hr
      rw [show rowB d = false from by simpa using hr] at ha
      cases hc : cs[off]? with
      | none => rw [hc] at h; cases h
      | some y =>
        rw [hc] at h
        injection h with h
        subst h
        have hv : (denL ρ β cs).toArray[off]? = some (y.den ρ β) := by simp [denL, hc]
        simp only [part, Sem.run_bind, ha, Result.andThen_ok, hv]
        rfl
  · cases h
/-- Are two of a type the same? (n: how deep structs lie in each other.) -/
def eqFs (P : Program) (r : TypeId → V1 → V1 → Option Tm) (xs ys : List C) : List Field → Option Tm
  | [] => some (.bl true)
  | f :: fs =>
    if f.name ≠ "_" then
      match partS P f.type xs f.offset, partS P f.type ys f.offset with
      | some a, some b =>
        match r f.type a b, eqFs P r xs ys fs with
        | some s, some t => some (mkAnd s t)
        | _, _ => none
      | _, _ => none
    else none
def eqS (P : Program) (c : Cx) : Nat → TypeId → V1 → V1 → Option Tm
  | 0, _, _, _ => none
  | n + 1, t, x, y =>
    match P.underlying t, x, y with
    | some (.int _), .c (.int k a), .c (.int l b) => if Nat.beq (kNo k) (kNo l) then some (mkB c (.eq a b)) else none
    | some .bool, .c (.bool a), .c (.bool b) => some (mkB c (.bq a b))
    | some .string, .c (.str a), .c (.str b) => some (mkSeq c a b)
    | some (.struct F), .agg xs, .agg ys => if P.stoodInHeld t then none else eqFs P (eqS P c n) xs ys F.toList
    | _, _, _ => none
theorem eqFs_ok {ρ : Env} {β : Bn} {P : Program} {r : TypeId → V1 → V1 → Option Tm} {D : Nat} (hr : ∀ t x y tm, r t x y = some tm → ∀ w, (Op.equalIn D t (x.den ρ β) (y.den ρ β)).run P w = .ok (den ρ tm).b w)
    {xs ys : List C} : ∀ {fs : List Field} {tm : Tm}, eqFs P r xs ys fs = some tm → ∀ w, (Op.eqFields D (denL ρ β xs).toArray (denL ρ β ys).toArray fs).run P w = .ok (den ρ tm).b w
  | [], tm, h, w => by
    injection h with h
    subst h
    rfl
  | f :: fs, tm, h, w => by
    simp only [eqFs] at h
    split at h
    · rename_i hn
      split at h
      · rename_i a b ha hb
        split at h
        · rename_i s t hs ht
          injection h with h
          subst h
          have e1 := partS_ok (ρ := ρ) (β := β) ha w
          have e2 := partS_ok (ρ := ρ) (β := β) hb w
          have e3 := hr _ _ _ _ hs w
          have e4 := eqFs_ok hr ht w
          rw [mkAnd_ok]
          unfold Op.eqFields
          rw [if_pos hn]
          simp only [Sem.run_bind, e1, e2, e3, Result.andThen_ok]
          cases (den ρ s).b
          · rfl
          · simpa using e4
        · cases h
      · cases h
    · cases h
theorem eqS_ok {ρ : Env} {β : Bn} {P : Program} {c : Cx} (hc : c.ok ρ) : ∀ {n : Nat} {t : TypeId} {x y : V1} {tm : Tm}, eqS P c n t x y = some tm → ∀ D w, (Op.equalIn (n + D) t (x.den ρ β) (y.den ρ β)).run P w = .ok (den ρ tm).b w
  | 0, _, _, _, _, h, _, _ => by cases h
  | n + 1, t, x, y, tm, h, D, w => by
    rw [Nat.add_right_comm]
    simp only [eqS] at h
    split at h
    · rename_i k0 k a l b hu
      split at h
      · rename_i hk
        have hk := kNo_inj (Nat.eq_of_beq_eq_true hk)
        injection h with h
        subst h hk
        show (Op.equalIn (n + D + 1) t (.int k (den ρ a).i) (.int k (den ρ b).i)).run P w = _
        rw [run_equalIn_int w _ t k _ _ _ hu, mkB_ok hc]
        rfl
      · cases h
    · rename_i a b hu
      injection h with h
      subst h
      show (Op.equalIn (n + D + 1) t (.bool (den ρ a).b) (.bool (den ρ b).b)).run P w = _
      rw [run_equalIn_bool' w _ t _ _ hu, mkB_ok hc]
      rfl
    · rename_i a b hu
      injection h with h
      subst h
      show (Op.equalIn (n + D + 1) t (.string (den ρ a).s) (.string (den ρ b).s)).run P w = _
      rw [run_equalIn_string w _ t _ _ hu, mkSeq_ok hc]
    · rename_i F xs ys hu
      split at h
      · cases h
      · rename_i hs
        have hF : P.fieldsOf t = F := by simp [Program.fieldsOf, hu]
        show (Op.equalIn (n + D + 1) t (.agg (denL ρ β xs).toArray) (.agg (denL ρ β ys).toArray)).run P w = _
        rw [run_equalIn_struct w (n + D) t _ _ (by rw [hF]; exact hu) (by simpa using hs), hF]
        exact eqFs_ok (D := n + D) (fun t x y tm h w => eqS_ok hc h D w) h w
    · cases h
end Sy
end Go.Proofs.Ytnmfmjlpfhdgeaa
