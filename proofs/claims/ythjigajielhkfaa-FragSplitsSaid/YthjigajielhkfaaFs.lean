/- Split of a packet: what the program's and the reference's come to: the same table. -/
import Derived.Test.YthjigajielhkfaaFs0
namespace Go.Proofs.Ythjigajielhkfaa
open Go.RowKit Sy
set_option linter.unusedVariables false
set_option linter.unusedSimpArgs false

/-- What the blocks of an end tell of a new table. -/
theorem newTab_tab {ρ : Env} {w0 : World} {β0 : Bn} {n0 : Nat} {s : Sy.St} {β : Bn} {a : Act} {w : World} (hM : Md ρ (fun _ => False) w0 β0 n0 s β a w) {l : Nat} {ty : TypeId} {lv : List Kd} {t L : Tm} {rest : List C} (hb : s.hp.head? = some ⟨l, ty, rest, true, none, .tab lv t⟩) (hL : (den ρ L).i = ((den ρ t).c.length : Int)) :
    NewTab w0 w (C.den ρ β (.slt l lv.length (.il 0) L (.il 0))) ty lv (den ρ t).c := by
  have hm : (⟨l, ty, rest, true, none, .tab lv t⟩ : Bk) ∈ s.hp := List.mem_of_mem_head? (by rw [hb]; rfl)
  have hB : RowT w (β l) (β (l + 1)) ty lv (den ρ t).c := hM.hp _ hm
  refine ⟨Sy.Only.below_all hM.only, β l, β (l + 1), ?_, hB, ?_⟩
  · rw [slt_den, hL]
    show sltZ _ _ _ ((0 : Int)).toNat _ ((0 : Int)).toNat = _
    rw [show ((0 : Int)).toNat = 0 from rfl, sltZ_zero, Int.toNat_natCast]
  · by_cases h0 : β (l + 1) = 0
    · exact .inl h0
    · exact .inr ((hM.may _ hm rfl (.inr h0)).resolve_left fun h => h)
theorem newTab_hp {ρ : Env} {w0 : World} {β0 : Bn} {n0 : Nat} {bks : List Bk} {β : Bn} {w : World} (hM : Sy.Hp ρ (fun _ => False) w0 β0 n0 bks β w) {l : Nat} {ty : TypeId} {lv : List Kd} {t L : Tm} {rest : List C} (hm : (⟨l, ty, rest, true, none, .tab lv t⟩ : Bk) ∈ bks) (hL : (den ρ L).i = ((den ρ t).c.length : Int)) :
    NewTab w0 w (C.den ρ β (.slt l lv.length (.il 0) L (.il 0))) ty lv (den ρ t).c := by
  have hB : RowT w (β l) (β (l + 1)) ty lv (den ρ t).c := hM.hp _ hm
  refine ⟨Sy.Only.below_all hM.only, β l, β (l + 1), ?_, hB, ?_⟩
  · rw [slt_den, hL]
    show sltZ _ _ _ ((0 : Int)).toNat _ ((0 : Int)).toNat = _
    rw [show ((0 : Int)).toNat = 0 from rfl, sltZ_zero, Int.toNat_natCast]
  · by_cases h0 : β (l + 1) = 0
    · exact .inl h0
    · exact .inr ((hM.may _ hm rfl (.inr h0)).resolve_left fun h => h)
theorem newTab_row {ρ : Env} {w0 : World} {β0 : Bn} {n0 : Nat} {s : Sy.St} {β : Bn} {a : Act} {w : World} (hM : Md ρ (fun _ => False) w0 β0 n0 s β a w) {l : Nat} {ty : TypeId} {lv : List Kd} {cs : List C} (hb : s.hp.head? = some ⟨l, ty, cs, true, none, .no⟩) (hk : kAll lv (denL ρ β cs)) :
    NewTab w0 w (C.den ρ β (.slc l 0 (.il 1) (.il 1))) ty lv [denL ρ β cs] := by
  have hm : (⟨l, ty, cs, true, none, .no⟩ : Bk) ∈ s.hp := List.mem_of_mem_head? (by rw [hb]; rfl)
  have hB : Blk w (β l) ty (denL ρ β cs) := hM.hp _ hm
  have hl := kAll_len hk
  refine ⟨Sy.Only.below_all hM.only, β l, 1, ?_, ?_, .inr ((hM.may _ hm rfl (Bk.fixed rfl rfl β)).resolve_left fun h => h)⟩
  · rw [sltV_some (by omega)]
    rfl
  · refine RowT.of_blk hB (by rw [hl, Nat.one_mul]) (by decide) ?_ (Nat.le_refl _) (fun r hr => by rw [List.mem_singleton.1 hr]; exact hk)
    rw [List.take_of_length_le (by simp [hl])]
    simp
theorem newTab_nil {w0 w : World} (hb : Below w0.heap.size w0 w) (ty : TypeId) (lv : List Kd) : NewTab w0 w (.slice none 0 0) ty lv [] := ⟨hb, 0, 0, rfl, RowT.none_ .., .inl rfl⟩

/-- What is split. -/
structure FsIn (src dst proto ttl id off mtu e : Int) (body : ByteArray) : Prop where
  s0 : 0 ≤ src
  s1 : src ≤ 4294967295
  d0 : 0 ≤ dst
  d1 : dst ≤ 4294967295
  p0 : -9223372036854775808 ≤ proto
  p1 : proto ≤ 9223372036854775807
  t0 : -9223372036854775808 ≤ ttl
  t1 : ttl ≤ 9223372036854775807
  i0 : -9223372036854775808 ≤ id
  i1 : id ≤ 9223372036854775807
  o0 : -9223372036854775808 ≤ off
  o1 : off ≤ 9223372036854775807
  m0 : -9223372036854775808 ≤ mtu
  m1 : mtu ≤ 9223372036854775807
  e0 : 0 ≤ e
  e1 : e ≤ 2
  b : body.size ≤ 9223372036854775807
/-- A fragment from place p on; st: how many bytes one has. -/
def fsRow (src dst proto ttl id : Int) (dont : Bool) (st : Nat) (body : ByteArray) (p : Nat) : List Value :=
  [.int .u32 src, .int .u32 dst, .int .i64 proto, .int .i64 ttl, .int .i64 id, .bool dont, .bool (decide (p + st < body.size)), .int .i64 ((p / 8 : Nat) : Int), .string (body.extract p (min body.size (p + st)))]
def fsTab (row : Nat → List Value) (st k : Nat) : List (List Value) := (List.range k).map fun j => row (st * j)
theorem fsTab_len (row : Nat → List Value) (st k : Nat) : (fsTab row st k).length = k := by simp [fsTab]
theorem fsTab_succ (row : Nat → List Value) (st k : Nat) : fsTab row st (k + 1) = fsTab row st k ++ [row (st * k)] := by simp [fsTab, List.range_succ]
def fsSt8 (mtu : Int) : Nat := ((mtu - 20) / 8 * 8).toNat
def fsN (st size : Nat) : Nat := (size + st - 1) / st
theorem fsN_eq {st size k : Nat} (h1 : st * (k - 1) < size) (h2 : size ≤ st * k) : k = fsN st size := by
  unfold fsN
  have hs : 0 < st := by
    rcases Nat.eq_zero_or_pos st with h | h
    · rw [h] at h1 h2; simp at h1 h2; omega
    · exact h
  have hk : 0 < k := by
    rcases Nat.eq_zero_or_pos k with h | h
    · rw [h] at h2; simp at h2; omega
    · exact h
  have e : st * k = st * (k - 1) + st := by rw [← Nat.mul_succ]; congr 1; omega
  symm
  apply Nat.div_eq_of_lt_le
  · rw [Nat.mul_comm]; omega
  · rw [Nat.mul_comm, Nat.mul_succ]; omega
def fsE (e mtu : Int) (dont more : Bool) (off : Int) (size : Nat) : Int :=
  if mtu < 28 ∨ 1420 < mtu ∨ more = true ∨ off ≠ 0 then 1 else if e ≠ 0 then e else if 4000 < size then 2 else if (size : Int) + 20 ≤ mtu then 0 else if dont = true then 2 else 0
def fsRows (src dst proto ttl id : Int) (dont more : Bool) (off mtu e : Int) (body : ByteArray) : List (List Value) :=
  if fsE e mtu dont more off body.size ≠ 0 then [] else if (body.size : Int) + 20 ≤ mtu then [pktC src dst proto ttl id dont more off body] else fsTab (fsRow src dst proto ttl id dont (fsSt8 mtu) body) (fsSt8 mtu) (fsN (fsSt8 mtu) body.size)
def fsEnv (src dst proto ttl id : Int) (dont more : Bool) (off mtu e : Int) (body : ByteArray) : Env := mkEnv [src, dst, proto, ttl, id, 0, 0, off, 0, mtu, e] [false, false, false, false, false, dont, more] [none8, none8, none8, none8, none8, none8, none8, none8, body] []
theorem FsIn.bs {src dst proto ttl id off mtu e : Int} {body : ByteArray} (h : FsIn src dst proto ttl id off mtu e body) {ρ : Env} (j0 : ρ.i 0 = src) (j1 : ρ.i 1 = dst) (j2 : ρ.i 2 = proto) (j3 : ρ.i 3 = ttl) (j4 : ρ.i 4 = id) (j7 : ρ.i 7 = off) (j9 : ρ.i 9 = mtu) (j10 : ρ.i 10 = e) : Bds ρ fsBs := by
  obtain ⟨s0, s1, d0, d1, p0, p1, t0, t1, i0, i1, o0, o1, m0, m1, e0, e1, b⟩ := h
  intro x hx
  change x ∈ [_, _, _, _, _, _, _, _] at hx
  simp only [List.mem_cons, List.not_mem_nil, or_false] at hx
  rcases hx with rfl | rfl | rfl | rfl | rfl | rfl | rfl | rfl
  · show (0 : Int) ≤ ρ.i 0 ∧ ρ.i 0 ≤ 4294967295
    omega
  · show (0 : Int) ≤ ρ.i 1 ∧ ρ.i 1 ≤ 4294967295
    omega
  · show -9223372036854775808 ≤ ρ.i 2 ∧ ρ.i 2 ≤ 9223372036854775807
    omega
  · show -9223372036854775808 ≤ ρ.i 3 ∧ ρ.i 3 ≤ 9223372036854775807
    omega
  · show -9223372036854775808 ≤ ρ.i 4 ∧ ρ.i 4 ≤ 9223372036854775807
    omega
  · show -9223372036854775808 ≤ ρ.i 7 ∧ ρ.i 7 ≤ 9223372036854775807
    omega
  · show -9223372036854775808 ≤ ρ.i 9 ∧ ρ.i 9 ≤ 9223372036854775807
    omega
  · show -9223372036854775808 ≤ ρ.i 10 ∧ ρ.i 10 ≤ 9223372036854775807
    omega
/-- The letters that are never changed. -/
structure FsJ (src dst proto ttl id : Int) (dont more : Bool) (off mtu e : Int) (body : ByteArray) (ρ : Env) : Prop where
  g : ρ.good
  j0 : ρ.i 0 = src
  j1 : ρ.i 1 = dst
  j2 : ρ.i 2 = proto
  j3 : ρ.i 3 = ttl
  j4 : ρ.i 4 = id
  j7 : ρ.i 7 = off
  j9 : ρ.i 9 = mtu
  j10 : ρ.i 10 = e
  b5 : ρ.b 5 = dont
  b6 : ρ.b 6 = more
  s8 : ρ.s 8 = body
section
variable {src dst proto ttl id : Int} {dont more : Bool} {off mtu e : Int} {body : ByteArray}
theorem fsEnv_j : FsJ src dst proto ttl id dont more off mtu e body (fsEnv src dst proto ttl id dont more off mtu e body) := ⟨fun i => rfl, rfl, rfl, rfl, rfl, rfl, rfl, rfl, rfl, rfl, rfl, rfl⟩
theorem chkS_ok (h : FsIn src dst proto ttl id off mtu e body) (he : e = ipChk proto ttl id off 0) {ρ : Env} (J : FsJ src dst proto ttl id dont more off mtu e body ρ) : ∀ q ∈ fsSp, q.Ok Try.prog ρ := by
  intro q hq
  change q ∈ [_, _] at hq
  simp only [List.mem_cons, List.not_mem_nil, or_false] at hq
  have key : ∀ xs, sameT [.one (.agg pkC0)] xs = true → ∀ β, xs.map (SV.den ρ β) = [.agg (pktC src dst proto ttl id dont more off none8).toArray] := fun xs hx β => by
    rw [← sameT_eq hx]
    show [Value.agg _] = _
    congr 2
    show [Value.int .u32 (ρ.i 0), .int .u32 (ρ.i 1), .int .i64 (ρ.i 2), .int .i64 (ρ.i 3), .int .i64 (ρ.i 4), .bool (ρ.b 5), .bool (ρ.b 6), .int .i64 (ρ.i 7), .string none8].toArray = _
    rw [J.j0, J.j1, J.j2, J.j3, J.j4, J.j7, J.b5, J.b6]
    rfl
  have hv : ∀ β, (SV.one (.c (.int .i64 (.iv 10)))).den ρ β = .int .i64 (ipChk proto ttl id off none8.size) := fun β => by
    show Value.int .i64 (ρ.i 10) = _
    rw [J.j10, he]
    rfl
  rcases hq with rfl | rfl
  · refine fixSp_ok fun xs hx β w => ?_
    rw [key xs hx, hv]
    exact ip_Check _ _ _ _ _ _ _ _ _ _ (by decide)
  · refine fixSp_ok fun xs hx β w => ?_
    rw [key xs hx, hv]
    exact ref_IpCheck _ _ _ _ _ _ _ _ _ _ (by decide)
theorem fs_start (h : FsIn src dst proto ttl id off mtu e body) (w : World) : Md (fsEnv src dst proto ttl id dont more off mtu e body) (fun _ => False) w (fun _ => 0) 0 { fsSt with tm := [] } (fun _ => 0) ⟨#[], []⟩ w := by
  refine Md.start ⟨fun x hx => ?_, fun t ht => by cases ht⟩
  rcases List.mem_cons.1 hx with rfl | hx
  · have := h.b
    show (0 : Int) ≤ (body.size : Int) ∧ (body.size : Int) ≤ 9223372036854775807
    omega
  · exact h.bs (ρ := fsEnv src dst proto ttl id dont more off mtu e body) rfl rfl rfl rfl rfl rfl rfl rfl x hx
theorem pkC_k (h : FsIn src dst proto ttl id off mtu e body) {ρ : Env} (J : FsJ src dst proto ttl id dont more off mtu e body ρ) (β : Bn) : denL ρ β pkC = pktC src dst proto ttl id dont more off body ∧ kAll pkLv (denL ρ β pkC) := by
  obtain ⟨s0, s1, d0, d1, p0, p1, t0, t1, i0, i1, o0, o1, m0, m1, e0, e1, b⟩ := h
  have e : denL ρ β pkC = pktC src dst proto ttl id dont more off body := by
    show [Value.int .u32 (ρ.i 0), .int .u32 (ρ.i 1), .int .i64 (ρ.i 2), .int .i64 (ρ.i 3), .int .i64 (ρ.i 4), .bool (ρ.b 5), .bool (ρ.b 6), .int .i64 (ρ.i 7), .string (ρ.s 8)] = _
    rw [J.j0, J.j1, J.j2, J.j3, J.j4, J.j7, J.b5, J.b6, J.s8]
    rfl
  refine ⟨e, ?_⟩
  rw [e]
  exact ⟨⟨_, rfl, wf_of s0 s1⟩, ⟨_, rfl, wf_of d0 d1⟩, ⟨_, rfl, wf_of p0 p1⟩, ⟨_, rfl, wf_of t0 t1⟩, ⟨_, rfl, wf_of i0 i1⟩, ⟨_, rfl⟩, ⟨_, rfl⟩, ⟨_, rfl, wf_of o0 o1⟩, ⟨_, rfl, b⟩, trivial⟩
/-- What is asked of a Split. -/
def FsPost (src dst proto ttl id : Int) (dont more : Bool) (off mtu e : Int) (body : ByteArray) (w : World) (v : Value) (w' : World) : Prop := ∃ t, v = .tuple #[t, .int .i64 (fsE e mtu dont more off body.size)] ∧ NewTab w w' t 24 pkLv (fsRows src dst proto ttl id dont more off mtu e body)
theorem fs_err (J : FsJ src dst proto ttl id dont more off mtu e body (fsEnv src dst proto ttl id dont more off mtu e body)) {x : Tm} {n : Int} (hx : (den (fsEnv src dst proto ttl id dont more off mtu e body) x).i = n) (hn : fsE e mtu dont more off body.size = n) (h0 : n ≠ 0) {w w' : World} (hb : Below w.heap.size w w') (β : Bn) :
    FsPost src dst proto ttl id dont more off mtu e body w ((FsV.one x).v.den (fsEnv src dst proto ttl id dont more off mtu e body) β) w' := by
  refine ⟨.slice none 0 0, ?_, ?_⟩
  · show Value.tuple #[.slice none 0 0, .int .i64 (den _ x).i] = _
    rw [hx, hn]
  · have : fsRows src dst proto ttl id dont more off mtu e body = [] := by
      unfold fsRows
      rw [if_pos (by rw [hn]; exact h0)]
    rw [this]
    exact newTab_nil hb _ _
theorem fs_one (h : FsIn src dst proto ttl id off mtu e body) (J : FsJ src dst proto ttl id dont more off mtu e body (fsEnv src dst proto ttl id dont more off mtu e body)) (hn : fsE e mtu dont more off body.size = 0) (hs : (body.size : Int) + 20 ≤ mtu) {w w' : World} {s : Sy.St} {β : Bn} {a : Act} (hM : Md (fsEnv src dst proto ttl id dont more off mtu e body) (fun _ => False) w (fun _ => 0) 0 s β a w')
    (hb : s.hp.head? = some ⟨4, 24, pkC, true, none, .no⟩) : FsPost src dst proto ttl id dont more off mtu e body w ((FsV.two 4).v.den (fsEnv src dst proto ttl id dont more off mtu e body) β) w' := by
  obtain ⟨k1, k2⟩ := pkC_k h J β
  have := newTab_row hM hb k2
  refine ⟨_, by rw [hn]; rfl, ?_⟩
  have e : fsRows src dst proto ttl id dont more off mtu e body = [denL (fsEnv src dst proto ttl id dont more off mtu e body) β pkC] := by
    unfold fsRows
    rw [if_neg (by rw [hn]; simp), if_pos hs, k1]
  rw [e]
  exact this
/-- What the size of a fragment is. -/
theorem st8 (h1 : 28 ≤ mtu) (h2 : mtu ≤ 1420) : 8 ≤ fsSt8 mtu ∧ (mtu + -20) / 8 * 8 = (fsSt8 mtu : Int) ∧ fsSt8 mtu % 8 = 0 ∧ (fsSt8 mtu : Int) ≤ mtu - 20 := by
  unfold fsSt8
  omega
theorem div8 {st k : Nat} (h : st % 8 = 0) : (st * k) % 8 = 0 := by
  rw [Nat.mul_mod, h, Nat.zero_mul, Nat.zero_mod]
theorem ext_size (b : ByteArray) (i j : Nat) : (b.extract i j).size = min j b.size - i := by rw [ByteArray.size_extract]
theorem ext_ext (b : ByteArray) (i n : Nat) (h : i + n ≤ b.size) : (b.extract i b.size).extract 0 n = b.extract i (i + n) := by
  apply bytes_ext
  have hl : b.data.toList.length = b.size := rfl
  simp only [ByteArray.data_extract, Array.toList_extract, List.extract_eq_take_drop]
  apply List.ext_getElem?
  intro j
  simp only [List.getElem?_take, List.getElem?_drop]
  by_cases hj : j < n
  · rw [if_pos (by omega), if_pos (by omega), if_pos (by omega)]
    congr 1
    omega
  · rw [if_neg (by omega), if_neg (by omega)]
theorem ext_tail (b : ByteArray) (i n : Nat) (h : i + n ≤ b.size) : (b.extract i b.size).extract n (b.extract i b.size).size = b.extract (i + n) b.size := by
  rw [ext_size]
  apply bytes_ext
  have hl : b.data.toList.length = b.size := rfl
  simp only [ByteArray.data_extract, Array.toList_extract, List.extract_eq_take_drop]
  apply List.ext_getElem?
  intro j
  simp only [List.getElem?_take, List.getElem?_drop]
  by_cases hj : j < b.size - (i + n)
  · rw [if_pos (by omega), if_pos (by omega), if_pos (by omega)]
    congr 1
    omega
  · rw [if_neg (by omega), if_neg (by omega)]
/-- The program's rounds, after k of them. -/
structure FsI (src dst proto ttl id : Int) (dont more : Bool) (off mtu e : Int) (body : ByteArray) (ρ : Env) (k : Nat) : Prop where
  J : FsJ src dst proto ttl id dont more off mtu e body ρ
  i11 : ρ.i 11 = (k : Int)
  c0 : ρ.c 0 = fsTab (fsRow src dst proto ttl id dont (fsSt8 mtu) body) (fsSt8 mtu) k
  lt : fsSt8 mtu * k < body.size
  s9 : ρ.s 9 = body.extract (fsSt8 mtu * k) body.size
theorem FsI.n9 {ρ : Env} {k : Nat} (I : FsI src dst proto ttl id dont more off mtu e body ρ k) : (ρ.s 9).size = body.size - fsSt8 mtu * k := by
  rw [I.s9, ext_size, Nat.min_self]
theorem le_mul_st {st k : Nat} (h : 8 ≤ st) : k ≤ st * k := Nat.le_mul_of_pos_left k (by omega)
theorem FsI.cx (h : FsIn src dst proto ttl id off mtu e body) {ρ : Env} {k : Nat} (I : FsI src dst proto ttl id dont more off mtu e body ρ k) (h1 : 28 ≤ mtu) (h2 : mtu ≤ 1420) (h4 : body.size ≤ 4000) : fsCx1.ok ρ := by
  have hs := st8 h1 h2
  have hk := le_mul_st (k := k) hs.1
  have hlt := I.lt
  have J := I.J
  have i11 := I.i11
  have n9 := I.n9
  have s8 : (ρ.s 8).size = body.size := by rw [J.s8]
  have c0 : (ρ.c 0).length = k := by rw [I.c0, fsTab_len]
  have j9 := J.j9
  refine ⟨fun x hx => ?_, fun t ht => ?_⟩
  · change x ∈ _ :: _ :: _ :: _ :: _ :: _ :: fsBs at hx
    rcases List.mem_cons.1 hx with rfl | hx
    · show (0 : Int) ≤ ρ.i 11 ∧ ρ.i 11 ≤ 4000
      omega
    rcases List.mem_cons.1 hx with rfl | hx
    · show (0 : Int) ≤ ((ρ.c 0).length : Int) ∧ ((ρ.c 0).length : Int) ≤ 4000
      omega
    rcases List.mem_cons.1 hx with rfl | hx
    · show (0 : Int) ≤ ((ρ.s 8).size : Int) ∧ ((ρ.s 8).size : Int) ≤ 4000
      omega
    rcases List.mem_cons.1 hx with rfl | hx
    · show (0 : Int) ≤ ((ρ.s 9).size : Int) ∧ ((ρ.s 9).size : Int) ≤ 4000
      omega
    rcases List.mem_cons.1 hx with rfl | hx
    · show (28 : Int) ≤ ρ.i 9 ∧ ρ.i 9 ≤ 1420
      omega
    rcases List.mem_cons.1 hx with rfl | hx
    · show (0 : Int) ≤ ((ρ.s 8).size : Int) - ((ρ.s 9).size : Int) ∧ ((ρ.s 8).size : Int) - ((ρ.s 9).size : Int) ≤ 4000
      omega
    · exact h.bs J.j0 J.j1 J.j2 J.j3 J.j4 J.j7 J.j9 J.j10 x hx
  · change t ∈ [_, _] at ht
    simp only [List.mem_cons, List.not_mem_nil, or_false] at ht
    rcases ht with rfl | rfl
    · rw [t_le]
      show ρ.i 11 ≤ ((ρ.c 0).length : Int)
      omega
    · rw [t_le]
      show ((ρ.c 0).length : Int) ≤ ρ.i 11
      omega
theorem fs_rows_eq (h1 : 28 ≤ mtu) (h2 : mtu ≤ 1420) (hmore : more = false) (hoff : off = 0) (he : e = 0) (h4 : body.size ≤ 4000) (hbig : ¬ ((body.size : Int) + 20 ≤ mtu)) (hd : dont = false) : fsE e mtu dont more off body.size = 0 ∧
    fsRows src dst proto ttl id dont more off mtu e body = fsTab (fsRow src dst proto ttl id dont (fsSt8 mtu) body) (fsSt8 mtu) (fsN (fsSt8 mtu) body.size) := by
  have e0 : fsE e mtu dont more off body.size = 0 := by
    unfold fsE
    rw [if_neg (by rw [hmore]; simp; omega), if_neg (by omega), if_neg (by omega), if_neg hbig, if_neg (by rw [hd]; simp)]
  refine ⟨e0, ?_⟩
  unfold fsRows
  rw [if_neg (by rw [e0]; simp), if_neg hbig]
theorem noArg (h1 : 28 ≤ mtu) (h2 : mtu ≤ 1420) (h3 : ¬ more = true) (h4 : off = 0) : ¬ (mtu < 28 ∨ 1420 < mtu ∨ more = true ∨ off ≠ 0) := by
  rintro (h | h | h | h)
  · omega
  · omega
  · exact h3 h
  · exact h h4
set_option maxRecDepth 100000 in
set_option maxHeartbeats 2000000 in
theorem split_calls (h : FsIn src dst proto ttl id off mtu e body) (he : e = ipChk proto ttl id off 0) (w : World) :
    Calls Try.prog 88 #[.agg (pktC src dst proto ttl id dont more off body).toArray, .int .i64 mtu] w (RetP (FsPost src dst proto ttl id dont more off mtu e body w)) := by
  have J0 : FsJ src dst proto ttl id dont more off mtu e body (fsEnv src dst proto ttl id dont more off mtu e body) := fsEnv_j
  have hargs : (#[.agg (pktC src dst proto ttl id dont more off body).toArray, .int .i64 mtu] : Array Value) = (fsA.map (SV.den (fsEnv src dst proto ttl id dont more off mtu e body) (fun _ => 0))).toArray := rfl
  have hM0 := fs_start (dont := dont) (more := more) h w
  have hsp := chkS_ok h he J0
  have hg := J0.g
  have F := J0
  generalize hρ : fsEnv src dst proto ttl id dont more off mtu e body = ρ0 at F hsp hM0 hargs hg
  refine calls_pre (B := ⟨ρ0, fun _ => False, w, fun _ => 0, 0⟩) (sp := fsSp) (p := fsP) (xs := fsA) (s := fsSt) (r := fs0 Try.prog Try.f88) hg hsp rfl Try.func88 rfl rfl fs_run0 hM0 ?_ hargs
  have r0 := fun (k : Nat) (j : Nat) (x : FsV) (h1 : [0, 1, 2, 3, 4, 6, 7, 8][j]? = some k) (h2 : [(FsV.one (.il 1)), (.one (.iv 10)), (.one (.il 2)), (.two 4), (.one (.il 2)), (.one (.il 1)), (.one (.il 1)), (.one (.il 1))][j]? = some x) => show retS Try.prog (lfAt (fs0 Try.prog Try.f88) k) Try.f88.results.toList = some x.v by
    have := congrArg (fun l => l[j]?) fs_rets
    simp only [List.getElem?_map, h1, h2, Option.map_some] at this
    exact Option.some.inj this
  have bad : ∀ (k j : Nat) (x : Tm) (n : Int), [0, 1, 2, 3, 4, 6, 7, 8][j]? = some k → [(FsV.one (.il 1)), (.one (.iv 10)), (.one (.il 2)), (.two 4), (.one (.il 2)), (.one (.il 1)), (.one (.il 1)), (.one (.il 1))][j]? = some (.one x) → (den ρ0 x).i = n → fsE e mtu dont more off body.size = n → n ≠ 0 →
      ∀ β a w', Md ρ0 (fun _ => False) w (fun _ => 0) 0 (lfAt (fs0 Try.prog Try.f88) k) β a w' → bodyPost Try.prog Try.f88 (RetP (FsPost src dst proto ttl id dont more off mtu e body w)) .ret a w' := by
    intro k j x n h1 h2 h3 h4 h5 β a w' hM
    refine ret_post (B := ⟨ρ0, fun _ => False, w, fun _ => 0, 0⟩) hM (r0 k j _ h1 h2) ?_
    subst hρ
    exact fs_err J0 h3 h4 h5 (Sy.Only.below_all hM.only) β
  have j9 := F.j9
  have j10 := F.j10
  have j7 := F.j7
  have jb5 := F.b5
  have jb6 := F.b6
  have js8 := F.s8
  have e0 := h.e0
  refine ⟨?_, ?_, ?_, ?_, ?_, ?_, ?_, ?_, ?_, trivial⟩
  all_goals
    intro hpc
    replace hpc : pcs ρ0 _ := hpc
    simp only [pcs, t_lt, t_le, t_eq, t_not, t_bv, i_iv, i_il, i_add, i_len, s_sv, j7, j9, j10, jb5, jb6, js8, and_true] at hpc
  · exact bad 0 0 _ 1 rfl rfl rfl (by unfold fsE; rw [if_pos (by omega)]) (by decide)
  · have hne : e ≠ 0 := by omega
    exact bad 1 1 _ e rfl rfl j10 (by unfold fsE; rw [if_neg (noArg (by omega) (by omega) (by simp only [hpc, Bool.false_eq_true, not_false_eq_true]) (by omega)), if_pos hne]) hne
  · exact bad 2 2 _ 2 rfl rfl rfl (by unfold fsE; rw [if_neg (noArg (by omega) (by omega) (by simp only [hpc, Bool.false_eq_true, not_false_eq_true]) (by omega)), if_neg (by omega), if_pos (by omega)]) (by decide)
  · intro β a w' hM
    refine ret_post (B := ⟨ρ0, fun _ => False, w, fun _ => 0, 0⟩) hM (r0 3 3 _ rfl rfl) ?_
    subst hρ
    exact fs_one h J0 (by unfold fsE; rw [if_neg (noArg (by omega) (by omega) (by simp only [hpc, Bool.false_eq_true, not_false_eq_true]) (by omega)), if_neg (by omega), if_neg (by omega), if_pos (by omega)]) (by omega) hM fs_hp3
  · exact bad 4 4 _ 2 rfl rfl rfl (by unfold fsE; rw [if_neg (noArg (by omega) (by omega) (by simp only [hpc, Bool.false_eq_true, not_false_eq_true]) (by omega)), if_neg (by omega), if_neg (by omega), if_neg (by omega), if_pos (by simp only [hpc])]) (by decide)
  · intro β a w1 hM1
    show (Sy.sub fsP (bodyOf Try.f88)).wp Try.prog _ a w1
    rw [← fs_loop]
    have m1 : 28 ≤ mtu := by omega
    have m2 : mtu ≤ 1420 := by omega
    have h4 : body.size ≤ 4000 := by omega
    have hmore : more = false := by simpa using hpc.2.2.2.2.2.1
    have hdont : dont = false := by simpa using hpc.1
    have hs := st8 m1 m2
    obtain ⟨fe, fr⟩ := fs_rows_eq (src := src) (dst := dst) (proto := proto) (ttl := ttl) (id := id) (e := e) (body := body) (off := off) m1 m2 hmore (by omega) (by omega) h4 (by omega) hdont
    obtain ⟨fr1, fr2⟩ := Prod.mk.inj fs_free
    obtain ⟨β1, hM2⟩ := Sy.Md.tabSlot hM1 9 40 24 pkLv (Nat.zero_le _) fr1 fr2
    have hI1 : ∀ u, FsI src dst proto ttl id dont more off mtu e body { ρ0.sub β1 [.i 11 (.il 0), .s 9 (.sv 8), .c 0 tn] with u := u } 0 := fun u => by
      refine ⟨⟨F.g, F.j0, F.j1, F.j2, F.j3, F.j4, F.j7, F.j9, F.j10, F.b5, F.b6, F.s8⟩, rfl, rfl, by simp; omega, ?_⟩
      show ρ0.s 8 = _
      rw [js8, Nat.mul_zero]
      apply bytes_ext
      simp
    obtain ⟨u, β2, hM3⟩ := Sy.Md.enter hM2 fs_match fun u => by rw [fs_cx1]; exact (hI1 u).cx h m1 m2 h4
    refine loop_wp (w0 := w) (r := fs1 Try.prog Try.f88) rfl fs_run1 (fun ρ => ∃ k, FsI src dst proto ttl id dont more off mtu e body ρ k) (fun ρ => (ρ.s 9).size) (fun ρ ⟨k, hI⟩ => hI.J.g) (fun ρ hI q hq => by cases hq) (fun ρ ⟨k, hI⟩ => by rw [fs_cx1]; exact hI.cx h m1 m2 h4) ?_ ⟨0, hI1 u⟩ hM3
    rintro ρ ⟨k, I⟩
    have J := I.J
    have n9 := I.n9
    have hlt := I.lt
    have hd8 := div8 (k := k) hs.2.2.1
    have s8 : (ρ.s 8).size = body.size := by rw [J.s8]
    have hst : (den ρ (.mul (.dv (.add (.iv 9) (.il (-20))) (.il 8)) (.il 8))).i = (fsSt8 mtu : Int) := by
      simp only [i_mul, i_dv, i_add, i_iv, i_il, J.j9]
      exact hs.2.1
    refine ⟨?_, ?_, trivial⟩
    · intro hpc2 β a w' hM
      have hle : ((ρ.s 9).size : Int) ≤ (fsSt8 mtu : Int) := by
        have := hpc2.1
        rw [t_le, hst] at this
        exact this
      have hk : k + 1 = fsN (fsSt8 mtu) body.size := fsN_eq (by rw [Nat.add_sub_cancel]; exact hlt) (by rw [Nat.mul_succ]; omega)
      refine ctx_ret (P := Try.prog) fsP _ _ (ret_post (B := ⟨ρ, fun _ => False, w, fun _ => 0, 0⟩) hM fs_ret1 ?_)
      have hrow : (den ρ fsLast).c = fsRows src dst proto ttl id dont more off mtu e body := by
        rw [fr, ← hk, fsTab_succ, ← I.c0]
        show ρ.c 0 ++ [[.int .u32 (ρ.i 0), .int .u32 (ρ.i 1), .int .i64 (ρ.i 2), .int .i64 (ρ.i 3), .int .i64 (ρ.i 4), .bool (ρ.b 5), .bool (ρ.b 6), .int .i64 ((((ρ.s 8).size : Int) - ((ρ.s 9).size : Int)) / 8), .string (ρ.s 9)]] = _
        congr 2
        unfold fsRow
        rw [J.j0, J.j1, J.j2, J.j3, J.j4, J.b5, J.b6, s8, n9, I.s9, hmore]
        have h7 : decide (fsSt8 mtu * k + fsSt8 mtu < body.size) = false := decide_eq_false (by omega)
        have h8 : ((body.size : Int) - ((body.size - fsSt8 mtu * k : Nat) : Int)) / 8 = ((fsSt8 mtu * k / 8 : Nat) : Int) := by omega
        rw [h7, h8, Nat.min_eq_left (show body.size ≤ fsSt8 mtu * k + fsSt8 mtu by omega)]
      have := newTab_tab hM (L := .add (tlen (.cv 0)) (.il 1)) fs_hp1 (by
        show (((ρ.c 0).length : Nat) : Int) + 1 = (((den ρ fsLast).c.length : Nat) : Int)
        rw [hrow, fr, ← hk, fsTab_len, I.c0, fsTab_len]
        simp)
      rw [hrow] at this
      exact ⟨_, by rw [fe]; rfl, this⟩
    · intro hpc2 β u
      have hgt : ¬ ((ρ.s 9).size : Int) ≤ (fsSt8 mtu : Int) := by
        have := hpc2.1
        rw [t_not, t_le, hst] at this
        exact this
      have hcut : (ρ.s 9).extract (den ρ (.mul (.dv (.add (.iv 9) (.il (-20))) (.il 8)) (.il 8))).i.toNat ((ρ.s 9).size : Int).toNat = body.extract (fsSt8 mtu * (k + 1)) body.size := by
        rw [hst, Int.toNat_natCast, Int.toNat_natCast, I.s9, ext_tail _ _ _ (by omega), Nat.mul_succ]
      have hsz : ((ρ.s 9).extract (den ρ (.mul (.dv (.add (.iv 9) (.il (-20))) (.il 8)) (.il 8))).i.toNat ((ρ.s 9).size : Int).toNat).size = body.size - fsSt8 mtu * (k + 1) := by rw [hcut, ext_size, Nat.min_self]
      refine ⟨⟨k + 1, ⟨⟨J.g, J.j0, J.j1, J.j2, J.j3, J.j4, J.j7, J.j9, J.j10, J.b5, J.b6, J.s8⟩, ?_, ?_, ?_, hcut⟩⟩, ?_⟩
      · show ((ρ.c 0).length : Int) + 1 = _
        rw [I.c0, fsTab_len]
        rfl
      · rw [fsTab_succ, ← I.c0]
        show ρ.c 0 ++ [[.int .u32 (ρ.i 0), .int .u32 (ρ.i 1), .int .i64 (ρ.i 2), .int .i64 (ρ.i 3), .int .i64 (ρ.i 4), .bool (ρ.b 5), .bool true, .int .i64 ((((ρ.s 8).size : Int) - ((ρ.s 9).size : Int)) / 8), .string ((ρ.s 9).extract (0 : Int).toNat (den ρ (.mul (.dv (.add (.iv 9) (.il (-20))) (.il 8)) (.il 8))).i.toNat)]] = _
        congr 2
        unfold fsRow
        rw [J.j0, J.j1, J.j2, J.j3, J.j4, J.b5, s8, n9, hst, Int.toNat_natCast, I.s9, show ((0 : Int)).toNat = 0 from rfl, ext_ext _ _ _ (by omega)]
        have h7 : decide (fsSt8 mtu * k + fsSt8 mtu < body.size) = true := decide_eq_true (by omega)
        have h8 : ((body.size : Int) - ((body.size - fsSt8 mtu * k : Nat) : Int)) / 8 = ((fsSt8 mtu * k / 8 : Nat) : Int) := by omega
        rw [h7, h8, Nat.min_eq_right (show fsSt8 mtu * k + fsSt8 mtu ≤ body.size by omega)]
      · rw [Nat.mul_succ]; omega
      · show ((ρ.s 9).extract (den ρ (.mul (.dv (.add (.iv 9) (.il (-20))) (.il 8)) (.il 8))).i.toNat ((ρ.s 9).size : Int).toNat).size < (ρ.s 9).size
        rw [hsz, n9, Nat.mul_succ]
        omega
  · exact bad 6 5 _ 1 rfl rfl rfl (by unfold fsE; rw [if_pos (by simp only [hpc, true_or, or_true])]) (by decide)
  · exact bad 7 6 _ 1 rfl rfl rfl (by unfold fsE; rw [if_pos (by omega)]) (by decide)
  · exact bad 8 7 _ 1 rfl rfl rfl (by unfold fsE; rw [if_pos (by omega)]) (by decide)
end
end Go.Proofs.Ythjigajielhkfaa
