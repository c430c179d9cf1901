/- FragSplits: the law, run with letters over the contracts of both Splits and of Eq. -/
import Derived.Test.YthjigajielhkfaaGr
import Derived.Test.YthjigajielhkfaaLawLift
namespace Go.Proofs.Ythjigajielhkfaa
open Go.RowKit Sy
set_option linter.unusedVariables false
set_option linter.unusedSimpArgs false

def spOut (x : V1) : SV := .tup [x, .c (.int .i64 (.iv 21))]
def spBs : List Bd := [⟨.iv 20, 0, 5000⟩, ⟨tlen (.cv 20), 0, 5000⟩]
def fsSps : List Sy.Spec := [ntSp 88 (fun _ xs => sameT fsA xs) 24 pkLv 20 spOut spBs, ntSp 89 (fun _ xs => sameT fsA xs) 24 pkLv 20 spOut spBs, eqSp 90 24 pkLv]
def fsLaw (P : Program) (fn : Func) : Rs := run P fsSps 10 400 0 (.code (bodyOf fn)) (enterS fn fsA fsSt)
set_option maxRecDepth 100000 in
theorem fsLaw_run : smR Try.prog Try.f10 0 (fsLaw Try.prog Try.f10) = some 
    [(.must (.le (.iv 20) (.tb .len (.cv 20) (.il 0) (.il 0))) []),
    (.must (.le (.tb .len (.cv 20) (.il 0) (.il 0)) (.iv 20)) [(.le (.iv 20) (.tb .len (.cv 20) (.il 0) (.il 0)))]),
    (.must (.le (.iv 20) (.tb .len (.cv 20) (.il 0) (.il 0))) [(.le (.tb .len (.cv 20) (.il 0) (.il 0)) (.iv 20)), (.le (.iv 20) (.tb .len (.cv 20) (.il 0) (.il 0)))]),
    (.must (.le (.tb .len (.cv 20) (.il 0) (.il 0)) (.iv 20)) [(.le (.iv 20) (.tb .len (.cv 20) (.il 0) (.il 0))), (.le (.tb .len (.cv 20) (.il 0) (.il 0)) (.iv 20)), (.le (.iv 20) (.tb .len (.cv 20) (.il 0) (.il 0)))]),
    (.ret (.one (.c (.bool (.bl true)))) [] [(.le (.tb .len (.cv 20) (.il 0) (.il 0)) (.iv 20)), (.le (.iv 20) (.tb .len (.cv 20) (.il 0) (.il 0))), (.le (.tb .len (.cv 20) (.il 0) (.il 0)) (.iv 20)), (.le (.iv 20) (.tb .len (.cv 20) (.il 0) (.il 0)))])] := by kernel_rfl
set_option maxRecDepth 100000 in
theorem eqPk : EqRuns Try.prog 90 Try.f90 24 pkLv where
  hf := Try.func90
  body := by kernel_rfl
  run0 := by kernel_rfl
  ret0 := by kernel_rfl
  match_ := by kernel_rfl
  loop := by kernel_rfl
  run1 := by kernel_rfl
  cx1 := by kernel_rfl
  ret1 := by kernel_rfl
  fin := by kernel_rfl
def pktLeaves : List Leaf := [(some (some .u32)), (some (some .u32)), (some (some .i64)), (some (some .i64)), (some (some .i64)), (some none), (some none), (some (some .i64)), none]
theorem pkt_open {l : List Value} (h : leafAll pktLeaves l) : ∃ (src : Int) (dst : Int) (proto : Int) (ttl : Int) (id : Int) (dont : Bool) (more : Bool) (off : Int) (body : ByteArray), l = pktC src dst proto ttl id dont more off body ∧ (0 ≤ src ∧ src ≤ 4294967295) ∧ (0 ≤ dst ∧ dst ≤ 4294967295) ∧ (-9223372036854775808 ≤ proto ∧ proto ≤ 9223372036854775807) ∧ (-9223372036854775808 ≤ ttl ∧ ttl ≤ 9223372036854775807) ∧ (-9223372036854775808 ≤ id ∧ id ≤ 9223372036854775807) ∧ (-9223372036854775808 ≤ off ∧ off ≤ 9223372036854775807) ∧ (body.size ≤ 9223372036854775807) := by
  unfold pktLeaves at h
  rcases l with _ | ⟨v0, l⟩
  · exact h.elim
  obtain ⟨h0, h⟩ := h
  obtain ⟨src, rfl, w0⟩ := h0
  have b0 := bounds_u32 w0
  rcases l with _ | ⟨v1, l⟩
  · exact h.elim
  obtain ⟨h1, h⟩ := h
  obtain ⟨dst, rfl, w1⟩ := h1
  have b1 := bounds_u32 w1
  rcases l with _ | ⟨v2, l⟩
  · exact h.elim
  obtain ⟨h2, h⟩ := h
  obtain ⟨proto, rfl, w2⟩ := h2
  have b2 := bounds_i64 w2
  rcases l with _ | ⟨v3, l⟩
  · exact h.elim
  obtain ⟨h3, h⟩ := h
  obtain ⟨ttl, rfl, w3⟩ := h3
  have b3 := bounds_i64 w3
  rcases l with _ | ⟨v4, l⟩
  · exact h.elim
  obtain ⟨h4, h⟩ := h
  obtain ⟨id, rfl, w4⟩ := h4
  have b4 := bounds_i64 w4
  rcases l with _ | ⟨v5, l⟩
  · exact h.elim
  obtain ⟨h5, h⟩ := h
  obtain ⟨dont, rfl⟩ := h5
  rcases l with _ | ⟨v6, l⟩
  · exact h.elim
  obtain ⟨h6, h⟩ := h
  obtain ⟨more, rfl⟩ := h6
  rcases l with _ | ⟨v7, l⟩
  · exact h.elim
  obtain ⟨h7, h⟩ := h
  obtain ⟨off, rfl, w7⟩ := h7
  have b7 := bounds_i64 w7
  rcases l with _ | ⟨v8, l⟩
  · exact h.elim
  obtain ⟨h8, h⟩ := h
  obtain ⟨body, rfl, b8⟩ := h8
  rcases l with _ | ⟨v, l⟩
  · exact ⟨src, dst, proto, ttl, id, dont, more, off, body, rfl, b0, b1, b2, b3, b4, b7, (by unfold maxLen at b8; exact b8)⟩
  · exact h.elim

set_option maxRecDepth 100000 in
theorem walk_fragSplits (w : World) (c : Array Value) (mtu : Int) (lf : leafAll pktLeaves c.toList) (m0 : -9223372036854775808 ≤ mtu) (m1 : mtu ≤ 9223372036854775807) :
    Calls Try.prog 10 #[.agg c, .int .i64 mtu] w fun e w' => e = .returned (.bool true) ∧ Below w.heap.size w w' := by
  obtain ⟨src, dst, proto, ttl, id, dont, more, off, body, hc, b0, b1, b2, b3, b4, b7, b8⟩ := pkt_open lf
  have hcc : c = (pktC src dst proto ttl id dont more off body).toArray := by rw [← hc]
  subst hcc
  have chk : 0 ≤ ipChk proto ttl id off 0 ∧ ipChk proto ttl id off 0 ≤ 2 := by
    unfold ipChk
    split
    · omega
    · split <;> omega
  have h : FsIn src dst proto ttl id off mtu (ipChk proto ttl id off 0) body := ⟨b0.1, b0.2, b1.1, b1.2, b2.1, b2.2, b3.1, b3.2, b4.1, b4.2, b7.1, b7.2, m0, m1, chk.1, chk.2, b8⟩
  generalize he : ipChk proto ttl id off 0 = e at h
  generalize hF : fsRows src dst proto ttl id dont more off mtu e body = F
  have hlen : F.length ≤ 4001 := by
    rw [← hF]
    unfold fsRows
    split
    · simp
    · rename_i hz
      split
      · simp
      · rename_i hbig
        rw [fsTab_len]
        have hz : fsE e mtu dont more off body.size = 0 := by simpa using hz
        unfold fsE at hz
        split at hz
        · cases hz
        · rename_i hno
          have g : ¬ (e ≠ 0) := fun he => by rw [if_pos he] at hz; exact he hz
          rw [if_neg g] at hz
          split at hz
          · cases hz
          · unfold fsN
            have h1 : 28 ≤ mtu := by
              rcases (show mtu < 28 ∨ 28 ≤ mtu by omega) with h | h
              · exact absurd (.inl h) hno
              · exact h
            have hs : 8 ≤ fsSt8 mtu := by unfold fsSt8; omega
            have : (body.size + fsSt8 mtu - 1) / fsSt8 mtu ≤ (body.size * fsSt8 mtu + fsSt8 mtu) / fsSt8 mtu := Nat.div_le_div_right (by
              have := Nat.le_mul_of_pos_right body.size (show 0 < fsSt8 mtu by omega)
              omega)
            rw [show body.size * fsSt8 mtu + fsSt8 mtu = (body.size + 1) * fsSt8 mtu from by rw [Nat.succ_mul], Nat.mul_div_cancel _ (by omega)] at this
            omega
  let ρ : Env := { fsEnv src dst proto ttl id dont more off mtu e body with i := fun n => if n = 20 then (F.length : Int) else if n = 21 then fsE e mtu dont more off body.size else (fsEnv src dst proto ttl id dont more off mtu e body).i n, c := fun n => F }
  have hargs : ∀ xs, sameT fsA xs = true → ∀ β, (xs.map (SV.den ρ β)).toArray = #[.agg (pktC src dst proto ttl id dont more off body).toArray, .int .i64 mtu] := fun xs hx β => by
    rw [← sameT_eq hx]
    rfl
  have sp : ∀ (f : FuncId), (∀ w, Calls Try.prog f #[.agg (pktC src dst proto ttl id dont more off body).toArray, .int .i64 mtu] w (RetP (FsPost src dst proto ttl id dont more off mtu e body w))) → (ntSp f (fun _ xs => sameT fsA xs) 24 pkLv 20 spOut spBs).Ok Try.prog ρ := fun f hf => by
    refine ntSp_ok (outV := fun v => .tuple #[v, .int .i64 (fsE e mtu dont more off body.size)]) (fun x hx => ?_) rfl (fun β x => rfl) fun S w0 β0 n0 s xs β a w hx hM => ?_
    · change x ∈ [_, _] at hx
      simp only [List.mem_cons, List.not_mem_nil, or_false] at hx
      rcases hx with rfl | rfl
      · show (0 : Int) ≤ (F.length : Int) ∧ (F.length : Int) ≤ 5000
        omega
      · show (0 : Int) ≤ (F.length : Int) ∧ (F.length : Int) ≤ 5000
        omega
    · rw [hargs xs hx]
      refine (hf w).mono ?_
      rintro e' w' ⟨v, rfl, t, rfl, ht⟩
      rw [hF] at ht
      exact ⟨t, rfl, ht⟩
  have hM : Md ρ (fun _ => False) w (fun _ => 0) 0 { fsSt with tm := [] } (fun _ => 0) ⟨#[], []⟩ w := by
    refine Md.start ⟨fun x hx => ?_, fun t ht => by cases ht⟩
    rcases List.mem_cons.1 hx with rfl | hx
    · show (0 : Int) ≤ (body.size : Int) ∧ (body.size : Int) ≤ 9223372036854775807
      omega
    · exact h.bs (ρ := ρ) rfl rfl rfl rfl rfl rfl rfl rfl x hx
  refine (calls_sm (B := ⟨ρ, fun _ => False, w, fun _ => 0, 0⟩) (sp := fsSps) (fun i => rfl) (by
    intro q hq
    change q ∈ [_, _, _] at hq
    simp only [List.mem_cons, List.not_mem_nil, or_false] at hq
    rcases hq with rfl | rfl | rfl
    · exact sp _ fun w => split_calls h he.symm w
    · exact sp _ fun w => gsplit_calls h he.symm w
    · exact eqSp_ok eqPk) 10 400 Try.func10 rfl fsA fsSt _ 0 rfl fsLaw_run hM (R := fun v w' => v = .bool true ∧ Below w.heap.size w w') ?_ (hargs fsA rfl _).symm).mono ?_
  · have t1 : (den ρ (.le (.iv 20) (tlen (.cv 20)))).b = true := decide_eq_true (Int.le_refl (F.length : Int))
    have t2 : (den ρ (.le (tlen (.cv 20)) (.iv 20))).b = true := decide_eq_true (Int.le_refl (F.length : Int))
    exact ⟨fun _ => t1, fun _ => t2, fun _ => t1, fun _ => t2, fun _ β w' hH => ⟨rfl, Sy.Only.below_all hH.only⟩, trivial⟩
  · rintro e' w' ⟨v, rfl, rfl, hb⟩
    exact ⟨rfl, hb⟩
end Go.Proofs.Ythjigajielhkfaa
