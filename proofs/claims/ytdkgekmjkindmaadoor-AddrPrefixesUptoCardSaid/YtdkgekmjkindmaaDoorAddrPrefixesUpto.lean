/- packetboat/packetboatlaw.AddrPrefixes: where what it reads is of bulk at most 1048576 the law returns true; the tied card. The closing text: the walk is in the texts that are imported. -/
import Derived.Test.YtdkgekmjkindmaaDoorCards
import Derived.Test.YtdkgekmjkindmaaDoorTie
import Derived.Test.YtdkgekmjkindmaaDoorLawLift
import Derived.Test.YtdkgekmjkindmaaDoorAdB
import Derived.Test.YtdkgekmjkindmaaDoorAdG
import Derived.Test.YtdkgekmjkindmaaDoorAdH
import Derived.ProofKit
import Derived.OpenShut
import Derived.Stop.Joined
import Derived.SevenTiedAt
namespace Go.Proofs.YtdkgekmjkindmaaDoor
open Go.ChangeShapes Go.WideShapes Go.ChangeAt Go.RowKit
theorem bulk_of {H : Type} {d : DataW H} : ∀ {l : List (DataW H)}, d ∈ l → Rows.uptoBulk d ≤ Rows.uptoBulkAll l
  | x :: r, h => by
    simp only [Rows.uptoBulkAll]
    rcases List.mem_cons.1 h with e | e
    · rw [e]; omega
    · have := bulk_of e
      omega
set_option maxRecDepth 100000 in
theorem afReads (os : Os) {H : Type} (enc : TypeId × Value → H) : ∃ places, DataW.whole enc Tryd.prog ((adWorld os).forCall (fun _ _ => 0) ⟨#[], #[.agg #[.int .u32 0, .int .i64 0], .string ⟨#[]⟩, .int .u32 0], []⟩).memory Tryd.f4.params.toList Rows.addrPrefixesSpec.vars false #[Value.agg #[.int .u32 0, .int .i64 0], Value.string ⟨#[]⟩, Value.int .u32 0].toList 8 = some ([.agg [.lit (.int .u32 0), .lit (.int .i64 0)], .lit (.string []), .lit (.int .u32 0)], [], places) :=
  ⟨[], by kernel_rfl⟩
set_option maxRecDepth 100000 in
theorem afLifted (os : Os) (started : os.Started) (H : Type) (enc : TypeId × Value → H) (F : Stop.Interp) :
    ReturnsInHanded {} Tryd.checked os 4 .any ((Rows.OpenSpec.upto Rows.addrPrefixesSpec).preRow enc Tryd.prog Tryd.f4 Rows.addrPrefixesUptoRow.domain false Rows.addrPrefixesUptoRow.laid) (((Rows.OpenSpec.upto Rows.addrPrefixesSpec).at F).post enc Tryd.prog Tryd.f4 false true false false) := by
  obtain ⟨places, hx⟩ := afReads os enc
  refine returnsInHanded_of_row (C := Tryd.checked) (s := Rows.OpenSpec.upto Rows.addrPrefixesSpec) own started (by kernel_rfl) Tryd.func4
    (witness_row_atRef (enc := enc) (C := Tryd.checked) false (adWorld os) #[.agg #[.int .u32 0, .int .i64 0], .string ⟨#[]⟩, .int .u32 0] rfl (by kernel_rfl) (by kernel_rfl) (by kernel_rfl)
      (OpenSpec.preRow_of_cond 8 hx (by kernel_rfl) (fun k hk => by cases hk; kernel_rfl) (by kernel_rfl) (ad_door os _))) ?_
  intro W base args ds gs before hval hW _ hcond _ hL hsh _
  have hW' := hW
  obtain ⟨p, q, hA0, hV, rfl, hfz, hnd⟩ := hW
  have hA : DataW.TrodAll enc Tryd.prog W 0 (fun _ => true) true Tryd.f4.params.toList args.toList ds p := hA0
  have hA1 := hA
  rw [Tryd.params4] at hA hval
  obtain ⟨v0, vs0, d0, ds0, p0, q0, hargs, rfl, rfl, h0, r0⟩ := trodAll_cons hA
  obtain ⟨v1, vs1, d1, ds1, p1, q1, rfl, rfl, rfl, h1, r1⟩ := trodAll_cons r0
  obtain ⟨v2, vs2, d2, ds2, p2, q2, rfl, rfl, rfl, h2, r2⟩ := trodAll_cons r1
  obtain ⟨rfl, rfl, rfl⟩ := trodAll_nil r2
  obtain rfl : args = #[v0, v1, v2] := by cases args; simp_all
  obtain ⟨rfl, rfl⟩ := trodVars_none hV
  obtain ⟨c0, e0, _⟩ := okWide_struct Tryd.underlying29 (hval 0 29 v0 rfl rfl)
  subst e0
  have lf0 : leafAll [lU, lI] c0.toList := open_flat_val (n := 9) (l := [lU, lI]) (by kernel_rfl) h0
  obtain ⟨f, n, hc0, wf0, wfn⟩ := pfx_leaf lf0
  subst hc0
  have bd0 := bounds_u32 wf0
  have bdn := bounds_i64 wfn
  obtain ⟨s, rfl, rfl, _, hs⟩ := Go.ChangeMaps.open_string Tryd.underlying9 (hval 1 9 v1 rfl rfl) h1
  obtain ⟨x, rfl, rfl, _, wf2⟩ := open_int Tryd.underlying22 (hval 2 22 v2 rfl rfl) h2
  have bd2 := bounds_u32 wf2
  have hsz : s.size ≤ 4294967280 := by
    have hk : Rows.uptoSmall H _ = true := hcond _ rfl
    have h := of_decide_eq_true hk
    have h2 := Nat.le_trans (bulk_of (d := DataW.lit (H := H) (.string s.data.toList)) (List.mem_append_left _ (List.mem_cons_of_mem _ (List.mem_cons_self ..)))) h
    simp only [Rows.uptoBulk] at h2
    rw [← Lib.size_eq] at h2
    omega
  have hall : Tryd.f4.params.toList.all (fun t => Tryd.prog.readableRec t && decide (t < Tryd.prog.types.size)) = true := by kernel_rfl
  refine (walk_addrPrefixes bd0.1 bd0.2 bdn.1 bdn.2 bd2.1 bd2.2 s hsz (ad_laid hL hsh)).mono fun e W' ⟨he, bel⟩ => ?_
  subst he
  refine ⟨_, rfl, _, [], _, [], p0 ++ (p1 ++ (p2 ++ [])), [], hW', ?_, ?_, ?_, bel.frame _, fun h => by cases h⟩
  · exact trodAll_mk1 (shut_bool Tryd.underlying4 _)
  · exact trodAll_below laidOut bel hall hA1
  · rfl
theorem addrPrefixesUpto_row_holds : Rows.AddrPrefixesUptoSaid :=
  OpenClaim.holds_of_cond 4 Tryd.f4 rfl rfl rfl rfl rfl rfl rfl ⟨rfl, rfl, rfl, rfl, rfl⟩ rfl rfl rfl rfl rfl (by kernel_rfl) Tryd.func4 (by kernel_rfl)
    (of_decide_eq_true (by kernel_rfl)) (by unfold Func.isWrapper; first | (rw [if_pos (by decide +kernel)]; kernel_rfl) | (rw [if_neg (by decide +kernel)]; exact ⟨rfl, rfl⟩))
    (fun os started H enc _ F => by rw [OpenClaim.pre_eq_preRow]; exact afLifted os started H enc F)
/-- THE STATEMENT: the tied card. -/
theorem addrPrefixesUptoCard_holds : Rows.AddrPrefixesUptoCardSaid :=
  Claim7.holds_tied_plain_at .later [] _ _ _ _ addrPrefixesUpto_row_holds (fun _ h => by cases h) (by kernel_rfl) (fun _ h => by cases h) addrPrefixesUpto_row_tie rfl ⟨rfl, rfl⟩ (by kernel_rfl) rfl
    (fun f fn hf hfn => by
      obtain rfl : f = 4 := Option.some.inj ((show Tryd.prog.funcNamed Rows.addrPrefixesUptoRow.func = some 4 by kernel_rfl).symm.trans hf) |>.symm
      obtain rfl : fn = Tryd.f4 := (Option.some.inj (Tryd.func4.symm.trans hfn)).symm
      exact ⟨by kernel_rfl, fun j t ht => by
        rw [Tryd.params4] at ht
        have hm : t ∈ [29, 9, 22] := by simpa using Array.mem_of_getElem? ht
        have hall : ([29, 9, 22].all fun u => !Tryd.prog.wantsStandIn u) = true := by kernel_rfl
        exact (show Tryd.prog.wantsStandIn t = false by simpa using List.all_eq_true.1 hall t hm)⟩)
    (by kernel_rfl)
#print axioms addrPrefixesUptoCard_holds
end Go.Proofs.YtdkgekmjkindmaaDoor
