/- packetboat/packetboatlaw.AddrParses: where what it reads is of bulk at most 1048576 the law returns true; the tied card. The closing text: the walk is in the texts that are imported. -/
import Derived.Test.YtdkgekmjkindmaaDoorCards
import Derived.Test.YtdkgekmjkindmaaDoorTie
import Derived.Test.YtdkgekmjkindmaaDoorLawLift
import Derived.Test.YtdkgekmjkindmaaDoorAdB
import Derived.ProofKit
import Derived.OpenShut
import Derived.Stop.Joined
import Derived.SevenTiedAt
namespace Go.Proofs.YtdkgekmjkindmaaDoor
open Go.ChangeShapes Go.WideShapes Go.ChangeAt Go.RowKit
theorem bulk_part {H : Type} {d : DataW H} : ∀ {l : List (DataW H)}, d ∈ l → Rows.uptoBulk d ≤ Rows.uptoBulkAll l
  | x :: r, h => by
    simp only [Rows.uptoBulkAll]
    rcases List.mem_cons.1 h with e | e
    · rw [e]; omega
    · have := bulk_part e
      omega
theorem apReads (os : Os) {H : Type} (enc : TypeId × Value → H) : ∃ places, DataW.whole enc Tryd.prog ((adWorld os).forCall (fun _ _ => 0) ⟨#[], #[.int .u32 0, .string ⟨#[]⟩], []⟩).memory Tryd.f3.params.toList Rows.addrParsesSpec.vars false #[Value.int .u32 0, Value.string ⟨#[]⟩].toList 8 = some ([.lit (.int .u32 0), .lit (.string [])], [], places) :=
  ⟨[], by kernel_rfl⟩
set_option maxRecDepth 100000 in
theorem apLifted (os : Os) (started : os.Started) (H : Type) (enc : TypeId × Value → H) (F : Stop.Interp) :
    ReturnsInHanded {} Tryd.checked os 3 .any ((Rows.OpenSpec.upto Rows.addrParsesSpec).preRow enc Tryd.prog Tryd.f3 Rows.addrParsesUptoRow.domain false Rows.addrParsesUptoRow.laid) (((Rows.OpenSpec.upto Rows.addrParsesSpec).at F).post enc Tryd.prog Tryd.f3 false true false false) := by
  obtain ⟨places, hx⟩ := apReads os enc
  refine returnsInHanded_of_row (C := Tryd.checked) (s := Rows.OpenSpec.upto Rows.addrParsesSpec) own started (by kernel_rfl) Tryd.func3
    (witness_row_atRef (enc := enc) (C := Tryd.checked) false (adWorld os) #[.int .u32 0, .string ⟨#[]⟩] rfl (by kernel_rfl) (by kernel_rfl) (by kernel_rfl)
      (OpenSpec.preRow_of_cond 8 hx (by kernel_rfl) (fun k hk => by cases hk; kernel_rfl) (by kernel_rfl) (ad_door os _))) ?_
  intro W base args ds gs before hval hW _ hcond _ hL hsh _
  have hW' := hW
  obtain ⟨p, q, hA0, hV, rfl, hfz, hnd⟩ := hW
  have hA : DataW.TrodAll enc Tryd.prog W 0 (fun _ => true) true Tryd.f3.params.toList args.toList ds p := hA0
  have hA1 := hA
  rw [Tryd.params3] at hA hval
  obtain ⟨v0, vs0, d0, ds0, p0, q0, hargs, rfl, rfl, h0, r0⟩ := trodAll_cons hA
  obtain ⟨v1, vs1, d1, ds1, p1, q1, rfl, rfl, rfl, h1, r1⟩ := trodAll_cons r0
  obtain ⟨rfl, rfl, rfl⟩ := trodAll_nil r1
  obtain rfl : args = #[v0, v1] := by cases args; simp_all
  obtain ⟨rfl, rfl⟩ := trodVars_none hV
  obtain ⟨a, rfl, rfl, _, wf0⟩ := open_int Tryd.underlying22 (hval 0 22 v0 rfl rfl) h0
  have bd0 := bounds_u32 wf0
  obtain ⟨s, rfl, rfl, _, hs⟩ := Go.ChangeMaps.open_string Tryd.underlying9 (hval 1 9 v1 rfl rfl) h1
  have hsz : s.size ≤ 4294967280 := by
    have hk : Rows.uptoSmall H _ = true := hcond _ rfl
    have h := of_decide_eq_true hk
    have h2 := Nat.le_trans (bulk_part (d := DataW.lit (H := H) (.string s.data.toList)) (List.mem_append_left _ (List.mem_cons_of_mem _ (List.mem_cons_self ..)))) h
    simp only [Rows.uptoBulk] at h2
    rw [← Lib.size_eq] at h2
    omega
  have hall : Tryd.f3.params.toList.all (fun t => Tryd.prog.readableRec t && decide (t < Tryd.prog.types.size)) = true := by kernel_rfl
  refine (walk_addrParses bd0.1 bd0.2 s hsz (ad_laid hL hsh)).mono fun e W' ⟨he, bel⟩ => ?_
  subst he
  refine ⟨_, rfl, _, [], _, [], p0 ++ (p1 ++ []), [], hW', ?_, ?_, ?_, bel.frame _, fun h => by cases h⟩
  · exact trodAll_mk1 (shut_bool Tryd.underlying4 _)
  · exact trodAll_below laidOut bel hall hA1
  · rfl
theorem addrParsesUpto_row_holds : Rows.AddrParsesUptoSaid :=
  OpenClaim.holds_of_cond 3 Tryd.f3 rfl rfl rfl rfl rfl rfl rfl ⟨rfl, rfl, rfl, rfl, rfl⟩ rfl rfl rfl rfl rfl (by kernel_rfl) Tryd.func3 (by kernel_rfl)
    (of_decide_eq_true (by kernel_rfl)) (by unfold Func.isWrapper; first | (rw [if_pos (by decide +kernel)]; kernel_rfl) | (rw [if_neg (by decide +kernel)]; exact ⟨rfl, rfl⟩))
    (fun os started H enc _ F => by rw [OpenClaim.pre_eq_preRow]; exact apLifted os started H enc F)
/-- THE STATEMENT: the tied card. -/
theorem addrParsesUptoCard_holds : Rows.AddrParsesUptoCardSaid :=
  Claim7.holds_tied_plain_at .later [] _ _ _ _ addrParsesUpto_row_holds (fun _ h => by cases h) (by kernel_rfl) (fun _ h => by cases h) addrParsesUpto_row_tie rfl ⟨rfl, rfl⟩ (by kernel_rfl) rfl
    (fun f fn hf hfn => by
      obtain rfl : f = 3 := Option.some.inj ((show Tryd.prog.funcNamed Rows.addrParsesUptoRow.func = some 3 by kernel_rfl).symm.trans hf) |>.symm
      obtain rfl : fn = Tryd.f3 := (Option.some.inj (Tryd.func3.symm.trans hfn)).symm
      exact ⟨by kernel_rfl, fun j t ht => by
        rw [Tryd.params3] at ht
        have hm : t ∈ [22, 9] := by simpa using Array.mem_of_getElem? ht
        have hall : ([22, 9].all fun u => !Tryd.prog.wantsStandIn u) = true := by kernel_rfl
        exact (show Tryd.prog.wantsStandIn t = false by simpa using List.all_eq_true.1 hall t hm)⟩)
    (by kernel_rfl)
#print axioms addrParsesUptoCard_holds
end Go.Proofs.YtdkgekmjkindmaaDoor
