/- packetboat/packetboatlaw.AddrCovers: for every input the law returns true; a tied card: where math/bits' de Bruijn table reads as the program's text lays it (the tie is given). The closing text: the walk is in the texts that are imported. -/
import Derived.Test.YtagdnjhkoajbnaaDoorCards
import Derived.Test.YtagdnjhkoajbnaaDoorTie
import Derived.Test.YtagdnjhkoajbnaaDoorLawLift
import Derived.Test.YtagdnjhkoajbnaaDoorCv7
import Derived.ProofKit
import Derived.LaidMore
import Derived.OpenShut
import Derived.Stop.Joined
import Derived.Lib.LaidTab
import Derived.SevenTiedAt
namespace Go.Proofs.YtagdnjhkoajbnaaDoor
open Go.ChangeShapes Go.WideShapes Go.ChangeAt Go.RowKit

/-- What the row lists. -/
abbrev cvLaid : List (String × DataW Unit) := Rows.addrCoversRow.laid
theorem cv_door (os : Os) (args : Array Value) : laidMetH Tryd.prog cvLaid ((World.doorLaid Tryd.prog 400 os).forCall (fun _ _ => 0) ⟨#[], args, []⟩).memory :=
  laidMetH_of_parts3 (fuel := 8) (laidMet_of_run' 8 (by kernel_rfl) (by kernel_rfl)) (by kernel_rfl) (by kernel_rfl)
theorem cv_list {n : String} {d : DataW Unit} {W : World} (hn : cvLaid = [(n, d)]) (h : laidMetH Tryd.prog cvLaid W) (hd : d = Lib.tabData .u8 (Lib.deBruijn64tab.map fun (x : Nat) => (x : Int))) (hg : Tryd.prog.globalNamed n = some 0) : TabAt 0 Lib.deBruijn64tab W := by
  rw [MakeChecks.laidMetH_plain _ _ _ (by kernel_rfl), hn, hd] at h
  have hT := Lib.tabIs_of_head (t := 34) (e := 5) (n := 64) hg (by kernel_rfl) Tryd.underlying34 Tryd.underlying5 (by kernel_rfl) (by kernel_rfl) h
  intro j hj
  have := hT.cell hg j (by rw [List.length_map]; exact hj)
  rw [this]
  congr 2
  simp [List.getD, hj]
theorem cv_tab {W : World} (h : laidMetH Tryd.prog cvLaid W) : TabAt 0 Lib.deBruijn64tab W := cv_list rfl h (by kernel_rfl) (by kernel_rfl)
set_option maxRecDepth 100000 in
theorem addrCovers_lifted (os : Os) (started : os.Started) (H : Type) (enc : TypeId × Value → H) :
    ReturnsInHanded {} Tryd.checked os 3 .any (fun w args => (Rows.addrCoversSpec.pre enc Tryd.prog Tryd.f3 [] false w args ∧ laidMetH Tryd.prog cvLaid w) ∧ sizedMet enc Tryd.prog Tryd.f3 (OpenSpec.ofChange Rows.addrCoversSpec) false w args)
      (Rows.addrCoversSpec.post enc Tryd.prog Tryd.f3 false true false false) := by
  refine returnsInHanded_of_change_and (C := Tryd.checked) (X := fun w _ => laidMetH Tryd.prog cvLaid w) (fun _ _ _ hh h => h.of_heap hh) own started (by kernel_rfl) Tryd.func3
    (ChangeSpec.witness_shaped (enc := enc) (C := Tryd.checked) (os := os) (X := fun w _ => laidMetH Tryd.prog cvLaid w) false (World.doorLaid Tryd.prog 400 os) #[.int .u32 0, .int .u32 0] 8 rfl (World.shaped_of_RefB (by kernel_rfl) (by kernel_rfl)) (by kernel_rfl) (by kernel_rfl) (by kernel_rfl) (cv_door os _)) ?_
  intro W base args ds gs before hval0 hW _ _ hL _
  have hval : ∀ (j : Nat) t v, Tryd.f3.params[j]? = some t → args[j]? = some v → Value.okWide Tryd.prog W .any base t v := hval0
  have hW' := hW
  obtain ⟨p, q, hA0, hV, rfl, hfz, hnd⟩ := hW
  have hA : DataW.TrodAll enc Tryd.prog W 0 (fun _ => true) true Tryd.f3.params.toList args.toList ds p := hA0
  have hA1 := hA
  rw [Tryd.params3] at hA hval
  obtain ⟨v0, vs0, d0, ds0, p0, q0, hargs, rfl, rfl, h0, r0⟩ := trodAll_cons hA
  obtain ⟨v1, vs1, d1, ds1, p1, q1, rfl, rfl, rfl, h1, r1⟩ := trodAll_cons r0
  obtain ⟨rfl, rfl, rfl⟩ := trodAll_nil r1
  obtain rfl : args = #[v0, v1] := by cases args; simp_all
  obtain ⟨rfl, rfl⟩ := trodVars_none hV
  obtain ⟨a0, e0, _, _, wf0⟩ := open_int Tryd.underlying22 (hval 0 22 v0 rfl rfl) h0
  subst e0
  have bd0 := bounds_u32 wf0
  obtain ⟨a1, e1, _, _, wf1⟩ := open_int Tryd.underlying22 (hval 1 22 v1 rfl rfl) h1
  subst e1
  have bd1 := bounds_u32 wf1
  obtain ⟨f, rfl⟩ : ∃ n : Nat, a0 = (n : Int) := ⟨a0.toNat, by omega⟩
  obtain ⟨t, rfl⟩ : ∃ n : Nat, a1 = (n : Int) := ⟨a1.toNat, by omega⟩
  have hall : Tryd.f3.params.toList.all (fun t => Tryd.prog.readableRec t && decide (t < Tryd.prog.types.size)) = true := by kernel_rfl
  refine (walk_addrCovers f t W (by omega) (by omega) (cv_tab hL)).mono fun e W' ⟨he, bel⟩ => ?_
  subst he
  refine ⟨_, rfl, _, [], _, [], p0 ++ (p1 ++ []), [], hW', ?_, ?_, ?_, bel.frame _, fun h => by cases h⟩
  · exact trodAll_mk1 (shut_bool Tryd.underlying4 _)
  · exact trodAll_below laidOut bel hall hA1
  · rfl
theorem addrCovers_row_holds : Rows.AddrCoversSaid :=
  OpenClaim.holds_of_wide 3 Tryd.f3 rfl rfl rfl rfl rfl rfl rfl ⟨rfl, rfl, rfl, rfl, rfl⟩ rfl rfl rfl rfl rfl (by kernel_rfl) Tryd.func3 (by kernel_rfl)
    (of_decide_eq_true (by kernel_rfl)) (by unfold Func.isWrapper; first | (rw [if_pos (by decide +kernel)]; kernel_rfl) | (rw [if_neg (by decide +kernel)]; exact ⟨rfl, rfl⟩))
    (fun os started H enc _ => addrCovers_lifted os started H enc)
/-- THE STATEMENT: the tied card. -/
theorem addrCoversCard_holds : Rows.AddrCoversCardSaid :=
  Claim7.holds_tied_plain_at .later [] [.data] true (true, "194afceb590709297b6a60f2298913b6f3d15e8473dc7ef7160dc8b101bf13b6") false
    addrCovers_row_holds (fun _ h => by cases h) (by kernel_rfl) (fun _ h => by cases h) addrCovers_row_tie rfl ⟨rfl, rfl⟩ (by kernel_rfl) rfl
    (fun f fn hf hfn => by
      obtain rfl : f = 3 := Option.some.inj ((show Tryd.prog.funcNamed Rows.addrCoversRow.func = some 3 by kernel_rfl).symm.trans hf) |>.symm
      obtain rfl : fn = Tryd.f3 := (Option.some.inj (Tryd.func3.symm.trans hfn)).symm
      exact ⟨by kernel_rfl, fun j t ht => by
        rw [Tryd.params3] at ht
        have hm : t ∈ [22, 22] := by simpa using Array.mem_of_getElem? ht
        have hall : ([22, 22].all fun u => !Tryd.prog.wantsStandIn u) = true := by kernel_rfl
        exact (show Tryd.prog.wantsStandIn t = false by simpa using List.all_eq_true.1 hall t hm)⟩)
    (by kernel_rfl)
#print axioms addrCoversCard_holds
end Go.Proofs.YtagdnjhkoajbnaaDoor
