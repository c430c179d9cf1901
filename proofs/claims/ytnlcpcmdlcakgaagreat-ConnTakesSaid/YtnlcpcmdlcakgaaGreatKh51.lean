/- packetboat/packetboatlaw.ConnTakes: for every input the law returns true. No condition. The closing text: the walk is in the texts that are imported. -/
import Derived.Test.YtnlcpcmdlcakgaaGreatKh50
set_option maxRecDepth 100000
set_option maxHeartbeats 4000000
set_option linter.unusedVariables false
set_option linter.unusedSimpArgs false
set_option linter.unusedSectionVars false
open Go.Proofs.Tryz
namespace Go.Proofs.YtnlcpcmdlcakgaaGreat
open Go.ChangeShapes Go.WideShapes Go.ChangeAt Go.RowKit
theorem connTakes_lifted(os:Os)(started:os.Started)(H:Type)(enc:TypeId × Value->H):
 ReturnsInHanded {} checked os 4 .any (Rows.connTakesSpec.pre6 enc prog f4 Rows.connTakesRow.domain false) (Rows.connTakesSpec.post enc prog f4 false true false false):=by
 refine by7 (C:=checked) (tb:=4) own cF3 started (by kernel_rfl) func4
  (ChangeSpec.witness6 (enc:=enc) (C:=checked) false ⟨#[],#[.agg #[.int .u32 0, .int .i64 0], .agg #[.int .u32 0, .int .i64 0, .int .u32 0, .int .i64 0, .int .u32 0, .int .u32 0, .bool false, .bool false, .bool false, .bool false, .int .i64 0, .int .i64 0, .string ⟨#[]⟩], .int .u32 0, .int .i64 0, .slice none 0 0],[]⟩ 8 (by kernel_rfl) (by kernel_rfl) (by kernel_rfl) (by kernel_rfl)) (by kernel_rfl) rfl underlying4 rfl ?_ ?_
 .intro ds hds
  match ds,hds with
  | [_,_,_,_,_],_=>exact⟨rfl,rfl,rfl⟩
 intro W base args ds p hval0 hA0 hsz;have hval:∀(j:Nat) t v,f4.params[j]? =some t->args[j]? =some v->Value.okWide prog W .any base t v:=hval0;have hA:DataW.TrodAll enc prog W 0 (fun _=>true) true f4.params.toList args.toList ds p:=hA0;rw[params4]at hA hval;obtain⟨v0,vs0,d0,ds0,p0,q0,hargs,rfl,rfl,h0,r0⟩:=trodAll_cons hA;obtain⟨v1,vs1,d1,ds1,p1,q1,rfl,rfl,rfl,h1,r1⟩:=trodAll_cons r0;obtain⟨v2,vs2,d2,ds2,p2,q2,rfl,rfl,rfl,h2,r2⟩:=trodAll_cons r1;obtain⟨v3,vs3,d3,ds3,p3,q3,rfl,rfl,rfl,h3,r3⟩:=trodAll_cons r2;obtain⟨v4,vs4,d4,ds4,p4,q4,rfl,rfl,rfl,h4,r4⟩:=trodAll_cons r3;obtain⟨rfl,rfl,rfl⟩:=trodAll_nil r4;obtain rfl:args=#[v0,v1,v2,v3,v4]:=by cases args;simp_all
 obtain⟨c0,e0,_⟩:=okWide_struct underlying24 (hval 0 24 v0 rfl rfl);subst e0;have lf0:=ae1 (n:=9) (l:=aZ6) (by kernel_rfl) h0;obtain⟨c1,e1,_⟩:=okWide_struct underlying38 (hval 1 38 v1 rfl rfl);subst e1;have lf1:=ae1 (n:=9) (l:=a66) (by kernel_rfl) h1;obtain⟨a2,e2,_,_,wf2⟩:=open_int underlying22 (hval 2 22 v2 rfl rfl) h2;subst e2;have bd2:=bounds_u32 wf2;obtain⟨a3,e3,_,_,wf3⟩:=open_int underlying3 (hval 3 3 v3 rfl rfl) h3;subst e3;have bd3:=bounds_i64 wf3;obtain⟨a4,len4,cap4,e4⟩:=okWide_slice underlying25 (hval 4 25 v4 rfl rfl);subst e4;have o4:=bn0 underlying25 (n:=9) (l:=V3) (by kernel_rfl) (by kernel_rfl) bA h4;have sz4:len4<=549755813888:=by
  rcases bm3 underlying25 h4 with h|⟨elems,sp,hd,hl⟩
  .omega
  .have hb:=sized_slice hsz (j:=4) (t:=25) (elems:=elems) (spare:=sp) (by rw[params4];rfl) (by rw[hd];rfl) underlying25;have h1:256<=prog.bytesOf 44:=au (by kernel_rfl);have hb2:(elems.length+sp.length)*prog.bytesOf 44<=reachBytes:=hb;have h3:=bu (Nat.mul_le_mul (Nat.le_add_right elems.length sp.length) h1) hb2;rw[hl]at h3;have h4:=bu h3 (show reachBytes<=140737488355328 by decide);omega
 exact be5 (w:=W) c0 c1 a2 a3 a4 len4 cap4 lf0 lf1 bd2.1 bd2.2 bd3.1 bd3.2 o4 sz4
theorem connTakes_holds:Rows.ConnTakesSaid:=
 OpenClaim.holds_of_wide 4 f4 rfl rfl rfl rfl rfl rfl rfl ⟨rfl,rfl,rfl,rfl,rfl⟩ rfl rfl rfl rfl rfl (by kernel_rfl) func4 (by kernel_rfl)
  (of_decide_eq_true (by kernel_rfl)) (by unfold Func.isWrapper;first|(rw[if_pos (by decide+kernel)];kernel_rfl)|(rw[if_neg (by decide+kernel)];exact⟨rfl,rfl⟩))
  (fun os started H enc _=>connTakes_lifted os started H enc)
#print axioms connTakes_holds
end Go.Proofs.YtnlcpcmdlcakgaaGreat
