/- A part of the proof that a connection answers as the document says: CnA CnB OqP SyFo Hd Pt0 Gv CnO. -/
import Derived.Test.YtnlcpcmdlcakgaaGreatKh22
set_option maxRecDepth 100000
set_option maxHeartbeats 4000000
set_option linter.unusedVariables false
set_option linter.unusedSimpArgs false
set_option linter.unusedSectionVars false
open Go.Proofs.Tryz
namespace Go.Proofs.YtnlcpcmdlcakgaaGreat
open Go.RowKit Sy
def eb0(b n:Nat):List SV:=(List.range n).map fun i=> .any (b+i)
def dy7(b n:Nat):List C:=(List.range n).map fun i=> .opq (b+i)
def atR:List C:=dy7 0 6++([.str l7, .bool o9, .int .i64 n8, .int .i64 l8, .int .i64 p7]++dy7 11 22)
def cR2:List Bd:=[⟨.iv 0,0,1152921504606846976⟩,⟨.iv 1,-9223372036854775808,9223372036854775807⟩,⟨.iv 2,-9223372036854775808,9223372036854775807⟩,⟨.len l7,0,576460752303423488⟩]
def ar1:List Bk:=[⟨0,58,atR,false,none, .no⟩]
def cl6:List SV:=[.one (.c (.ptr 0 6)), .one (.c (.int .i64 j9)), .one (.c (.int .i64 m8)), .one (.c (.int .i64 m9))]
def atP:List Nat:=[1,1,1,1,1,0,2]
def atS:Sy.St:=⟨[],ar1,⟨cR2,[]⟩,4⟩
def atT:Sy.St:=⟨[.one (.c (.ptr 0 6)), .one (.c (.int .i64 j9)), .one (.c (.int .i64 m8)), .one (.c (.int .i64 m9)), .any 4, .any 5, .any 6, .any 7, .one (.c (.ptr 4 0)), .any 9, .one (.c (.ptr 32 0)), .one (.c (.int .i64 n7))]++eb0 12 74,
 [⟨32,85,[.int .i64 j9, .bool l4, .bool l4, .str n9],true,none, .no⟩,⟨4,85,[.int .i64 i9, .bool l4, .bool l4, .str p9],true,none, .no⟩]++ar1,⟨⟨.iv 3,1,1152921504606846976⟩::⟨.len n9,0,576460752303423488⟩::cR2,[]⟩,60⟩
def at0(P:Program)(fn:Func):Rs:=R6 P [] 10 400 4 (.code (pre atP (y7 fn))) (L3 fn cl6 atS)
def at1(P:Program)(fn:Func):Rs:=R6 P [] 10 400 4 (.code (Y9 (Sy.I9 atP (y7 fn)))) atT
theorem dj2:shR 4 none (at0 prog f46)=some (fq8 [.d (.le m8 j9),.b o9,.d (.le (.add qbo u0) j9),.b qf1,.l (.out 0 .ret),.b qf4,.l (.out 1 .ret),.l (.out 2 .normal),.l (.out 3 .ret),.d (.le qe6 j9),.b qf1,.l (.out 4 .ret),.b qf4,.l (.out 5 .ret),.l (.out 6 .normal),.l (.out 7 .ret),.l (.out 8 .ret)] [[]]):=by kernel_rfl
theorem cl5:(aA1 4 atT (I1 (at0 prog f46) 2)).map noU=some [.i 3 j9, .s 1 p9]:=by kernel_rfl
theorem cl4:(aA1 4 atT (I1 (at0 prog f46) 6)).map noU=some [.i 3 j9, .s 1 p9]:=by kernel_rfl
theorem dj1:shR 4 (some atT) (at1 prog f46)=some (fq8 [.b (.lt n7 m8),.b (.le n7 qbo),.b (.lt qa9 m9),.l (.back [(.i 3 qfp),(.s 1 (.app n9 (.cut l7 (.add n7 (.il (-1))) n7)))]),.l (.out 1 (.exit 0)),.l (.out 2 (.exit 0)),.l (.out 3 (.exit 0))] [[]]):=by kernel_rfl
abbrev wbu:List (Tq8 Sm):=[.l (.ret (.tup [(.agg [(.int .i64 j9),(.bool l4),(.bool l4),(.str n9)]),(.c (.bool l6))]) ar1)]
abbrev wbp:List (Tq8 Sm):=wbu++wbu
abbrev wbx:List (Tq8 Sm):=[.b o9,.b (.eq n7 qe6),.l (.ret (.tup [(.agg [(.int .i64 j9),(.bool l4),(.bool l6),(.str n9)]),(.c (.bool l6))]) ar1)]++wbp
theorem dj8:smR prog f46 4 (R6 prog [] 10 400 4 (.code (aft (.exit 0) atP (y7 f46))) (I1 (at1 prog f46) 1))=some (fq8 wbx [[.not (.lt qa9 m9),.le n7 qbo,.lt n7 m8]]):=by kernel_rfl
theorem dj7:smR prog f46 4 (R6 prog [] 10 400 4 (.code (aft (.exit 0) atP (y7 f46))) (I1 (at1 prog f46) 2))=some (fq8 wbx [[.not (.le n7 qbo),.lt n7 m8]]):=by kernel_rfl
theorem dj6:smR prog f46 4 (R6 prog [] 10 400 4 (.code (aft (.exit 0) atP (y7 f46))) (I1 (at1 prog f46) 3))=some (fq8 ([.b o9,.b (.eq n7 qe6)]++wbp++wbu) [[.not (.lt n7 m8)]]):=by kernel_rfl
def atZ:List C:=[.int .i64 i9, .bool l4, .bool l4, .str p9]
def atY:List C:=[.int .i64 i9, .bool l6, .bool l4, .str p9]
theorem dj4:[0,3,4,7,8].map (fun k=>aD7 prog (I1 (at0 prog f46) k) f46.results.toList)=[0,3,4,7,8].map (fun k=>some (.tup [.agg atZ, .c (.bool l4)])):=by kernel_rfl
theorem dj3:[1,5].map (fun k=>aD7 prog (I1 (at0 prog f46) k) f46.results.toList)=[1,5].map (fun k=>some (.tup [.agg atY, .c (.bool l6)])):=by kernel_rfl
theorem dj5:Code.loop (Y9 (Sy.I9 atP (y7 f46)))=Sy.I9 atP (y7 f46):=by kernel_rfl
structure AtI(A:ByteArray)(shut:Bool)(lo limit mss:Int)(J:Env):Prop where
 g:J.R8
 i0:J.i 0=lo
 i1:J.i 1=limit
 i2:J.i 2=mss
 b0:J.b 0=shut
 s0:J.s 0=A
 n:J.i 3=lo+((J.s 1).size:Int)
 le:((J.s 1).size:Int)<=pcM ((A.size:Int)+1) lo limit mss
 s1:J.s 1=A.extract (lo - 1).toNat (J.i 3 - 1).toNat
structure AtIn(A:ByteArray)(lo limit mss:Int):Prop where
 a:A.size<=576460752303423488
 f0:0<=lo
 f1:lo<=1152921504606846976
 l0: -9223372036854775808<=limit
 l1:limit<=9223372036854775807
 m0: -9223372036854775808<=mss
 m1:mss<=9223372036854775807
theorem AtIn.cx{A:ByteArray}{lo limit mss:Int}(h:AtIn A lo limit mss){J:Env}(h0:J.i 0=lo)(h1:J.i 1=limit)(h2:J.i 2=mss)(hs:J.s 0=A):∀ x∈cR2,Bd.ok J x:=by
 obtain⟨a,f0,f1,l0,l1,m0,m1⟩:=h;intro x hx;change x∈[_,_,_,_]at hx;simp only[aa,aY,or_false]at hx;rcases hx with rfl|rfl|rfl|rfl
 .show(0:Int)<=J.i 0/\J.i 0<=1152921504606846976;omega
 .show -9223372036854775808<=J.i 1/\J.i 1<=9223372036854775807;omega
 .show -9223372036854775808<=J.i 2/\J.i 2<=9223372036854775807;omega
 .show(0:Int)<=((J.s 0).size:Int)/\((J.s 0).size:Int)<=576460752303423488;rw[hs];omega
theorem AtI.cx{A:ByteArray}{shut:Bool}{lo limit mss:Int}{J:Env}(h:AtI A shut lo limit mss J)(hi:AtIn A lo limit mss)(h1:1<=lo)(h2:lo<=(A.size:Int)+1):atT.cx.ok J:=by
 have hb:=hi.cx h.i0 h.i1 h.i2 h.s0;have hn:=h.n;have hle:=h.le;have ha:=hi.a;unfold pcM at hle;refine⟨fun x hx=>?_,fun t ht=>by cases ht⟩;change x∈_::_::cR2 at hx;rcases aa.1 hx with rfl|hx
 .show(1:Int)<=J.i 3/\J.i 3<=1152921504606846976;omega
 rcases aa.1 hx with rfl|hx
 .show(0:Int)<=((J.s 1).size:Int)/\((J.s 1).size:Int)<=576460752303423488;omega
 .exact hb x hx
theorem bz6(A:ByteArray){i j:Nat}(h:i<=j)(hj:j<=A.size)(hj1:j+1<=A.size):A.extract i j++A.extract j (j+1)=A.extract i (j+1):=by
 apply ByteArray.ext;apply Array.ext';have hl:A.data.toList.length=A.size:=rfl;simp only[ByteArray.data_append,Array.toList_append,ByteArray.data_extract,Array.toList_extract,List.extract_eq_take_drop];apply List.ext_getElem?;intro k;by_cases hk:k<j - i
 .rw[bk bP];simp only[aL,aS];rw[if_pos hk,if_pos U]
 .rw[aO bP];simp only[aU,bo,aL,aS];by_cases hk2:k=j - i
  .rw[if_pos U,if_pos U];congr 1;omega
  .rw[if_neg U,if_neg U]
structure OutC(cs:List Value)(A:ByteArray)(shut:Bool)(una cur sent:Int):Prop where
 one:∀ i,(cs.getD i (.bool false)).oneCell'=true
 e:cs=(List.range 6).map (fun i=>cs.getD i (.bool false))++([.string A, .bool shut, .int .i64 una, .int .i64 cur, .int .i64 sent]++(List.range 22).map fun i=>cs.getD (11+i) (.bool false))
theorem b13(g:Nat)(A:ByteArray)(shut:Bool)(una cur sent lo limit mss:Int)(body:ByteArray)(w:World){cs:List Value}(hO:OutC cs A shut una cur sent)(hg:Blk w g 58 cs)(hi:AtIn A lo limit mss)
 (hbody:1<=lo->body=A.extract (lo - 1).toNat (lo - 1+pcM ((A.size:Int)+1) lo limit mss).toNat):
 Calls prog 46 #[.pointer (some ⟨g,6,none⟩), .int .i64 lo, .int .i64 limit, .int .i64 mss] w (F7 fun v w'=>v=pcV ((A.size:Int)+1) shut lo limit mss body/\Below w.heap.size w w'):=by
 let J0:Env:= { U9 [lo,limit,mss,0,una,cur,sent] [shut] [A] []with v:=fun i=>cs.getD i (.bool false) }
 have hM0:Md J0 (fun _=>False) w (fun _=>g) 4 atS (fun _=>g) ⟨#[],[]⟩ w:=by
  refine⟨rfl,fun b hb'=>?_,fun x hx y hy hxy hrx hry=>?_,fun b hb' hw _=>?_,⟨hi.cx (J:=J0) rfl rfl rfl rfl,fun t ht=>by cases ht⟩,Only.aF4 _ _,fun _ _=>rfl⟩
  .change b∈[_]at hb';simp only[aa,aY,or_false]at hb';subst hb';have:Blk w g 58 (A5 J0 (fun _=>g) atR):=hg.ad2 hO.e;exact this
  .change x∈[_]at hx;change y∈[_]at hy;simp only[aa,aY,or_false]at hx hy;subst hx hy;exact absurd rfl hxy
  .change b∈[_]at hb';simp only[aa,aY,or_false]at hb';subst hb';cases hw
 have j0:J0.i 0=lo:=rfl;have j1:J0.i 1=limit:=rfl;have j2:J0.i 2=mss:=rfl;have jb:J0.b 0=shut:=rfl;have js:J0.s 0=A:=rfl;have hgood:J0.R8:=hO.one;have r0:∀ k:Nat,k∈[0,3,4,7,8]->aD7 prog (I1 (at0 prog f46) k) f46.results.toList=some (.tup [.agg atZ, .c (.bool l4)]):=fun k hk=>List.map_inj_left.1 dj4 k hk
 have r1:∀ k:Nat,k∈[1,5]->aD7 prog (I1 (at0 prog f46) k) f46.results.toList=some (.tup [.agg atY, .c (.bool l6)]):=fun k hk=>List.map_inj_left.1 dj3 k hk
 have main:∀(k:Nat),(aA1 4 atT (I1 (at0 prog f46) k)).map noU=some [.i 3 (.iv 0), .s 1 (.sl [])]->1<=lo->lo<=(A.size:Int)+1->¬(limit<=lo\/((A.size:Int)+1)+(if shut then 1 else 0)<=lo\/mss<1)->∀ N a w1,Md J0 (fun _=>False) w (fun _=>g) 4 (I1 (at0 prog f46) k) N a w1->
  (Sy.I9 atP (y7 f46)).wp prog (Y7 prog atP (y7 f46) (bodyPost prog f46 (F7 fun v w'=>v=pcV ((A.size:Int)+1) shut lo limit mss body/\Below w.heap.size w w'))) a w1:=by
  intro k hmt h1 h2 hno N a w1 hM1;rw[<-dj5];have hI1:∀ u,AtI A shut lo limit mss { J0.L5 N [.i 3 j9, .s 1 p9]with u:=u }:=fun u=>by
   refine⟨hO.one,rfl,rfl,rfl,rfl,rfl,?_,?_,?_⟩
   .show lo=lo+((0:Nat):Int);omega
   .show((0:Nat):Int)<=_;unfold pcM;omega
   .show K4=A.extract (lo - 1).toNat (lo - 1).toNat;apply ByteArray.ext;show(#[]:Array UInt8)=_;simp
  obtain⟨u,N',hM2⟩:=Sy.Md.aL7 hM1 hmt fun u=>(hI1 u).cx hi h1 h2
  refine aK0 (w0:=w) (r:=at1 prog f46) rfl dj1 (AtI A shut lo limit mss) (fun J=>((A.size:Int)+2 - J.i 3).toNat) (fun J hI=>hI.g) (fun J hI q hq=>by cases hq) (fun J hI=>hI.cx hi h1 h2) ?_ (hI1 u) hM2;intro J hI;have hI':=hI;obtain⟨k0,k1,k2,k3,k4,k5,k6,k7,k8⟩:=hI';have fin:((J.s 1).size:Int)=pcM ((A.size:Int)+1) lo limit mss->J.s 1=body:=fun hm=>by
   rw[hbody h1,k8,k6,hm];congr 2;omega
  have ends:∀(F:Tm) pc,(A6 J pc->((J.s 1).size:Int)=pcM ((A.size:Int)+1) lo limit mss/\(u9 J F).b=(shut&&decide (lo+pcM ((A.size:Int)+1) lo limit mss=(A.size:Int)+1/\(A.size:Int)+1<limit)))->
   Sm.bT6 ⟨J,fun _=>False,w,fun _=>g,4⟩ (fun v w'=>v=pcV ((A.size:Int)+1) shut lo limit mss body/\Below w.heap.size w w') (.ret (.tup [.agg [.int .i64 j9, .bool l4, .bool F, .str n9], .c (.bool l6)]) ar1 pc):=by
   intro F pc hp hpc N w' hH;obtain⟨g1,g2⟩:=hp hpc;exact⟨dL5 hno U k1 g2 (fin g1),Sy.Only.R9 hH.only⟩
  unfold pcM at k7;have hb1:=k5;refine⟨?_,?_,?_,?_,trivial⟩
  .intro hpc N u;replace hpc:A6 J _:=hpc;simp only[A6,A7,E5,A9,y9,F0,A0,z7,A8,aG6,k5,and_true]at hpc;have e1:(J.s 1++(J.s 0).extract (J.i 3+ -1).toNat (J.i 3).toNat)=A.extract (lo - 1).toNat (J.i 3).toNat:=by
    rw[k8,k5,show(J.i 3+ -1).toNat=(J.i 3 - 1).toNat from rfl,show(J.i 3).toNat=(J.i 3 - 1).toNat+1 from by omega];exact bz6 A U U U
   have e2:((J.s 1++(J.s 0).extract (J.i 3+ -1).toNat (J.i 3).toNat).size:Int)=((J.s 1).size:Int)+1:=by
    rw[aR,k5];have:(A.extract (J.i 3+ -1).toNat (J.i 3).toNat).size=1:=by simp;omega
    rw[this];omega
   refine⟨⟨k0,k1,k2,k3,k4,k5,?_,?_,?_⟩,?_⟩
   .show J.i 3+1=lo+((J.s 1++(J.s 0).extract (J.i 3+ -1).toNat (J.i 3).toNat).size:Int);rw[e2];omega
   .show((J.s 1++(J.s 0).extract (J.i 3+ -1).toNat (J.i 3).toNat).size:Int)<=_;rw[e2];unfold pcM;omega
   .show J.s 1++(J.s 0).extract (J.i 3+ -1).toNat (J.i 3).toNat=A.extract (lo - 1).toNat (J.i 3+1 - 1).toNat;rw[e1];congr 1;omega
   .show((A.size:Int)+2 - (J.i 3+1)).toNat<((A.size:Int)+2 - J.i 3).toNat;omega
  .intro hpc N a w' hM;refine aY4 (B:=⟨J,fun _=>False,w,fun _=>g,4⟩) k0 (fun q hq=>by cases hq) rfl (.exit 0) dj8 ?_ hM;refine⟨ends _ _ ?_,ends _ _ ?_,ends _ _ ?_,trivial⟩;all_goals
    intro hpc;replace hpc:A6 J _:=hpc;simp only[A6,A7,E5,A9,y9,G1,F0,A0,z7,A8,aG6,k1,k2,k3,k4,k5,and_true]at hpc;refine⟨by unfold pcM;omega,?_⟩;cases shut<;>(rw[Bool.eq_iff_iff];simp only[A7,I3,F0,A0,z7,A8,k2,Bool.true_and,Bool.false_and,aB,ax,false_iff,true_iff,aJ,and_false,false_and]at hpc ⊢)<;>(try unfold pcM)<;>omega
  .intro hpc N a w' hM;refine aY4 (B:=⟨J,fun _=>False,w,fun _=>g,4⟩) k0 (fun q hq=>by cases hq) rfl (.exit 0) dj7 ?_ hM;refine⟨ends _ _ ?_,ends _ _ ?_,ends _ _ ?_,trivial⟩;all_goals
    intro hpc;replace hpc:A6 J _:=hpc;simp only[A6,A7,E5,A9,y9,G1,F0,A0,z7,A8,aG6,k1,k2,k3,k4,k5,and_true]at hpc;refine⟨by unfold pcM;omega,?_⟩;cases shut<;>(rw[Bool.eq_iff_iff];simp only[A7,I3,F0,A0,z7,A8,k2,Bool.true_and,Bool.false_and,aB,ax,false_iff,true_iff,aJ,and_false,false_and]at hpc ⊢)<;>(try unfold pcM)<;>omega
  .intro hpc N a w' hM;refine aY4 (B:=⟨J,fun _=>False,w,fun _=>g,4⟩) k0 (fun q hq=>by cases hq) rfl (.exit 0) dj6 ?_ hM;refine⟨ends _ _ ?_,ends _ _ ?_,ends _ _ ?_,trivial⟩;all_goals
    intro hpc;replace hpc:A6 J _:=hpc;simp only[A6,A7,E5,A9,y9,G1,F0,A0,z7,A8,aG6,k1,k2,k3,k4,k5,and_true]at hpc;refine⟨by unfold pcM;omega,?_⟩;cases shut<;>(rw[Bool.eq_iff_iff];simp only[A7,I3,F0,A0,z7,A8,k2,Bool.true_and,Bool.false_and,aB,ax,false_iff,true_iff,aJ,and_false,false_and]at hpc ⊢)<;>(try unfold pcM)<;>omega
 refine aH2 (B:=⟨J0,fun _=>False,w,fun _=>g,4⟩) (sp:=[]) (p:=atP) (xs:=cl6) (s:=atS) (r:=at0 prog f46) hgood (fun q hq=>by cases hq) rfl func46 rfl rfl dj2 hM0 ?_ rfl;have bad:∀(k:Nat),k∈[0,3,4,7,8]->(limit<=lo\/((A.size:Int)+1)+(if shut then 1 else 0)<=lo\/mss<1)->∀ N a w',Md J0 (fun _=>False) w (fun _=>g) 4 (I1 (at0 prog f46) k) N a w'->bodyPost prog f46 (F7 fun v w'=>v=pcV ((A.size:Int)+1) shut lo limit mss body/\Below w.heap.size w w') .ret a w':=by
  intro k hk h N a w' hM;refine aL9 (B:=⟨J0,fun _=>False,w,fun _=>g,4⟩) hM (r0 k hk) ⟨?_,Sy.Only.R9 hM.only⟩;rw[a74 h];rfl
 have syn:∀(k:Nat),k∈[1,5]->¬(limit<=lo\/((A.size:Int)+1)+(if shut then 1 else 0)<=lo\/mss<1)->lo=0->∀ N a w',Md J0 (fun _=>False) w (fun _=>g) 4 (I1 (at0 prog f46) k) N a w'->bodyPost prog f46 (F7 fun v w'=>v=pcV ((A.size:Int)+1) shut lo limit mss body/\Below w.heap.size w w') .ret a w':=by
  intro k hk h h0 N a w' hM;refine aL9 (B:=⟨J0,fun _=>False,w,fun _=>g,4⟩) hM (r1 k hk) ⟨?_,Sy.Only.R9 hM.only⟩;rw[bI8 h h0];rfl
 have hf0:=hi.f0;refine⟨?_,?_,?_,?_,?_,?_,?_,?_,?_,trivial⟩;all_goals
  intro hpc;replace hpc:A6 J0 _:=hpc;simp only[A6,A7,E5,A9,y9,G1,F0,A0,z7,A8,aG6,j0,j1,j2,jb,js,and_true]at hpc
 .exact bad 0 bM bD
 .exact syn 1 bM bD U
 .exact main 2 cl5 U bD bD
 .exact bad 3 bM bD
 .exact bad 4 bM bD
 .exact syn 5 bM bD U
 .exact main 6 cl4 U bD bD
 .exact bad 7 bM bD
 .exact bad 8 bM bD
#print axioms b13
def b1(b:Bool):Int:=if b then 1 else 0
structure OqRel(A bytes:ByteArray)(shut:Bool)(una cur sent base n K:Int):Prop where
 hbase:base=max 1 (min una ((A.size:Int)+1))
 hn:n=(bytes.size:Int)
 hb:bytes=A.extract (base - 1).toNat A.size
 a0:0<=una
 a1:una<=cur
 a2:cur<=sent
 a3:sent<=(A.size:Int)+1+b1 shut
 s1:(bytes.size:Int)<=2048
 s0:(A.size:Int)<=K
section
variable{A bytes:ByteArray}{shut:Bool}{una cur sent base n K:Int}
theorem bt5(b:Bool):0<=b1 b/\b1 b<=1:=by cases b<;>decide
theorem OqRel.a21(h:OqRel A bytes shut una cur sent base n K):(bytes.size:Int)=(A.size:Int)+1 - base/\1<=base/\base<=(A.size:Int)+1:=by
 obtain⟨h1,h2,h3,h4,h5,h6,h7,h8,h9⟩:=h;have e:(A.extract (base - 1).toNat A.size).size=A.size - (base - 1).toNat:=by simp
 rw[<-h3]at e;omega
theorem bY4(A x:ByteArray){i:Nat}(h:i<=A.size):(A++x).extract i (A++x).size=A.extract i A.size++x:=by
 apply ByteArray.ext;apply Array.ext';have hl:A.data.toList.length=A.size:=rfl;have hx:x.data.toList.length=x.size:=rfl;simp only[ByteArray.data_append,Array.toList_append,ByteArray.data_extract,Array.toList_extract,List.extract_eq_take_drop,aR];rw[List.drop_append_of_le_length U,List.take_append,bh (l:=A.data.toList.drop i) bP,bh (l:=x.data.toList) bP,bh (l:=A.data.toList.drop i) bM]
theorem OqRel.dS2(h:OqRel A bytes shut una cur sent base n K)(x:ByteArray)(hx:shut=true->x.size=0)(hn:(x.size:Int)<=2048 - n):OqRel (A++x) (bytes++x) shut una cur sent base (n+x.size) (K+2048):=by
 have hs:=h.a21;obtain⟨h1,h2,h3,h4,h5,h6,h7,h8,h9⟩:=h;have hb:=bt5 shut;have hA:((A++x).size:Int)=(A.size:Int)+x.size:=by rw[aR];omega
 have hB:((bytes++x).size:Int)=(bytes.size:Int)+x.size:=by rw[aR];omega
 refine⟨?_,by rw[hB];omega,?_,h4,h5,h6,by rw[hA];omega,by rw[hB];omega,by rw[hA];omega⟩
 .rw[hA];cases shut with
  | true=>
    have:=hx rfl;rw[this];omega
  | false=>
    have:b1 false=0:=rfl;omega
 .rw[bY4 A x U,<-h3]
theorem OqRel.eU6(h:OqRel A bytes shut una cur sent base n K):OqRel A bytes true una cur sent base n K:=by
 have hb:=bt5 shut;refine⟨h.hbase,h.hn,h.hb,h.a0,h.a1,h.a2,?_,h.s1,h.s0⟩;have:=h.a3;show sent<=(A.size:Int)+1+1;omega
theorem OqRel.ed1(h:OqRel A bytes shut una cur sent base n K):OqRel A bytes shut una una sent base n K:=⟨h.hbase,h.hn,h.hb,h.a0,aF _,bw h.a1 h.a2,h.a3,h.s1,h.s0⟩
theorem OqRel.ed0(h:OqRel A bytes shut una cur sent base n K){c:Int}(h0:cur<=c)(h1:c<=(A.size:Int)+1+b1 shut):OqRel A bytes shut una c (max sent c) base n K:=by
 have a1:=h.a1;have a2:=h.a2;have a3:=h.a3;exact⟨h.hbase,h.hn,h.hb,h.a0,by omega,by omega,by omega,h.s1,h.s0⟩
theorem OqRel.ed3(h:OqRel A bytes shut una cur sent base n K){k:Int}(h0:una<k)(h1:k<=sent)(h2:min (base+n) k - base<=0):OqRel A bytes shut k (max cur k) sent base n K:=by
 have hs:=h.a21;obtain⟨g1,g2,g3,g4,g5,g6,g7,g8,g9⟩:=h;exact⟨by omega,g2,g3,by omega,by omega,by omega,g7,g8,g9⟩
theorem OqRel.ed2(h:OqRel A bytes shut una cur sent base n K){k d:Int}(h0:una<k)(h1:k<=sent)(hd:d=min (base+n) k - base)(h2:0<d){e n':Int}(he:e=n)(hn':n'=((bytes.extract d.toNat e.toNat).size:Int)):
 OqRel A (bytes.extract d.toNat e.toNat) shut k (max cur k) sent (base+d) n' K:=by
 have hs:=h.a21;obtain⟨g1,g2,g3,g4,g5,g6,g7,g8,g9⟩:=h;have hz:(bytes.extract d.toNat e.toNat).size=bytes.size - d.toNat:=by simp;omega
 have q1:base+d=max 1 (min k ((A.size:Int)+1)):=by clear hn' hz;omega
 refine⟨q1,hn',?_,by omega,by omega,by omega,g7,by rw[hz];omega,g9⟩;clear q1 hn';rw[he,g2,aK,show(base+d - 1).toNat=(base - 1).toNat+d.toNat from by omega];rw[g3];apply ByteArray.ext;simp only[ByteArray.data_extract,Array.extract_extract];congr 1;have:(A.extract (base - 1).toNat A.size).size=A.size - (base - 1).toNat:=by simp
 omega
theorem dx1(h:OqRel A bytes shut una cur sent base n K){lo limit mss:Int}(h0:una<=lo)(h2:1<=lo):
 A.extract (lo - 1).toNat (lo - 1+pcM ((A.size:Int)+1) lo limit mss).toNat=bytes.extract (lo - base).toNat (lo - base+pcM (base+bytes.size) lo limit mss).toNat:=by
 have hs:=h.a21;obtain⟨g1,g2,g3,g4,g5,g6,g7,g8,g9⟩:=h;rw[show base+(bytes.size:Int)=(A.size:Int)+1 from by omega];have hb:base<=lo:=by omega
 have hm:0<=pcM ((A.size:Int)+1) lo limit mss/\(pcM ((A.size:Int)+1) lo limit mss=0\/lo+pcM ((A.size:Int)+1) lo limit mss<=(A.size:Int)+1):=by
  unfold pcM;omega
 generalize pcM ((A.size:Int)+1) lo limit mss=m at hm ⊢;rw[g3];apply ByteArray.ext;simp only[ByteArray.data_extract,Array.extract_extract];rcases hm.2 with hm0|hm1
 .rw[hm0];rw[Array.extract_empty_of_stop_le_start U,Array.extract_empty_of_stop_le_start U]
 .congr 1
  .omega
  .omega
end
end Go.Proofs.YtnlcpcmdlcakgaaGreat
namespace Go.Proofs.YtnlcpcmdlcakgaaGreat
namespace Sy
open Go Go.RowKit
section
variable{J:Env}{S:Nat->Prop}{w0 w:World}{N0 N:Bn}{n0:Nat}{s:St}{a:Act}
end
def X3:List Nat->Nat
 | []=>0
 | i::l=>X3 l|||2 ^ i
theorem ad7(g:Nat):∀ l:List Nat,(X3 l).testBit g=true↔g∈l
 | []=>by simp[X3]
 | i::l=>by
   simp only[X3,Nat.testBit_or,bp,ad7 g l,aa,Nat.testBit_two_pow];constructor
   .rintro(h|h)
    .exact .inr h
    .simp at h;exact .inl h.symm
   .rintro(rfl|h)
    .exact .inr bM
    .exact .inl h
end Sy
end Go.Proofs.YtnlcpcmdlcakgaaGreat
namespace Go.Proofs.YtnlcpcmdlcakgaaGreat
open Go.RowKit Sy
def bf0(c:Cx)(hp:List Bk)(ty:TypeId)(lv:List Kd):C->Option (List Tm × Nat × Tm)
 | .slt l m off len an=>match aD0 l hp with
   | some b=>match b.str,b.x with
     | none, .tab lv' t=>if Nat.beq b.ty ty&&(aa0 lv lv'&&(Nat.beq m lv.length&&(E7 off i9&&E7 an i9)))then some (F9 c (.le len (aB4 c t))++F9 c (.le (aB4 c t) len),l,t)else none
     | _,_=>none
   | none=>none
 | _=>none
theorem cD1{J:Env}{N:Bn}{w:World}{hp:List Bk}(hb:∀ b∈hp,BkOk J N w b){c:Cx}(hc:c.ok J){ty:TypeId}{lv:List Kd}{x:C}{m:List Tm}{l:Nat}{t:Tm}(h:bf0 c hp ty lv x=some (m,l,t))(hm:Sy.Met J m):
 (∃ d∈hp,d.l=l/\d.L4=true)/\C.G2 J N x=aC9 (N l) (N (l+1)) (u9 J t).c.length/\RowT w (N l) (N (l+1)) ty lv (u9 J t).c:=by
 unfold bf0 at h;split at h
 .rename_i l0 mm off len an;split at h
  .rename_i b hf;split at h
   .rename_i lv' t' hs hx;split at h
    .rename_i q;simp only[m5]at q;injection h with h;injection h with h1 h2;injection h2 with h2 h3;subst h1 h2 h3;have q1:=af q.1;have q2:=aZ9 q.2.1;have q3:=af q.2.2.1;subst q2 q3;have hmem:=U4 hf;have hB:=hb b hmem.1;unfold BkOk at hB;rw[hs,hx]at hB;have hB:RowT w (N b.l) (N (b.l+1)) b.ty lv (u9 J t').c:=hB;rw[hmem.2,q1]at hB;have l1:=B2 (z0 hc hm.l);have l2:=B2 (z0 hc hm.r);rw[aH1 hc]at l1 l2;refine⟨⟨b,hmem.1,hmem.2,by unfold Bk.L4;rw[hs,hx];rfl⟩,?_,hB⟩;show C.G2 J N (.slt l0 lv.length off len an)=_;rw[aE6,H9 q.2.2.2.1,H9 q.2.2.2.2];show aK5 _ _ _ ((0:Int)).toNat _ ((0:Int)).toNat=_;rw[show((0:Int)).toNat=0 from rfl,aD2];congr 1;omega
    .cases h
   .cases h
  .cases h
 .cases h
end Go.Proofs.YtnlcpcmdlcakgaaGreat
namespace Go.Proofs.YtnlcpcmdlcakgaaGreat
namespace Sy
open Go Go.RowKit
end Sy
end Go.Proofs.YtnlcpcmdlcakgaaGreat
namespace Go.Proofs.YtnlcpcmdlcakgaaGreat
open Go.RowKit Sy
theorem ci4{k:Kd}{lv:List Kd}{b:List Value}(h:S1 (k::lv) b):∃ a b',b=a::b'/\kOK k a/\S1 lv b':=by
 cases b with
 | nil=>exact h.elim
 | cons a b=>exact⟨a,b,rfl,h.1,h.2⟩
theorem cz5{b:List Value}(h:S1 [] b):b=[]:=by
 cases b with
 | nil=>rfl
 | cons a b=>exact h.elim
def ouF(g gb cap:Nat):List Nat:=g::(if cap=0 then []else [gb])
def OuP(w:World)(g:Nat)(F:List Nat)(o:Ou):Prop:=∃(gb cap:Nat) (bytes:ByteArray) (base:Int),
 Blk w g 110 (bJ0 gb cap bytes.size base o.una o.cur o.snt o.shut)/\RowB w gb cap 5 true bytes.data.toList/\(cap≠0->g≠gb)/\OqRel o.all bytes o.shut o.una o.cur o.snt base bytes.size o.all.size/\F=ouF g gb cap
def ay0(w w':World)(g:Nat)(F:List Nat)(o':Ou):Prop:=∃ F',OuP w' g F' o'/\Only (fun i=>i∈F) w w'/\∀ i∈F',i∈F\/w.heap.size<=i
def eZ1:List Bd:=[⟨.iv 0,1,1152921504606846976⟩,⟨.iv 1,0,1152921504606846976⟩,⟨.iv 2,0,1152921504606846976⟩,⟨.iv 3,0,1152921504606846976⟩,⟨.len l7,0,2048⟩,⟨.iv 5,-9223372036854775808,9223372036854775807⟩,⟨.iv 4,-9223372036854775808,9223372036854775807⟩,⟨.len n9,0,9223372036854775807⟩]
def dy6(b u c s:Tm)(h:Tm):Bk:=⟨0,110,[.slr 2 i9 qbo i9, .int .i64 b, .int .i64 u, .int .i64 c, .int .i64 s, .bool h],true,none, .no⟩
def cx9:List Bk:=[dy6 j9 m8 m9 n7 o9,⟨2,5,[],true,some l7, .no⟩]
def ouS:Sy.St:=⟨[],cx9,⟨eZ1,[]⟩,4⟩
def eZ0(o:Ou):Nat->Dn->Dn->Dn->Dn:=fun n x y z=>
 if n=110 then dI (o.pAt x.i y.i z.i)else if n=111 then dB (o.aB5 x.i y.i z.i)else if n=112 then dB (o.aI0 x.i y.i z.i)else if n=113 then dS (o.aD6 x.i y.i z.i)else if n=114 then dB (o.pIs x.i y.i z.i)else x
def K5(o:Ou)(bytes:ByteArray)(base:Int)(a m:Int)(s:ByteArray):Env:= { U9 [base,o.una,o.cur,o.snt,m,a] [o.shut] [bytes,s] []with f:=eZ0 o }
def ouB(g gb cap:Nat):Bn:=fun l=>if l=0 then g else if l=2 then gb else if l=3 then cap else 0
section
variable{w:World}{g gb cap:Nat}{bytes:ByteArray}{base a m:Int}{o:Ou}{s:ByteArray}
structure OuI(w:World)(g gb cap:Nat)(bytes:ByteArray)(base:Int)(o:Ou)(a m:Int)(s:ByteArray):Prop where
 blk:Blk w g 110 (bJ0 gb cap bytes.size base o.una o.cur o.snt o.shut)
 row:RowB w gb cap 5 true bytes.data.toList
 ne:cap≠0->g≠gb
 rel:OqRel o.all bytes o.shut o.una o.cur o.snt base bytes.size o.all.size
 sz:o.all.size<=576460752303423488
 a0: -9223372036854775808<=a
 a1:a<=9223372036854775807
 m0: -9223372036854775808<=m
 m1:m<=9223372036854775807
 s1:s.size<=9223372036854775807
theorem OuI.bd(h:OuI w g gb cap bytes base o a m s):1<=base/\base<=1152921504606846976/\0<=o.una/\o.una<=1152921504606846976/\0<=o.cur/\o.cur<=1152921504606846976/\0<=o.snt/\o.snt<=1152921504606846976/\(bytes.size:Int)<=2048:=by
 have:=h.rel.a21;have hz:=h.sz;have b:=bt5 o.shut;obtain⟨r1,r2,r3,r4,r5,r6,r7,r8,r9⟩:=h.rel;omega
theorem OuI.cx(h:OuI w g gb cap bytes base o a m s):ouS.cx.ok (K5 o bytes base a m s):=by
 obtain⟨b1,b2,b3,b4,b5,b6,b7,b8,b9⟩:=h.bd;have hs:=h.s1;refine cxP ⟨⟨b1,b2⟩,⟨b3,b4⟩,⟨b5,b6⟩,⟨b7,b8⟩,⟨?_,b9⟩,⟨h.a0,h.a1⟩,⟨h.m0,h.m1⟩,⟨?_,?_⟩,trivial⟩ trivial
 .show(0:Int)<=(bytes.size:Int);omega
 .show(0:Int)<=(s.size:Int);omega
 .show(s.size:Int)<=9223372036854775807;omega
theorem OuI.md(h:OuI w g gb cap bytes base o a m s):Md (K5 o bytes base a m s) (fun i=>i∈ouF g gb cap) w (ouB g gb cap) 4 ouS (ouB g gb cap) ⟨#[],[]⟩ w:=by
 refine Sy.Md.ax8 ⟨h.blk,h.row,trivial⟩ ⟨⟨fun _ hr=>apart.of rfl rfl (h.ne (hr.resolve_left bA)),trivial⟩,trivial,trivial⟩ ⟨fun _ _ q hq=>?_,fun _ hr q hq=>?_,trivial⟩ h.cx rfl
 .rw[Q9 rfl hq];exact ae ..
 .rw[Q9 rfl hq];have hc:cap≠0:=hr.resolve_left bA;show gb∈ouF g gb cap;unfold ouF;rw[if_neg hc];exact aj _ (ae ..)
theorem aV9{bks:List Bk}{N:Bn}{w':World}{l:Nat}{n b u c z h str:Tm}(hH:Hp (K5 o bytes base a m s) (fun i=>i∈ouF g gb cap) w (ouB g gb cap) 4 bks N w')
 (h0:(⟨0,110,[.slr l i9 n i9, .int .i64 b, .int .i64 u, .int .i64 c, .int .i64 z, .bool h],true,none, .no⟩:Bk)∈bks) (h1:(⟨l,5,[],true,some str, .no⟩:Bk)∈bks) (hl:l≠0)
 (hn:(u9 (K5 o bytes base a m s) n).i=((u9 (K5 o bytes base a m s) str).s.size:Int)) {o':Ou} (e1:(u9 (K5 o bytes base a m s) u).i=o'.una) (e2:(u9 (K5 o bytes base a m s) c).i=o'.cur) (e3:(u9 (K5 o bytes base a m s) z).i=o'.snt) (e4:(u9 (K5 o bytes base a m s) h).b=o'.shut)
 (hr:OqRel o'.all (u9 (K5 o bytes base a m s) str).s o'.shut o'.una o'.cur o'.snt (u9 (K5 o bytes base a m s) b).i ((u9 (K5 o bytes base a m s) str).s.size:Int) o'.all.size):ay0 w w' g (ouF g gb cap) o':=by
 have hb0:N 0=g:=hH.old 0 bA;have B0:=hH.hp _ h0;have B1:=hH.hp _ h1;refine⟨ouF g (N l) (N (l+1)),⟨N l,N (l+1),(u9 (K5 o bytes base a m s) str).s,(u9 (K5 o bytes base a m s) b).i,?_,B1,?_,hr,rfl⟩,hH.only,?_⟩
 .have B0:Blk w' (N 0) 110 [ac9 (N l) (N (l+1)) 0 (u9 (K5 o bytes base a m s) n).i.toNat 0, .int .i64 (u9 (K5 o bytes base a m s) b).i, .int .i64 (u9 (K5 o bytes base a m s) u).i, .int .i64 (u9 (K5 o bytes base a m s) c).i, .int .i64 (u9 (K5 o bytes base a m s) z).i, .bool (u9 (K5 o bytes base a m s) h).b]:=B0;rw[hb0,hn,e1,e2,e3,e4]at B0;exact B0
 .intro hc e;exact hH.neq _ h0 _ h1 (fun q=>hl q.symm) (.inl rfl) (.inr hc) (hb0.trans e)
 .intro i hi;unfold ouF at hi;rcases aa.1 hi with rfl|hi
  .exact .inl (ae ..)
  .split at hi
   .cases hi
   .rename_i hc;rw[ah.1 hi];exact hH.bC9 _ h1 rfl (.inr hc)
end
end Go.Proofs.YtnlcpcmdlcakgaaGreat
