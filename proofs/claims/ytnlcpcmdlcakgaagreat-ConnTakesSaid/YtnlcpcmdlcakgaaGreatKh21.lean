/- A part of the proof that a connection answers as the document says: IqD IqE Piece RtoWalks RtoRef. -/
import Derived.Deep.RegionWith
import Derived.StillTailTactics
import Derived.Test.YtnlcpcmdlcakgaaGreatKh20
set_option maxRecDepth 100000
set_option maxHeartbeats 4000000
set_option linter.unusedVariables false
set_option linter.unusedSimpArgs false
set_option linter.unusedSectionVars false
open Go.Proofs.Tryz
namespace Go.Proofs.YtnlcpcmdlcakgaaGreat
open Go.RowKit Sy
def R0:List (List Value):=List.replicate 2048 [.int .u8 0]
def H0:List (List Value):=List.replicate 2048 [.bool false]
def nwC:List C:=List.replicate 2048 (.int .u8 i9)++(List.replicate 2048 (.bool l4)++[.int .i64 l9, .int .i64 l9, .int .i64 (.il (-1)), .bool l4])
theorem dz9:smR prog f93 4 (R6 prog [] 10 400 4 (.code (y7 f93)) (L3 f93 [] ⟨[],[],⟨[],[]⟩,4⟩))=some [.ret qfn [⟨4,132,nwC,true,none, .no⟩] []]:=by kernel_rfl
theorem bQ8(v:Value):∀ n,(List.replicate n [v]).flatten=List.replicate n v
 | 0=>rfl
 | n+1=>by rw[List.replicate_succ,List.replicate_succ,List.flatten_cons,bQ8 v n];rfl
theorem dd1(J:Env)(N:Bn):A5 J N nwC=aU0 R0 H0 1 1 (-1) false:=by
 unfold nwC aU0 R0 H0;rw[bQ8,bQ8,al9,al9];unfold A5;rw[List.map_replicate,List.map_replicate];rfl
theorem du7:QuOk R0 H0:=⟨bj ..,fun r hr=>by rw[(List.mem_replicate.1 hr).2];exact⟨⟨0,rfl,by decide⟩,trivial⟩,bj ..,fun r hr=>by rw[(List.mem_replicate.1 hr).2];exact⟨⟨false,rfl⟩,trivial⟩⟩
theorem by4(w:World):Calls prog 93 #[] w (F7 fun v w'=>∃ g,v= .pointer (some ⟨g,0,none⟩)/\w.heap.size<=g/\Blk w' g 132 (aU0 R0 H0 1 1 (-1) false)/\Below w.heap.size w w'):=by
 have hM:Md (U9 [] [] [] []) (fun _=>False) w (fun _=>0) 4 ⟨[],[],⟨[],[]⟩,4⟩ (fun _=>0) ⟨#[],[]⟩ w:=Sy.Md.aj5 ⟨fun _ h=>bF,fun _ h=>bF⟩;refine(W3 (B:=⟨U9 [] [] [] [],fun _=>False,w,fun _=>0,4⟩) (sp:=[]) (fun i=>rfl) (fun q hq=>by cases hq) 10 400 func93 rfl [] ⟨[],[],⟨[],[]⟩,4⟩ _ 4 rfl dz9 hM (R:=fun v w'=>∃ g,v= .pointer (some ⟨g,0,none⟩)/\w.heap.size<=g/\Blk w' g 132 (aU0 R0 H0 1 1 (-1) false)/\Below w.heap.size w w') ⟨?_,trivial⟩ rfl);intro _ N w2 hH;refine⟨N 4,rfl,?_,?_,Sy.Only.R9 hH.only⟩
 .rcases hH.bC9 _ (ae ..) rfl (.inl rfl)with h|h
  .exact h.elim
  .exact h
 .have:=hH.hp _ (ae ..);have:Blk w2 (N 4) 132 (A5 (U9 [] [] [] []) N nwC):=this;rw[dd1]at this;exact this
def bf6:List Bk:=[inO 0 2 true j9 m8,inT 2 true j8]
theorem dz3:smR prog f90 4 (R6 prog [af8] 10 400 4 (.code (y7 f90)) (L3 f90 [.one (.c (.ptr 0 0))] ah6))=some (fq8 [.b qf2,.b (.eq (aO7 j8) m8),.l (.ret (.one (.c (.int .i64 (.add (aO7 j8) l9)))) bf6),.l (.ret (.one (.c (.int .i64 (aO7 j8)))) bf6),.l (.ret (.one (.c (.int .i64 (aO7 j8)))) bf6)] [[]]):=by kernel_rfl
theorem dx8:smR prog f78 4 (R6 prog [af8] 10 400 4 (.code (y7 f78)) (L3 f78 [.one (.c (.ptr 0 0))] ah6))=some (fq8 [.b qf2,.l (.ret (.one (.c (.bool (.eq (aO7 j8) m8)))) bf6),.l (.ret qal bf6)] [[]]):=by kernel_rfl
structure RxIn(L:List (List Value))(read fin:Int):Prop where
 g:aB2 L
 k:Q7 L<=1153202979583557632
 r0:0<=read
 r1:read<=1153202979583557632
 f0:0<=fin
 f1:fin<=1153202979583557632
section
variable{L:List (List Value)}{read fin:Int}{w:World}{g gm:Nat}
def ae0(L:List (List Value))(read fin:Int):Env:=⟨fun n=>if n=0 then read else if n=1 then fin else 0,fun _=>false,fun _=>K4,inF,fun _=> .bool false,fun _=> .bool false,fun _=>L,fun _=>Thing.a20⟩
theorem bs0(h:RxIn L read fin)(hO:Blk w g 135 (aG3 gm read fin))(hT:MapT w gm [.int .i64] false (.int .u8) L)(hne:g≠gm):Md (ae0 L read fin) (S2 g gm) w (bn2 g gm) 4 ah6 (bn2 g gm) ⟨#[],[]⟩ w:=by
 have hk0:=aI8 L;obtain⟨_,hk,r0,r1,f0,f1⟩:=h;have hcx:ah6.cx.ok (ae0 L read fin):=by
  refine cxP ⟨?_,?_,?_,?_,trivial⟩ trivial
  .show 0<=read/\read<=2305843009213693952;omega
  .show 0<=fin/\fin<=2305843009213693952;omega
  .show 0<=Q7 L/\Q7 L<=2305843009213693952;omega
  .show -9223372036854775808<=(0:Int)/\(0:Int)<=9223372036854775807;omega
 exact Sy.Md.ax8 ⟨hO,hT,trivial⟩ ⟨⟨fun _ _=>apart.of rfl rfl hne,trivial⟩,trivial,trivial⟩ ⟨fun _ _ q hq=> .inl (Q9 rfl hq),fun _ _ q hq=> .inr (Q9 rfl hq),trivial⟩ hcx rfl
def a59(w:World)(g gm:Nat)(L:List (List Value))(read fin:Int)(x v:Value)(w':World):Prop:=v=x/\Blk w' g 135 (aG3 gm read fin)/\MapT w' gm [.int .i64] false (.int .u8) L/\Only (fun x=>x=g\/x=gm) w w'
theorem bI4{x:Value}{v:SV}{N:Bn}{w2:World}(hH:Hp (ae0 L read fin) (S2 g gm) w (bn2 g gm) 4 bf6 N w2)(hv:v.A1 (ae0 L read fin) N=x):a59 w g gm L read fin x (v.A1 (ae0 L read fin) N) w2:=by
 refine⟨hv,?_,?_,hH.only⟩
 .have:=hH.hp _ (ae ..);have:Blk w2 (N 0) 135 (aG3 (N 2) read fin):=this;rw[hH.old 0 (show 0<4 by decide),hH.old 2 (show 2<4 by decide)]at this;exact this
 .have:=hH.hp _ (aj _ (ae ..));have:MapT w2 (N 2) [.int .i64] false (.int .u8) L:=this;rw[hH.old 2 (show 2<4 by decide)]at this;exact this
theorem cb8:(u9 (ae0 L read fin) (aO7 j8)).i=L1 L read:=rfl
theorem a05(h:RxIn L read fin)(hO:Blk w g 135 (aG3 gm read fin))(hT:MapT w gm [.int .i64] false (.int .u8) L)(hne:g≠gm):
 Calls prog 90 #[.pointer (some ⟨g,0,none⟩)] w (F7 (a59 w g gm L read fin (.int .i64 (Z8 L read fin)))):=by
 refine W3 (B:=⟨ae0 L read fin,S2 g gm,w,bn2 g gm,4⟩) (sp:=[af8]) (fun i=>rfl) (a91 rfl) 10 400 func90 rfl [.one (.c (.ptr 0 0))] ah6 _ 4 rfl dz3 (bs0 h hO hT hne) ?_ rfl;refine⟨?_,?_,?_,trivial⟩;all_goals
  intro hpc N w2 hH;replace hpc:A6 (ae0 L read fin) _:=hpc;simp only[A6,A7,A9,y9,F0,A0,cb8,and_true]at hpc;refine bI4 hH ?_;unfold Z8 Z3
 .rw[aD (p:=0<fin/\L1 L read=fin) ⟨hpc.2,hpc.1⟩];rfl
 .rw[aH (p:=0<fin/\L1 L read=fin) fun q=>hpc.1 q.2,if_neg bA,Int.add_zero];rfl
 .rw[aH (p:=0<fin/\L1 L read=fin) fun q=>hpc q.1,if_neg bA,Int.add_zero];rfl
theorem a04(h:RxIn L read fin)(hO:Blk w g 135 (aG3 gm read fin))(hT:MapT w gm [.int .i64] false (.int .u8) L)(hne:g≠gm):
 Calls prog 78 #[.pointer (some ⟨g,0,none⟩)] w (F7 (a59 w g gm L read fin (.bool (Z3 L read fin)))):=by
 refine W3 (B:=⟨ae0 L read fin,S2 g gm,w,bn2 g gm,4⟩) (sp:=[af8]) (fun i=>rfl) (a91 rfl) 10 400 func78 rfl [.one (.c (.ptr 0 0))] ah6 _ 4 rfl dx8 (bs0 h hO hT hne) ?_ rfl;refine⟨?_,?_,trivial⟩;all_goals
  intro hpc N w2 hH;replace hpc:A6 (ae0 L read fin) _:=hpc;simp only[A6,A7,A9,y9,F0,A0,cb8,and_true]at hpc;refine bI4 hH ?_;unfold Z3
 .show Value.bool (decide (L1 L read=fin))=_;congr 1;exact decide_eq_decide.2 ⟨fun q=>⟨hpc,q⟩,fun q=>q.2⟩
 .rw[aH (p:=0<fin/\L1 L read=fin) fun q=>hpc q.1];rfl
end
def ak3(t:Tm)(r:Tm):Tm:= .tb qax t r i9
def br4(t:Tm)(r:Tm):Tm:= .tb qb4 t r i9
def dr7(t:Tm)(r:Tm):Tm:= .tb (.cons .str) t r i9
def a69(x y z:Dn):QS:=⟨x.c,y.c,z9 (z.c.headD []) 0,z9 (z.c.headD []) 1,z9 (z.c.headD []) 2,Y5 (z.c.headD []) 3⟩
def cO6:Nat->Dn->Dn->Dn->Dn:=fun n x y z=>
 if n=33 then dI (Z8 x.c y.i z.i)else if n=34 then dB (Z3 x.c y.i z.i)
 else if n=40 then dC R0 else if n=41 then dC H0
 else if n=42 then dC (aE1 (a69 x y z) (z9 (z.c.headD []) 4) (aB8 (z.c.headD []) 5) (Y5 (z.c.headD []) 6)).R
 else if n=43 then dC (aE1 (a69 x y z) (z9 (z.c.headD []) 4) (aB8 (z.c.headD []) 5) (Y5 (z.c.headD []) 6)).H
 else if n=44 then dI (aE1 (a69 x y z) (z9 (z.c.headD []) 4) (aB8 (z.c.headD []) 5) (Y5 (z.c.headD []) 6)).next
 else if n=45 then dI (aE1 (a69 x y z) (z9 (z.c.headD []) 4) (aB8 (z.c.headD []) 5) (Y5 (z.c.headD []) 6)).fin
 else if n=46 then dB (aE1 (a69 x y z) (z9 (z.c.headD []) 4) (aB8 (z.c.headD []) 5) (Y5 (z.c.headD []) 6)).over
 else if n=47 then dB (as3 (a69 x y z) (z9 (z.c.headD []) 4) (aB8 (z.c.headD []) 5) (Y5 (z.c.headD []) 6))
 else if n=50 then dC (W8 x.c (z9 (y.c.headD []) 0) (z9 (y.c.headD []) 1) (z9 (y.c.headD []) 2) (aB8 (y.c.headD []) 3))
 else if n=51 then dI (aF7 x.c (z9 (y.c.headD []) 0) (z9 (y.c.headD []) 1) (z9 (y.c.headD []) 2) (aB8 (y.c.headD []) 3) (Y5 (y.c.headD []) 4))
 else if n=52 then dB (ah4 x.c (z9 (y.c.headD []) 0) (z9 (y.c.headD []) 1) (z9 (y.c.headD []) 2) (aB8 (y.c.headD []) 3) (Y5 (y.c.headD []) 4))
 else if n=53 then dS (rdS (aH6 x.c) (z9 (z.c.headD []) 0) (qdN (a69 x y z) (z9 (z.c.headD []) 4)).toNat)
 else if n=54 then dI (qdN (a69 x y z) (z9 (z.c.headD []) 4))
 else if n=55 then dS (rdS (aP5 x.c) (z9 (y.c.headD []) 0) (rdN x.c (z9 (y.c.headD []) 0) (z9 (y.c.headD []) 1)).toNat)
 else if n=56 then dI (rdN x.c (z9 (y.c.headD []) 0) (z9 (y.c.headD []) 1))
 else inF n x y z
theorem bh9{J:Env}{N:Bn}{w w':World}{s:Sy.St}{b:Bk}(h:Only (fun x=>x=N b.l) w w')(hb:BkOk J N w' b):Chg J N N w w' s [] [b] []:=
 ⟨h.aj6 fun k _ hk=> .inl ⟨b,ae ..,hk⟩,fun _ _=>rfl,fun x hx=>by rw[ah.1 hx];exact hb,fun b hb=>bG,fun b hb=>bG,fun b hb=>bG,fun b hb=>bG,fun b hb=>bG⟩
section
variable{J:Env}
end
def aF6(r f a s ff:Tm):Tm:=ak3 r (ak3 f (ak3 a (dr7 s (br4 ff ak9))))
def aH4(r a:Tm):Tm:=ak3 r (ak3 a ak9)
def a07:Nat->Dn->Dn->Dn->Dn:=fun n x y z=>
 if n=58 then dI (z9 (y.c.headD []) 0+rdN x.c (z9 (y.c.headD []) 0) (z9 (y.c.headD []) 1))
 else if n=59 then dI (z9 (z.c.headD []) 0+qdN (a69 x y z) (z9 (z.c.headD []) 4))
 else cO6 n x y z
section
variable{J:Env}
end
def zP:Value:= .agg #[.int .i64 0, .bool false, .bool false, .string K4]
def sP:Value:= .agg #[.int .i64 0, .bool true, .bool false, .string K4]
def pcM(fin lo limit mss:Int):Int:=max 0 (min (min limit fin - lo) mss)
def pcV(fin:Int)(shut:Bool)(lo limit mss:Int)(body:ByteArray):Value:=
 if limit<=lo\/fin+(if shut then 1 else 0)<=lo\/mss<1 then .tuple #[zP, .bool false]
 else if lo=0 then .tuple #[sP, .bool true]
 else .tuple #[.agg #[.int .i64 lo, .bool false, .bool (shut&&decide (lo+pcM fin lo limit mss=fin/\fin<limit)), .string body], .bool true]
theorem a74{fin lo limit mss:Int}{shut:Bool}{body:ByteArray}(h:limit<=lo\/fin+(if shut then 1 else 0)<=lo\/mss<1):pcV fin shut lo limit mss body= .tuple #[zP, .bool false]:=if_pos h
theorem bI8{fin lo limit mss:Int}{shut:Bool}{body:ByteArray}(h:¬(limit<=lo\/fin+(if shut then 1 else 0)<=lo\/mss<1))(h0:lo=0):pcV fin shut lo limit mss body= .tuple #[sP, .bool true]:=by
 unfold pcV;rw[if_neg h,if_pos h0]
theorem bP8{fin lo limit mss:Int}{shut:Bool}{body:ByteArray}(h:¬(limit<=lo\/fin+(if shut then 1 else 0)<=lo\/mss<1))(h0:lo≠0):
 pcV fin shut lo limit mss body= .tuple #[.agg #[.int .i64 lo, .bool false, .bool (shut&&decide (lo+pcM fin lo limit mss=fin/\fin<limit)), .string body], .bool true]:=by
 unfold pcV;rw[if_neg h,if_neg h0]
theorem dL5{fin lo limit mss L:Int}{shut F:Bool}{body S:ByteArray}(h:¬(limit<=lo\/fin+(if shut then 1 else 0)<=lo\/mss<1))(h0:lo≠0)(hL:L=lo)(hF:F=(shut&&decide (lo+pcM fin lo limit mss=fin/\fin<limit)))(hS:S=body):
 Value.tuple #[.agg #[.int .i64 L, .bool false, .bool F, .string S], .bool true]=pcV fin shut lo limit mss body:=by
 rw[bP8 h h0,hL,hF,hS]
section
variable(J:Env)(x y z:Tm)
theorem ai1:(u9 J (.ite (.lt x y) x y)).i=min (u9 J x).i (u9 J y).i:=by
 show(if decide ((u9 J x).i<(u9 J y).i)=true then u9 J x else u9 J y).i=_;by_cases h:(u9 J x).i<(u9 J y).i
 .rw[if_pos (aD h)];omega
 .rw[if_neg cq];omega
theorem ae3:(u9 J (.ite (.lt x y) y x)).i=max (u9 J x).i (u9 J y).i:=by
 show(if decide ((u9 J x).i<(u9 J y).i)=true then u9 J y else u9 J x).i=_;by_cases h:(u9 J x).i<(u9 J y).i
 .rw[if_pos (aD h)];omega
 .rw[if_neg cq];omega
theorem au1:(u9 J (.wrap .i64 x)).i=IntKind.i64.wrap (u9 J x).i:=rfl
end
def cx6:Cx:=⟨[⟨.iv 0,0,1152921504606846976⟩,⟨.iv 1,-9223372036854775808,9223372036854775807⟩,⟨.iv 2,-9223372036854775808,9223372036854775807⟩,⟨.iv 3,1,1152921504606846976⟩,⟨.iv 7,0,2048⟩,⟨.len l7,0,2048⟩],[.le o8 qbo, .le qbo o8]⟩
def pcQ:List C:=[.slr 2 i9 o8 i9, .int .i64 n7, .int .i64 n8, .int .i64 l8, .int .i64 p7, .bool o9]
def aR7:List Bk:=[⟨2,5,bA1 true,false,some l7, .no⟩,⟨0,110,pcQ,false,none, .no⟩]
def cg7:List SV:=[.one (.c (.ptr 0 0)), .one (.c (.int .i64 j9)), .one (.c (.int .i64 m8)), .one (.c (.int .i64 m9))]
abbrev wbs:List (Tq8 Sm):=[.l (.ret (.tup [(.agg [(.int .i64 i9),(.bool l4),(.bool l4),(.str p9)]),(.c (.bool l4))]) aR7)]
abbrev wby:List (Tq8 Sm):=[.b qf1]++wbs++[.b qf4,.l (.ret (.tup [(.agg [(.int .i64 i9),(.bool l6),(.bool l4),(.str p9)]),(.c (.bool l6))]) aR7)]
abbrev wbv:List (Tq8 Sm):=[.b (.lt j9 qfh),.p,.l (.must qea),.a qea,.p,.l (.must (.le qau qay)),.a (.le qau qay),.p,.l (.must qgk),.a qgk,.p,.l (.must (.le qdh qbo)),.a (.le qdh qbo)]
abbrev wbA:List (Tq8 Sm):=[.l (.ret (.tup [(.agg [(.int .i64 j9),(.bool l4),(.bool l4),(.str qg4)]),(.c (.bool l6))]) aR7)]
abbrev wbt:List (Tq8 Sm):=[.l (.ret (.tup [(.agg [(.int .i64 j9),(.bool l4),(.bool l4),(.str p9)]),(.c (.bool l6))]) aR7)]
abbrev wbw:List (Tq8 Sm):=[.b (.eq j9 qcv),.l (.ret (.tup [(.agg [(.int .i64 j9),(.bool l4),(.bool (.lt qcv qbj)),(.str p9)]),(.c (.bool l6))]) aR7)]++wbt
theorem cg5:smR prog f82 4 (R6 prog [] 10 400 4 (.code (y7 f82)) (L3 f82 cg7 ⟨[],aR7,cx6,4⟩))=some (fq8 ([.b o9,.d (.le qbj j9)]++wby++[.b (.lt m9 (.sub qag j9))]++wbv++[.b (.eq qfh qcv),.l (.ret (.tup [(.agg [(.int .i64 j9),(.bool l4),(.bool (.lt qcv qbj)),(.str qg4)]),(.c (.bool l6))]) aR7)]++wbA++wbw++[.b (.lt j9 qag),.p,.l (.must qea),.a qea,.p,.l (.must (.le qau qgf)),.a (.le qau qgf),.p,.l (.must (.le qgf o8)),.a (.le qgf o8),.p,.l (.must (.le qd4 qbo)),.a (.le qd4 qbo),.b (.eq qag qcv),.l (.ret (.tup [(.agg [(.int .i64 j9),(.bool l4),(.bool (.lt qcv qbj)),(.str (.cut l7 qau qd4))]),(.c (.bool l6))]) aR7),.l (.ret (.tup [(.agg [(.int .i64 j9),(.bool l4),(.bool l4),(.str (.cut l7 qau qd4))]),(.c (.bool l6))]) aR7)]++wbw++wbs++[.d (.le (.ite (.lt qcv m8) qcv m8) j9)]++wby++[.b (.lt m9 (.sub qam j9))]++wbv++wbA++wbt++[.b (.lt j9 qam),.p,.l (.must qea),.a qea,.p,.l (.must (.le qau qei)),.a (.le qau qei),.p,.l (.must (.le qei o8)),.a (.le qei o8),.p,.l (.must (.le qgh qbo)),.a (.le qgh qbo),.l (.ret (.tup [(.agg [(.int .i64 j9),(.bool l4),(.bool l4),(.str (.cut l7 qau qgh))]),(.c (.bool l6))]) aR7)]++wbt++wbs) [[.le o8 qbo,.le qbo o8]]):=by kernel_rfl
def bJ0(gb cap:Nat)(n base una cur sent:Int)(shut:Bool):List Value:=[ac9 gb cap 0 n.toNat 0, .int .i64 base, .int .i64 una, .int .i64 cur, .int .i64 sent, .bool shut]
theorem cB3(g gb cap:Nat)(bytes:ByteArray)(base una cur sent lo limit mss:Int)(shut:Bool)(body:ByteArray)(w:World)(hg:Blk w g 110 (bJ0 gb cap bytes.size base una cur sent shut))(hb:RowB w gb cap 5 true bytes.data.toList)(hne:cap≠0->g≠gb)
 (hs:bytes.size<=2048) (hb1:1<=base) (hb2:base<=1152921504606846976) (hf0:0<=lo) (hf1:lo<=1152921504606846976) (hl: -9223372036854775808<=limit/\limit<=9223372036854775807) (hm: -9223372036854775808<=mss/\mss<=9223372036854775807)
 (hbl:1<=lo->base<=lo) (hbody:1<=lo->body=bytes.extract (lo - base).toNat (lo - base+pcM (base+bytes.size) lo limit mss).toNat):
 Calls prog 82 #[.pointer (some ⟨g,0,none⟩), .int .i64 lo, .int .i64 limit, .int .i64 mss] w fun e w'=>e= .returned (pcV (base+bytes.size) shut lo limit mss body)/\Below w.heap.size w w':=by
 have hM0:Md (U9 [lo,limit,mss,base,una,cur,sent,bytes.size] [shut] [bytes] []) (fun _=>False) w (fun l=>if l=0 then g else if l=2 then gb else cap) 4 ⟨[],aR7,cx6,4⟩ (fun l=>if l=0 then g else if l=2 then gb else cap) ⟨#[],[]⟩ w:=by
  refine⟨rfl,fun b hb'=>?_,fun x hx y hy hxy hrx hry=>?_,fun b hb' hw _=>?_,⟨fun x hx=>?_,fun t ht=>?_⟩,Only.aF4 _ _,fun _ _=>rfl⟩
  .change b∈[_,_]at hb';simp only[aa,aY,or_false]at hb';rcases hb' with rfl|rfl
   .exact hb
   .exact hg
  .change x∈[_,_]at hx;change y∈[_,_]at hy;simp only[aa,aY,or_false]at hx hy;rcases hx with rfl|rfl<;>rcases hy with rfl|rfl
   .exact absurd rfl hxy
   .refine apart.of rfl rfl fun e=>hne ?_ e.symm
    rcases hrx with h|h
    .cases h
    .exact h
   .refine apart.of rfl rfl (hne ?_);rcases hry with h|h
    .cases h
    .exact h
   .exact absurd rfl hxy
  .change b∈[_,_]at hb';simp only[aa,aY,or_false]at hb';rcases hb' with rfl|rfl<;>cases hw
  .change x∈[_,_,_,_,_,_]at hx;simp only[aa,aY,or_false]at hx;rcases hx with rfl|rfl|rfl|rfl|rfl|rfl
   .exact⟨hf0,hf1⟩
   .exact hl
   .exact hm
   .exact⟨hb1,hb2⟩
   .show(0:Int)<=(bytes.size:Int)/\(bytes.size:Int)<=2048;omega
   .show(0:Int)<=(bytes.size:Int)/\(bytes.size:Int)<=2048;omega
  .change t∈[_,_]at ht;simp only[aa,aY,or_false]at ht;rcases ht with rfl|rfl
   .exact aD (aF (bytes.size:Int))
   .exact aD (aF (bytes.size:Int))
 refine(W3 (B:=⟨U9 [lo,limit,mss,base,una,cur,sent,bytes.size] [shut] [bytes] [],fun _=>False,w,fun l=>if l=0 then g else if l=2 then gb else cap,4⟩) (sp:=[]) (fun i=>rfl) (fun q hq=>by cases hq) 10 400 func82 rfl cg7 ⟨[],aR7,cx6,4⟩ _ 4 rfl cg5 hM0 (R:=fun v w'=>v=pcV (base+bytes.size) shut lo limit mss body/\Below w.heap.size w w') ?_ rfl).mono ?_
 .have j0:(U9 [lo,limit,mss,base,una,cur,sent,bytes.size] [shut] [bytes] []).i 0=lo:=rfl;have j1:(U9 [lo,limit,mss,base,una,cur,sent,bytes.size] [shut] [bytes] []).i 1=limit:=rfl;have j2:(U9 [lo,limit,mss,base,una,cur,sent,bytes.size] [shut] [bytes] []).i 2=mss:=rfl;have j3:(U9 [lo,limit,mss,base,una,cur,sent,bytes.size] [shut] [bytes] []).i 3=base:=rfl;have j7:(U9 [lo,limit,mss,base,una,cur,sent,bytes.size] [shut] [bytes] []).i 7=(bytes.size:Int):=rfl;have jb:(U9 [lo,limit,mss,base,una,cur,sent,bytes.size] [shut] [bytes] []).b 0=shut:=rfl;have js:(U9 [lo,limit,mss,base,una,cur,sent,bytes.size] [shut] [bytes] []).s 0=bytes:=rfl;generalize U9 [lo,limit,mss,base,una,cur,sent,bytes.size] [shut] [bytes] []=J at*;have body0:1<=lo->pcM (base+bytes.size) lo limit mss=0->body=K4:=fun h1 h2=>by
   rw[hbody h1,h2,Int.add_zero];apply ByteArray.ext;show _=(#[]:Array UInt8);simp
  have cut:∀(x y:Tm),1<=lo->(u9 J x).i=lo - base->(u9 J y).i=lo - base+pcM (base+bytes.size) lo limit mss->(u9 J (.cut l7 x y)).s=body:=fun x y h1 hx hy=>by
   rw[eT6,aG6,js,hx,hy,hbody h1]
  cases shut;all_goals
   refine⟨?_,?_,?_,?_,?_,?_,?_,?_,?_,?_,?_,?_,?_,?_,?_,?_,?_,?_,?_,?_,?_,?_,?_,?_,?_,?_,?_,?_,?_,?_,?_,?_,?_,?_,trivial⟩
  all_goals first
   | (intro hpc
      replace hpc:A6 J _:=hpc;simp only[A6,A7,E5,A9,y9,G1,I3,F0,A0,z7,E9,ai1,ae3,A8,au1,aG6,IntKind.wrap_i64,j0,j1,j2,j3,j7,jb,js,and_true,ax,aJ,aM,true_and,false_and,and_false]at hpc
      done)
   | (intro hpc
      replace hpc:A6 J _:=hpc;simp only[A6,A7,E5,A9,y9,G1,I3,F0,A0,z7,E9,ai1,ae3,A8,au1,aG6,IntKind.wrap_i64,j0,j1,j2,j3,j7,jb,js,and_true,ax,aJ,aM,true_and,false_and,and_false]at hpc;simp only[E5,A7,F0,A0,z7,E9,ai1,ae3,A8,au1,aG6,IntKind.wrap_i64,j0,j1,j2,j3,j7,js];omega)
   | (intro hpc N w' hH
      replace hpc:A6 J _:=hpc;simp only[A6,A7,E5,A9,y9,G1,I3,F0,A0,z7,E9,ai1,ae3,A8,au1,aG6,IntKind.wrap_i64,j0,j1,j2,j3,j7,jb,js,and_true,ax,aJ,aM,true_and,false_and,and_false]at hpc;refine⟨?_,Sy.Only.R9 hH.only⟩;first
       | (rw[a74 bX];rfl)
       | (rw[bI8 bX U];rfl)
       | (refine dL5 bX U j0 ?_ ?_
          .first
            | rfl
            | (rw[Bool.eq_iff_iff]
               simp only[A7,I3,F0,A0,z7,E9,ai1,ae3,j0,j1,j2,j3,j7,Bool.true_and,Bool.false_and,aB,ax,false_iff];unfold pcM;omega)
          .first
            | exact(body0 U (by unfold pcM;omega)).symm
            | exact cut _ _ U (by simp only[F0,A0,z7,E9,ai1,ae3,au1,IntKind.wrap_i64,j0,j1,j2,j3,j7]) (by simp only[F0,A0,z7,E9,ai1,ae3,au1,IntKind.wrap_i64,j0,j1,j2,j3,j7];unfold pcM;omega)))
 .rintro e w' ⟨v,rfl,rfl,hb⟩;exact⟨rfl,hb⟩
end Go.Proofs.YtnlcpcmdlcakgaaGreat
namespace Go.Proofs.YtnlcpcmdlcakgaaGreat
open Go.RowKit
def ah1(known:Bool)(mean spread doubled:Int):List Value:=[.bool known, .int .i64 mean, .int .i64 spread, .int .i64 doubled]
def a67(mean spread doubled:Int):List Value:=[.int .i64 mean, .int .i64 spread, .int .i64 doubled]
def aK1(d:Int):Int:=if d=6 then 6 else d+1
def af9(d:Int):Int:=if d<0 then -d else d
theorem cv4(g:Nat)(k:Bool)(m s d:Int)(w:World)(hB:Blk w g 120 (ah1 k m s d))(hd:0<=d)(hd':d<=6):
 Calls prog 109 #[.pointer (some ⟨g,0,none⟩)] w fun e w'=>e= .returned (.tuple #[])/\Blk w' g 120 (ah1 k m s (aK1 d))/\Only (· =g) w w':=by
 have c3:=hB.at_ (i:=3) (v:= .int .i64 d) rfl;have f3:=hB.Z5 3;have HB:=Lib.hid hB;clear hB;by_cases h6:d=6
 .subst h6;go_enter func109,ntmps109;go_wp2;go_end0;exact⟨rfl,HB.out.aA8 3 _,(Only.aF4 _ _).aB7⟩
 .have h6':d<6:=by omega
  have hl:aK1 d=d+1:=by unfold aK1;rw[if_neg h6]
  have HL:=Lib.hid hl;clear hl h6;go_enter func109,ntmps109;go_wp2;go_end0;exact⟨rfl,by rw[HL.out];exact HB.out.aA8 3 _,(Only.aF4 _ _).aB7⟩
theorem bq9(g:Nat)(r:Int)(w:World)(hr:r<0\/1099511627776<r):
 Calls prog 120 #[.pointer (some ⟨g,0,none⟩), .int .i64 r] w fun e w'=>e= .returned (.int .i64 1)/\w=w':=by
 rcases hr with hr|hr
 .go_enter func120,ntmps120;go_wp2;go_ret;exact⟨rfl,rfl⟩
 .go_enter func120,ntmps120;go_wp2;go_ret;exact⟨rfl,rfl⟩
theorem bO6(g:Nat)(m s d r:Int)(w:World)(hB:Blk w g 120 (ah1 false m s d))(hr:0<=r)(hr':r<=1099511627776):
 Calls prog 120 #[.pointer (some ⟨g,0,none⟩), .int .i64 r] w fun e w'=>e= .returned (.int .i64 0)/\Blk w' g 120 (ah1 true (8*r) (2*r) 0)/\Only (· =g) w w':=by
 have c0:=hB.at_ (i:=0) (v:= .bool false) rfl;have c1:=hB.at_ (i:=1) (v:= .int .i64 m) rfl;have c2:=hB.at_ (i:=2) (v:= .int .i64 s) rfl;have c3:=hB.at_ (i:=3) (v:= .int .i64 d) rfl;have f0:=hB.Z5 0;have f1:=hB.Z5 1;have f2:=hB.Z5 2;have f3:=hB.Z5 3;have HB:=Lib.hid hB;clear hB;rw[Int.mul_comm 8,Int.mul_comm 2];go_enter func120,ntmps120;go_wp2;go_ret;exact⟨rfl,(((HB.out.aA8 3 _).aA8 0 _).aA8 1 _).aA8 2 _,(Only.aF4 _ _).aB7.aB7.aB7.aB7⟩
theorem bW4(g:Nat)(m s d r:Int)(w:World)(hB:Blk w g 120 (ah1 true m s d))(hr:0<=r)(hr':r<=1099511627776)(hm:0<=m)(hm':m<=8796093022208)(hs:0<=s)(hs':s<=4398046511104):
 Calls prog 120 #[.pointer (some ⟨g,0,none⟩), .int .i64 r] w fun e w'=>e= .returned (.int .i64 0)/\Blk w' g 120 (ah1 true (m+(r - m /8)) (s+(af9 (r - m /8) - s /4)) 0)/\Only (· =g) w w':=by
 have c0:=hB.at_ (i:=0) (v:= .bool true) rfl;have c1:=hB.at_ (i:=1) (v:= .int .i64 m) rfl;have c2:=hB.at_ (i:=2) (v:= .int .i64 s) rfl;have c3:=hB.at_ (i:=3) (v:= .int .i64 d) rfl;have f0:=hB.Z5 0;have f1:=hB.Z5 1;have f2:=hB.Z5 2;have f3:=hB.Z5 3;have HB:=Lib.hid hB;clear hB;by_cases hn:r - m /8<0
 .have ha:af9 (r - m /8)= -(r - m /8):=by unfold af9;rw[if_pos hn]
  rw[ha];clear ha;go_enter func120,ntmps120;go_wp2;go_region;go_wp2;go_ret;exact⟨rfl,((HB.out.aA8 3 _).aA8 1 _).aA8 2 _,(Only.aF4 _ _).aB7.aB7.aB7.bU0⟩
 .have ha:af9 (r - m /8)=r - m /8:=by unfold af9;rw[if_neg hn]
  rw[ha];clear ha;have hn':0<=r - m /8:=by omega
  clear hn;go_enter func120,ntmps120;go_wp2;go_region;go_wp2;go_ret;exact⟨rfl,((HB.out.aA8 3 _).aA8 1 _).aA8 2 _,(Only.aF4 _ _).aB7.aB7.aB7.bU0⟩
def ap0(n:Int):Int:=if n<2 then 2 else if 64<n then 64 else n
def bZ4(k:Bool)(m s:Int):Int:=if k=true then m /8+(if 1<s then s else 1)else 3
def aT5(k:Bool)(m s d:Int):Int:=ap0 (bZ4 k m s*2 ^ d.toNat)
theorem bw1(g:Nat)(m s d:Int)(w:World)(hB:Blk w g 120 (ah1 false m s d))(hd:0<=d)(hd':d<=6):
 Calls prog 67 #[.pointer (some ⟨g,0,none⟩)] w fun e w'=>e= .returned (.int .i64 (aT5 false m s d))/\∃ n,w'=w.drewN n:=by
 have c0:=hB.at_ (i:=0) (v:= .bool false) rfl;have c3:=hB.at_ (i:=3) (v:= .int .i64 d) rfl;have h7:d=0\/d=1\/d=2\/d=3\/d=4\/d=5\/d=6:=by omega
 rcases h7 with rfl|rfl|rfl|rfl|rfl|rfl|rfl;all_goals
  go_enter func67,ntmps67;go_wp2;go_ret;exact⟨aL1 (by simp[aT5,bZ4,ap0]),0,rfl⟩
theorem bw2(g:Nat)(m s d:Int)(w:World)(hB:Blk w g 120 (ah1 true m s d))(hd:0<=d)(hd':d<=6)(hm:0<=m)(hm':m<=8796093022208)(hs:0<=s)(hs':s<=4398046511104):
 Calls prog 67 #[.pointer (some ⟨g,0,none⟩)] w fun e w'=>e= .returned (.int .i64 (aT5 true m s d))/\∃ n,w'=w.drewN n:=by
 have c0:=hB.at_ (i:=0) (v:= .bool true) rfl;have c1:=hB.at_ (i:=1) (v:= .int .i64 m) rfl;have c2:=hB.at_ (i:=2) (v:= .int .i64 s) rfl;have c3:=hB.at_ (i:=3) (v:= .int .i64 d) rfl;have h7:d=0\/d=1\/d=2\/d=3\/d=4\/d=5\/d=6:=by omega
 rcases h7 with rfl|rfl|rfl|rfl|rfl|rfl|rfl<;>rcases Int.lt_or_le 1 s with h1|h1;all_goals
  go_enter func67,ntmps67;go_wp2;go_quiet (fail);go_wp2;all_goals go_ret
  all_goals refine⟨aL1 ?_,_,rfl⟩
  all_goals go_light
  all_goals simp[aT5,bZ4,ap0]
  all_goals repeat' split
  all_goals omega
theorem bN2(n a b:Int)(w:World):
 Calls prog 20 #[.int .i64 n, .int .i64 a, .int .i64 b] w fun e w'=>e= .returned (.bool (decide (n<a)||decide (b<n)))/\w=w':=by
 by_cases h:n<a
 .go_enter func20,ntmps20;go_wp2;go_ret;exact⟨aR6 (by simp[h]),rfl⟩
 .go_enter func20,ntmps20;go_wp2;go_ret;exact⟨aR6 bP,rfl⟩
theorem ak5(n a b:Int)(w:World)(h:a<=n)(h':n<=b):
 Calls prog 20 #[.int .i64 n, .int .i64 a, .int .i64 b] w fun e w'=>e= .returned (.bool false)/\w=w':=
 (bN2 n a b w).mono fun e w' ⟨he,hw⟩=>⟨he.trans (aR6 bP),hw⟩
theorem bW8(n a b:Int)(w:World)(h:n<a\/b<n):
 Calls prog 20 #[.int .i64 n, .int .i64 a, .int .i64 b] w fun e w'=>e= .returned (.bool true)/\w=w':=
 (bN2 n a b w).mono fun e w' ⟨he,hw⟩=>⟨he.trans (aR6 bP),hw⟩
theorem av2(n m:Int)(w:World)(h:0<=n)(h':n<=9223372036854775807)(hm:1<=m)(hm':m<=4294967296):
 Calls prog 111 #[.int .i64 n, .int .i64 m] w fun e w'=>e= .returned (.int .i64 (n /m))/\w=w':=by
 have h1:=Int.emod_nonneg n (show m≠0 by omega);have h2:=Int.emod_lt_of_pos n (show 0<m by omega);have h3:n % m<=n:=by have:=Int.emod_add_mul_ediv n m;have:=Int.mul_nonneg (show 0<=m by omega) (Int.ediv_nonneg h (show 0<=m by omega));omega
 have h4:(n - n % m) /m=n /m:=by
  have:=Int.emod_add_mul_ediv n m;rw[show n - n % m=m*(n /m)from by omega];exact Int.mul_ediv_cancel_left _ U
 have H4:=Lib.hid h4;clear h4;go_enter func111,ntmps111;go_wp2_with (go_at_call 59;refine(af1 _ _ _ U U U U).mono ?_;rintro e w' ⟨rfl,rfl⟩);go_ret;exact⟨aL1 H4.out,rfl⟩
theorem cw0(g:Nat)(m s d:Int)(w:World)(hB:Blk w g 101 (a67 m s d))(hd:0<=d)(hd':d<=6):
 Calls prog 112 #[.pointer (some ⟨g,0,none⟩)] w fun e w'=>e= .returned (.tuple #[])/\Blk w' g 101 (a67 m s (aK1 d))/\Only (· =g) w w':=by
 have c2:=hB.at_ (i:=2) (v:= .int .i64 d) rfl;have f2:=hB.Z5 2;have HB:=Lib.hid hB;clear hB;by_cases h6:d=6
 .subst h6;go_enter func112,ntmps112;go_wp2;go_end0;exact⟨rfl,HB.out,(Only.aF4 _ _)⟩
 .have h6':d<6:=by omega
  have hl:aK1 d=d+1:=by unfold aK1;rw[if_neg h6]
  have HL:=Lib.hid hl;clear hl h6;go_enter func112,ntmps112;go_wp2;go_end0;exact⟨rfl,by rw[HL.out];exact HB.out.aA8 2 _,(Only.aF4 _ _).aB7⟩
theorem br1(g:Nat)(r:Int)(w:World)(hr:r<0\/1099511627776<r):
 Calls prog 127 #[.pointer (some ⟨g,0,none⟩), .int .i64 r] w fun e w'=>e= .returned (.int .i64 1)/\w=w':=by
 have h:=fun w=>bW8 r 0 1099511627776 w hr
 have H:=Lib.hid h;clear h;go_enter func127,ntmps127;go_wp2_with (go_at_call 20;refine(H.out _).mono ?_;rintro e w' ⟨rfl,rfl⟩);go_ret;exact⟨rfl,rfl⟩
theorem bP2(g:Nat)(s d r:Int)(w:World)(hB:Blk w g 101 (a67 (-1) s d))(hr:0<=r)(hr':r<=1099511627776):
 Calls prog 127 #[.pointer (some ⟨g,0,none⟩), .int .i64 r] w fun e w'=>e= .returned (.int .i64 0)/\Blk w' g 101 (a67 (8*r) (2*r) 0)/\Only (· =g) w w':=by
 have c0:=hB.at_ (i:=0) (v:= .int .i64 (-1)) rfl;have c1:=hB.at_ (i:=1) (v:= .int .i64 s) rfl;have c2:=hB.at_ (i:=2) (v:= .int .i64 d) rfl;have f0:=hB.Z5 0;have f1:=hB.Z5 1;have f2:=hB.Z5 2;have HB:=Lib.hid hB;clear hB;go_enter func127,ntmps127;go_wp2_with (go_at_call 20;refine(ak5 _ _ _ _ U U).mono ?_;rintro e w' ⟨rfl,rfl⟩);go_ret;exact⟨rfl,((HB.out.aA8 2 _).aA8 0 _).aA8 1 _,(Only.aF4 _ _).aB7.aB7.aB7⟩
theorem bW9(g:Nat)(m s d r:Int)(w:World)(hB:Blk w g 101 (a67 m s d))(hr:0<=r)(hr':r<=1099511627776)(hm:0<=m)(hm':m<=8796093022208)(hs:0<=s)(hs':s<=4398046511104):
 Calls prog 127 #[.pointer (some ⟨g,0,none⟩), .int .i64 r] w fun e w'=>e= .returned (.int .i64 0)/\Blk w' g 101 (a67 (m+(r - m /8)) (s+(af9 (r - m /8) - s /4)) 0)/\Only (· =g) w w':=by
 have c0:=hB.at_ (i:=0) (v:= .int .i64 m) rfl;have c1:=hB.at_ (i:=1) (v:= .int .i64 s) rfl;have c2:=hB.at_ (i:=2) (v:= .int .i64 d) rfl;have f0:=hB.Z5 0;have f1:=hB.Z5 1;have f2:=hB.Z5 2;have HB:=Lib.hid hB;clear hB;by_cases hn:r - m /8<0
 .have ha:af9 (r - m /8)= -(r - m /8):=by unfold af9;rw[if_pos hn]
  rw[ha];clear ha;go_enter func127,ntmps127;go_wp2_with (first
   | (go_at_call 20;refine(ak5 _ _ _ _ U U).mono ?_;rintro e w' ⟨rfl,rfl⟩)
   | (go_at_call 111;refine(av2 _ _ _ U U U U).mono ?_;rintro e w' ⟨rfl,rfl⟩))
  have e1:IntKind.i64.wrap (-(r - m /8))= -(r - m /8):=IntWalk.i64_in _ U;have e2:IntKind.i64.wrap (-(r - m /8) - s /4)= -(r - m /8) - s /4:=IntWalk.i64_in _ U;have e3:IntKind.i64.wrap (s+(-(r - m /8) - s /4))=s+(-(r - m /8) - s /4):=IntWalk.i64_in _ U;have e4:(r - m /8< -(r - m /8)):=by omega
  have hq:=(HB.out.aA8 2 (.int .i64 0)).aA8 0 (.int .i64 (m+(r - m /8)));have ho:Only (· =g) w ((w.setCell ⟨g,2,none⟩ (.int .i64 0)).setCell ⟨g,0,none⟩ (.int .i64 (m+(r - m /8)))):=(Only.aF4 _ _).aB7.aB7
  generalize(w.setCell ⟨g,2,none⟩ (.int .i64 0)).setCell ⟨g,0,none⟩ (.int .i64 (m+(r - m /8)))=wq at hq ho ⊢;have c1':wq.cell? ⟨g,1,none⟩=some (.int .i64 s):=hq.at_ rfl;have f1':=hq.Z5 1;have HQ:=Lib.hid hq;have HO:=Lib.hid ho;clear hq ho c0 c1 c2 f0 f1 f2;refine wp_region_still_tail 17 (by kernel_rfl) (by kernel_rfl) ?_;simp only[List.take_succ_cons,List.take_zero,List.drop_succ_cons,List.drop_zero];change wpStill _ _ wq.drew _ _ _;repeat still_step
  still_call ((av2 s 4 wq.drew U U U U).mono fun _ _ h=>⟨h.1,h.2.symm⟩)
  repeat still_step
  refine wpStill_nil ?_;clear e1 e2 e3 e4;go_wp2;go_ret;exact⟨rfl,HQ.out.aA8 1 _,HO.out.aB7.bU0⟩
 .have ha:af9 (r - m /8)=r - m /8:=by unfold af9;rw[if_neg hn]
  rw[ha];clear ha;have hn':0<=r - m /8:=by omega
  clear hn;go_enter func127,ntmps127;go_wp2_with (first
   | (go_at_call 20;refine(ak5 _ _ _ _ U U).mono ?_;rintro e w' ⟨rfl,rfl⟩)
   | (go_at_call 111;refine(av2 _ _ _ U U U U).mono ?_;rintro e w' ⟨rfl,rfl⟩))
  have e1:IntKind.i64.wrap (-(r - m /8))= -(r - m /8):=IntWalk.i64_in _ U;have e2:IntKind.i64.wrap ((r - m /8) - s /4)=(r - m /8) - s /4:=IntWalk.i64_in _ U;have e3:IntKind.i64.wrap (s+((r - m /8) - s /4))=s+((r - m /8) - s /4):=IntWalk.i64_in _ U;have e4:¬(r - m /8< -(r - m /8)):=by omega
  have hq:=(HB.out.aA8 2 (.int .i64 0)).aA8 0 (.int .i64 (m+(r - m /8)));have ho:Only (· =g) w ((w.setCell ⟨g,2,none⟩ (.int .i64 0)).setCell ⟨g,0,none⟩ (.int .i64 (m+(r - m /8)))):=(Only.aF4 _ _).aB7.aB7
  generalize(w.setCell ⟨g,2,none⟩ (.int .i64 0)).setCell ⟨g,0,none⟩ (.int .i64 (m+(r - m /8)))=wq at hq ho ⊢;have c1':wq.cell? ⟨g,1,none⟩=some (.int .i64 s):=hq.at_ rfl;have f1':=hq.Z5 1;have HQ:=Lib.hid hq;have HO:=Lib.hid ho;clear hq ho c0 c1 c2 f0 f1 f2;refine wp_region_still_tail 17 (by kernel_rfl) (by kernel_rfl) ?_;simp only[List.take_succ_cons,List.take_zero,List.drop_succ_cons,List.drop_zero];change wpStill _ _ wq.drew _ _ _;repeat still_step
  still_call ((av2 s 4 wq.drew U U U U).mono fun _ _ h=>⟨h.1,h.2.symm⟩)
  repeat still_step
  refine wpStill_nil ?_;clear e1 e2 e3 e4;go_wp2;go_ret;exact⟨rfl,HQ.out.aA8 1 _,HO.out.aB7.bU0⟩
theorem bw6(g:Nat)(s d:Int)(w:World)(hB:Blk w g 101 (a67 (-1) s d))(hd:0<=d)(hd':d<=6):
 Calls prog 69 #[.pointer (some ⟨g,0,none⟩)] w fun e w'=>e= .returned (.int .i64 (aT5 false 0 s d))/\∃ n,w'=w.drewN n:=by
 have c0:=hB.at_ (i:=0) (v:= .int .i64 (-1)) rfl;have c2:=hB.at_ (i:=2) (v:= .int .i64 d) rfl;have h7:d=0\/d=1\/d=2\/d=3\/d=4\/d=5\/d=6:=by omega
 rcases h7 with rfl|rfl|rfl|rfl|rfl|rfl|rfl;all_goals
  go_enter func69,ntmps69;go_wp2;go_rounds 8;go_ret;exact⟨aL1 (by simp[aT5,bZ4,ap0]),0,rfl⟩
theorem bw7(g:Nat)(m s d:Int)(w:World)(hB:Blk w g 101 (a67 m s d))(hd:0<=d)(hd':d<=6)(hm:0<=m)(hm':m<=8796093022208)(hs:0<=s)(hs':s<=4398046511104):
 Calls prog 69 #[.pointer (some ⟨g,0,none⟩)] w fun e w'=>e= .returned (.int .i64 (aT5 true m s d))/\∃ n,w'=w.drewN n:=by
 have c0:=hB.at_ (i:=0) (v:= .int .i64 m) rfl;have c1:=hB.at_ (i:=1) (v:= .int .i64 s) rfl;have c2:=hB.at_ (i:=2) (v:= .int .i64 d) rfl;have h7:d=0\/d=1\/d=2\/d=3\/d=4\/d=5\/d=6:=by omega
 rcases h7 with rfl|rfl|rfl|rfl|rfl|rfl|rfl<;>rcases Int.lt_or_le 1 s with h1|h1;all_goals
  go_enter func69,ntmps69;go_wp2_with fail;go_quiet ((go_at_call 111;exact Calls.quiet_of_same ((av2 m 8 _ U U U U).mono fun _ _ h=>⟨h.1,h.2.symm⟩)));go_wp2;go_rounds 8;all_goals go_ret
  all_goals refine⟨aL1 ?_,_,rfl⟩
  all_goals go_light
  all_goals simp[aT5,bZ4,ap0]
  all_goals repeat' split
  all_goals omega
end Go.Proofs.YtnlcpcmdlcakgaaGreat
