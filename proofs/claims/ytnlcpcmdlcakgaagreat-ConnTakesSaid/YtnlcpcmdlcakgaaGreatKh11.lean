/- A part of the proof that a connection answers as the document says: SyP Leaf. -/
import Derived.Test.YtnlcpcmdlcakgaaGreatKh10
set_option maxRecDepth 100000
set_option maxHeartbeats 4000000
set_option linter.unusedVariables false
set_option linter.unusedSimpArgs false
set_option linter.unusedSectionVars false
namespace Go.Proofs.YtnlcpcmdlcakgaaGreat
namespace Sy
open Go Go.RowKit
def U9(is:List Int)(bs:List Bool)(ss:List ByteArray)(vs:List Value):Env:=⟨fun n=>is.getD n 0,fun n=>bs.getD n false,fun n=>ss.getD n K4,fun _ x _ _=>x,fun n=>vs.getD n (.bool false),fun _=> .bool false,fun _=>[],fun _=>Thing.a20⟩
section
variable(J:Env)(x y z:Tm)(n:Nat)(k:Int)(b:Bool)
theorem A7:((u9 J (.lt x y)).b=true)=((u9 J x).i<(u9 J y).i):=propext decide_eq_true_iff
theorem E5:((u9 J (.le x y)).b=true)=((u9 J x).i<=(u9 J y).i):=propext decide_eq_true_iff
theorem A9:((u9 J (.eq x y)).b=true)=((u9 J x).i=(u9 J y).i):=propext beq_iff_eq
theorem y9:((u9 J (.not x)).b=true)=¬((u9 J x).b=true):=by
 show((!(u9 J x).b)=true)=_;cases(u9 J x).b<;>simp
theorem F4:((u9 J (.and x y)).b=true)=((u9 J x).b=true/\(u9 J y).b=true):=propext (by show(((u9 J x).b&&(u9 J y).b)=true)↔_;simp)
theorem I7:((u9 J (.or x y)).b=true)=((u9 J x).b=true\/(u9 J y).b=true):=propext (by show(((u9 J x).b||(u9 J y).b)=true)↔_;simp)
theorem G1:(u9 J (.bv n)).b=J.b n:=rfl
theorem I3:(u9 J (.bl b)).b=b:=rfl
theorem F0:(u9 J (.iv n)).i=J.i n:=rfl
theorem A0:(u9 J (.il k)).i=k:=rfl
theorem z7:(u9 J (.add x y)).i=(u9 J x).i+(u9 J y).i:=rfl
theorem E9:(u9 J (.sub x y)).i=(u9 J x).i - (u9 J y).i:=rfl
theorem bL9:(u9 J (.mul x y)).i=(u9 J x).i*(u9 J y).i:=rfl
theorem eH2:(u9 J (.md x y)).i=(u9 J x).i % (u9 J y).i:=rfl
theorem A8:(u9 J (.len x)).i=((u9 J x).s.size:Int):=rfl
theorem aG6:(u9 J (.sv n)).s=J.s n:=rfl
theorem eT6:(u9 J (.cut x y z)).s=(u9 J x).s.extract (u9 J y).i.toNat (u9 J z).i.toNat:=rfl
end
inductive As where
 | i (n:Nat) (t:Tm)|b (n:Nat) (t:Tm)|s (n:Nat) (t:Tm)|u (n:Nat) (x:SV)|l (n m:Nat)|c (n:Nat) (t:Tm)
 deriving Repr,Inhabited
def tmI:List As->Nat->Option Tm
 | [],_=>none
 | .i m t::l,n=>if Nat.beq n m then some t else tmI l n
 | _::l,n=>tmI l n
def tmB:List As->Nat->Option Tm
 | [],_=>none
 | .b m t::l,n=>if Nat.beq n m then some t else tmB l n
 | _::l,n=>tmB l n
def tmS:List As->Nat->Option Tm
 | [],_=>none
 | .s m t::l,n=>if Nat.beq n m then some t else tmS l n
 | _::l,n=>tmS l n
def tmC:List As->Nat->Option Tm
 | [],_=>none
 | .c m t::l,n=>if Nat.beq n m then some t else tmC l n
 | _::l,n=>tmC l n
def svU:List As->Nat->Option SV
 | [],_=>none
 | .u m x::l,n=>if Nat.beq n m then some x else svU l n
 | _::l,n=>svU l n
def rnL:List As->Nat->Nat
 | [],n=>n
 | .l a b::l,n=>if Nat.beq n a then b else rnL l n
 | _::l,n=>rnL l n
def bnL(l:List As)(N:Bn):Bn:=fun n=>N (rnL l n)
def Env.L5(J:Env)(N:Bn)(l:List As):Env where
 i:=fun n=>match tmI l n with|some t=>(u9 J t).i|none=>J.i n
 b:=fun n=>match tmB l n with|some t=>(u9 J t).b|none=>J.b n
 s:=fun n=>match tmS l n with|some t=>(u9 J t).s|none=>J.s n
 f:=J.f
 v:=J.v
 o:=J.o
 u:=fun n=>match svU l n with|some x=>x.A1 J N|none=>J.u n
 c:=fun n=>match tmC l n with|some t=>(u9 J t).c|none=>J.c n
def aG1(l:List As):Tm->Bool
 | .iv n=>(tmI l n).isNone
 | .bv n=>(tmB l n).isNone
 | .sv n=>(tmS l n).isNone
 | .cv n=>(tmC l n).isNone
 | .add x y| .sub x y| .mul x y| .dv x y| .md x y| .quo x y| .rem x y| .bop _ _ x y| .byte x y| .lt x y| .le x y| .eq x y| .and x y| .or x y| .seq x y| .bq x y| .app x y=>aG1 l x&&aG1 l y
 | .pw x| .wrap _ x| .len x| .not x| .chr x=>aG1 l x
 | .ap _ x y z| .ite x y z| .cut x y z| .tb _ x y z=>aG1 l x&&(aG1 l y&&aG1 l z)
 | .il _| .bl _| .sl _=>true
theorem ax2(J:Env)(N:Bn)(l:List As):∀ t:Tm,aG1 l t=true->u9 (J.L5 N l) t=u9 J t:=by
 intro t
 induction t with
 | iv n=>
   intro h;simp only[aG1,Option.isNone_iff_eq_none]at h;simp only[u9,Env.L5,h]
 | bv n=>
   intro h;simp only[aG1,Option.isNone_iff_eq_none]at h;simp only[u9,Env.L5,h]
 | sv n=>
   intro h;simp only[aG1,Option.isNone_iff_eq_none]at h;simp only[u9,Env.L5,h]
 | cv n=>
   intro h;simp only[aG1,Option.isNone_iff_eq_none]at h;simp only[u9,Env.L5,h]
 | tb o x y z hx hy hz=>
   intro h;simp only[aG1,m5]at h;simp only[u9,hx h.1,hy h.2.1,hz h.2.2]
 | ap f x y z hx hy hz=>
   intro h;simp only[aG1,m5]at h;show(J.L5 N l).f f (u9 _ x) (u9 _ y) (u9 _ z)=_;rw[hx h.1,hy h.2.1,hz h.2.2];rfl
 | ite x y z hx hy hz=>
   intro h;simp only[aG1,m5]at h;simp only[u9,hx h.1,hy h.2.1,hz h.2.2]
 | cut x y z hx hy hz=>
   intro h;simp only[aG1,m5]at h;simp only[u9,hx h.1,hy h.2.1,hz h.2.2]
 | pw x hx=>intro h;simp only[u9,hx h]
 | wrap k x hx=>intro h;simp only[u9,hx h]
 | len x hx=>intro h;simp only[u9,hx h]
 | not x hx=>intro h;simp only[u9,hx h]
 | chr x hx=>intro h;simp only[u9,hx h]
 | il n=>intro _;rfl
 | bl n=>intro _;rfl
 | sl n=>intro _;rfl
 | _=>
   rename_i hx hy;intro h;simp only[aG1,m5]at h;simp only[u9,hx h.1,hy h.2]
def ag0(l:List As)(t:Tm):Option Tm:=
 match t with
 | .iv n=>some ((tmI l n).getD t)
 | _=>if aG1 l t then some t else none
def cS3(l:List As)(t:Tm):Option Tm:=
 match t with
 | .bv n=>some ((tmB l n).getD t)
 | _=>if aG1 l t then some t else none
def b24(l:List As)(t:Tm):Option Tm:=
 match t with
 | .sv n=>some ((tmS l n).getD t)
 | _=>if aG1 l t then some t else none
def aR2(l:List As):Tm->Option Tm
 | .cv n=>some ((tmC l n).getD (.cv n))
 | .tb o x y z=>match o with
   | .cons (.int k)=>(match ag0 l x,aR2 l y with
     | some a,some r=>if aG1 l z then some (.tb (.cons (.int k)) a r z)else none
     | _,_=>none)
   | .cons .bool=>(match cS3 l x,aR2 l y with
     | some a,some r=>if aG1 l z then some (.tb qb4 a r z)else none
     | _,_=>none)
   | .cons .str=>(match b24 l x,aR2 l y with
     | some a,some r=>if aG1 l z then some (.tb (.cons .str) a r z)else none
     | _,_=>none)
   | .app=>(match aR2 l x,aR2 l y with
     | some a,some r=>if aG1 l z then some (.tb .app a r z)else none
     | _,_=>none)
   | o=>if aG1 l (.tb o x y z)then some (.tb o x y z)else none
 | t=>if aG1 l t then some t else none
theorem aO3{J:Env}{N:Bn}{l:List As}{t u:Tm}(h:ag0 l t=some u):(u9 (J.L5 N l) t).i=(u9 J u).i:=by
 unfold ag0 at h;split at h
 .rename_i n;injection h with h;subst h;show(match tmI l n with|some t=>(u9 J t).i|none=>J.i n)=_;cases tmI l n<;>rfl
 .split at h
  .rename_i q;injection h with h;subst h;rw[ax2 J N l t q]
  .cases h
theorem cH5{J:Env}{N:Bn}{l:List As}{t u:Tm}(h:cS3 l t=some u):(u9 (J.L5 N l) t).b=(u9 J u).b:=by
 unfold cS3 at h;split at h
 .rename_i n;injection h with h;subst h;show(match tmB l n with|some t=>(u9 J t).b|none=>J.b n)=_;cases tmB l n<;>rfl
 .split at h
  .rename_i q;injection h with h;subst h;rw[ax2 J N l t q]
  .cases h
theorem bi8{J:Env}{N:Bn}{l:List As}{t u:Tm}(h:b24 l t=some u):(u9 (J.L5 N l) t).s=(u9 J u).s:=by
 unfold b24 at h;split at h
 .rename_i n;injection h with h;subst h;show(match tmS l n with|some t=>(u9 J t).s|none=>J.s n)=_;cases tmS l n<;>rfl
 .split at h
  .rename_i q;injection h with h;subst h;rw[ax2 J N l t q]
  .cases h
theorem aw3{J:Env}{N:Bn}{l:List As}:∀{t u:Tm},aR2 l t=some u->(u9 (J.L5 N l) t).c=(u9 J u).c:=by
 intro t
 induction t with
 | cv n=>
   intro u h;simp only[aR2]at h;injection h with h;subst h;show(match tmC l n with|some t=>(u9 J t).c|none=>J.c n)=_;cases tmC l n<;>rfl
 | tb o x y z ix iy iz=>
   intro u h;have fr:∀{o:TO},(if aG1 l (.tb o x y z)then some (Tm.tb o x y z)else none)=some u->(u9 (J.L5 N l) (.tb o x y z)).c=(u9 J u).c:=fun{o} h=>by
    split at h
    .rename_i q;injection h with h;subst h;rw[ax2 J N l _ q]
    .cases h
   cases o with
   | cons k=>
     cases k with
     | int k=>
       simp only[aR2]at h;split at h
       .rename_i a r ha hr;split at h
        .injection h with h;subst h;show [mkV (.int k) (u9 (J.L5 N l) x)::(u9 (J.L5 N l) y).c.headD []]=[mkV (.int k) (u9 J a)::(u9 J r).c.headD []];rw[iy hr];have e:=aO3 (J:=J) (N:=N) ha;show [Value.int k _::_]=[Value.int k _::_];rw[e]
        .cases h
       .cases h
     | bool=>
       simp only[aR2]at h;split at h
       .rename_i a r ha hr;split at h
        .injection h with h;subst h;show [mkV .bool (u9 (J.L5 N l) x)::(u9 (J.L5 N l) y).c.headD []]=[mkV .bool (u9 J a)::(u9 J r).c.headD []];rw[iy hr];have e:=cH5 (J:=J) (N:=N) ha;show [Value.bool _::_]=[Value.bool _::_];rw[e]
        .cases h
       .cases h
     | str=>
       simp only[aR2]at h;split at h
       .rename_i a r ha hr;split at h
        .injection h with h;subst h;show [mkV .str (u9 (J.L5 N l) x)::(u9 (J.L5 N l) y).c.headD []]=[mkV .str (u9 J a)::(u9 J r).c.headD []];rw[iy hr];have e:=bi8 (J:=J) (N:=N) ha;show [Value.string _::_]=[Value.string _::_];rw[e]
        .cases h
       .cases h
     | ptr=>exact fr h
     | sls=>exact fr h
   | app=>
     simp only[aR2]at h;split at h
     .rename_i a r ha hr;split at h
      .injection h with h;subst h;show(u9 (J.L5 N l) x).c++(u9 (J.L5 N l) y).c=(u9 J a).c++(u9 J r).c;rw[ix ha,iy hr]
      .cases h
     .cases h
   | _=>exact fr h
 | _=>
   intro u h;simp only[aR2]at h;split at h
   .rename_i q;injection h with h;subst h;rw[ax2 J N l _ q]
   .cases h
def bR5(l:List As):C->Option C
 | .int k t=>(ag0 l t).map (.int k)
 | .bool t=>(cS3 l t).map .bool
 | .str t=>(b24 l t).map .str
 | .slc g o a b=>match ag0 l a,ag0 l b with
   | some a,some b=>some (.slc (rnL l g) o a b)
   | _,_=>none
 | .slr g a b c=>match ag0 l a,ag0 l b,ag0 l c with
   | some a,some b,some c=>if Nat.beq (rnL l (g+1)) (rnL l g+1)then some (.slr (rnL l g) a b c)else none
   | _,_,_=>none
 | .ptx g a=>(ag0 l a).map (.ptx (rnL l g))
 | .slt g m a b c=>match ag0 l a,ag0 l b,ag0 l c with
   | some a,some b,some c=>if Nat.beq (rnL l (g+1)) (rnL l g+1)then some (.slt (rnL l g) m a b c)else none
   | _,_,_=>none
 | .pta g b m i f=>(ag0 l i).map fun i=> .pta (rnL l g) b m i f
 | .ptv t=>(ag0 l t).map .ptv
 | .vls t=>(aR2 l t).map .vls
 | .ptr g o=>some (.ptr (rnL l g) o)
 | .fn f ls=>some (.fn f (ls.map (rnL l)))
 | .slz _ _ _=>none
 | .map g=>some (.map (rnL l g))
 | x=>some x
theorem cH4{J:Env}{N:Bn}{l:List As}{x y:C}(h:bR5 l x=some y):x.G2 (J.L5 N l) (bnL l N)=y.G2 J N:=by
 cases x with
 | int k t=>
   obtain⟨u,hu,rfl⟩:=aw.1 h;simp only[C.G2,aO3 hu]
 | bool t=>
   obtain⟨u,hu,rfl⟩:=aw.1 h;simp only[C.G2,cH5 hu]
 | str t=>
   obtain⟨u,hu,rfl⟩:=aw.1 h;simp only[C.G2,bi8 hu]
 | slc g o a b=>
   simp only[bR5]at h;split at h
   .rename_i h1 h2;injection h with h;subst h;simp only[C.G2,aO3 h1,aO3 h2];rfl
   .cases h
 | slr g a b c=>
   simp only[bR5]at h;split at h
   .rename_i h1 h2 h3;split at h
    .rename_i q;injection h with h;subst h;simp only[C.G2,aO3 h1,aO3 h2,aO3 h3,bnL,af q]
    .cases h
   .cases h
 | ptx g a=>
   obtain⟨u,hu,rfl⟩:=aw.1 h;simp only[C.G2,aO3 hu];rfl
 | pta g b m i f=>
   obtain⟨u,hu,rfl⟩:=aw.1 h;simp only[C.G2,aO3 hu];rfl
 | ptv t=>
   obtain⟨u,hu,rfl⟩:=aw.1 h;simp only[C.G2,aO3 hu]
 | slt g m a b c=>
   simp only[bR5]at h;split at h
   .rename_i h1 h2 h3;split at h
    .rename_i q;injection h with h;subst h;simp only[C.G2,aO3 h1,aO3 h2,aO3 h3,bnL,af q]
    .cases h
   .cases h
 | fn f ls=>
   injection h with h;subst h;simp only[C.G2,List.map_map];rfl
 | slz _ _ _=>cases h
 | vls t=>
   obtain⟨u,hu,rfl⟩:=aw.1 h;show slV (((u9 (J.L5 N l) t).c.headD []).headD (.bool false))=_;rw[aw3 hu];rfl
 | _=>injection h with h;subst h;rfl
def an2(l:List As):List C->Option (List C)
 | []=>some []
 | x::xs=>match bR5 l x,an2 l xs with
   | some y,some ys=>some (y::ys)
   | _,_=>none
theorem a96{J:Env}{N:Bn}{l:List As}:∀{x y:List C},an2 l x=some y->A5 (J.L5 N l) (bnL l N) x=A5 J N y
 | [],y,h=>by injection h with h;subst h;rfl
 | x::xs,y,h=>by
   simp only[an2]at h;split at h
   .rename_i h1 h2;injection h with h;subst h;show _::A5 _ _ xs=_::A5 _ _ _;rw[cH4 h1,a96 h2]
   .cases h
def dA1(l:List As):V1->Option V1
 | .c x=>(bR5 l x).map .c
 | .agg xs=>(an2 l xs).map .agg
theorem cH2{J:Env}{N:Bn}{l:List As}{x y:V1}(h:dA1 l x=some y):x.W7 (J.L5 N l) (bnL l N)=y.W7 J N:=by
 cases x with
 | c x=>
   obtain⟨u,hu,rfl⟩:=aw.1 h;exact cH4 hu
 | agg x=>
   obtain⟨u,hu,rfl⟩:=aw.1 h;simp only[V1.W7,a96 hu]
def bt7(l:List As):List V1->Option (List V1)
 | []=>some []
 | x::xs=>match dA1 l x,bt7 l xs with
   | some y,some ys=>some (y::ys)
   | _,_=>none
theorem b22{J:Env}{N:Bn}{l:List As}:∀{x y:List V1},bt7 l x=some y->x.map (V1.W7 (J.L5 N l) (bnL l N))=y.map (V1.W7 J N)
 | [],y,h=>by injection h with h;subst h;rfl
 | x::xs,y,h=>by
   simp only[bt7]at h;split at h
   .rename_i h1 h2;injection h with h;subst h;simp only[aW,cH2 h1,b22 h2]
   .cases h
def dQ7(l:List As):SV->Option SV
 | .one x=>(dA1 l x).map .one
 | .tup xs=>(bt7 l xs).map .tup
 | .any n=>some ((svU l n).getD (.any n))
theorem dA2{J:Env}{N:Bn}{l:List As}{x y:SV}(h:dQ7 l x=some y):x.A1 (J.L5 N l) (bnL l N)=y.A1 J N:=by
 cases x with
 | one x=>
   obtain⟨u,hu,rfl⟩:=aw.1 h;exact cH2 hu
 | tup x=>
   obtain⟨u,hu,rfl⟩:=aw.1 h;simp only[SV.A1,b22 hu]
 | any n=>
   injection h with h;subst h;show(match svU l n with|some x=>x.A1 J N|none=>J.u n)=_;cases svU l n<;>rfl
def b23(l:List As):List SV->Option (List SV)
 | []=>some []
 | x::xs=>match dQ7 l x,b23 l xs with
   | some y,some ys=>some (y::ys)
   | _,_=>none
theorem bi7{J:Env}{N:Bn}{l:List As}:∀{x y:List SV},b23 l x=some y->x.map (SV.A1 (J.L5 N l) (bnL l N))=y.map (SV.A1 J N)
 | [],y,h=>by injection h with h;subst h;rfl
 | x::xs,y,h=>by
   simp only[b23]at h;split at h
   .rename_i h1 h2;injection h with h;subst h;simp only[aW,dA2 h1,bi7 h2]
   .cases h
def eb2(l:List As):Option Tm->Option (Option Tm)
 | none=>some none
 | some t=>(b24 l t).map some
def ba0(l:List As):List Ins->Option (List Ins)
 | []=>some []
 | x::xs=>match aR2 l x.t,ba0 l xs with
   | some t,some ys=>some ({ x with t:=t }::ys)
   | _,_=>none
theorem bF7{J:Env}{N:Bn}{l:List As}:∀{x y:List Ins},ba0 l x=some y->(∀ cs,aC2 (J.L5 N l) cs x=aC2 J cs y)/\(insOk J y->insOk (J.L5 N l) x)
 | [],y,h=>by injection h with h;subst h;exact⟨fun _=>rfl,fun _=>fun _ h=>by cases h⟩
 | x::xs,y,h=>by
   simp only[ba0]at h;split at h
   .rename_i t ys h1 h2;injection h with h;subst h;obtain⟨i1,i2⟩:=bF7 (J:=J) (N:=N) h2;have e:=aw3 (J:=J) (N:=N) h1;refine⟨fun cs=>?_,fun hk z hz=>?_⟩
    .simp only[aC2,e,i1]
    .rcases aa.1 hz with rfl|hz
     .rw[e];exact hk _ (ae ..)
     .exact i2 (fun z hz=>hk z (aj _ hz)) z hz
   .cases h
def eF5(l:List As):Xt->Option Xt
 | .no=>some .no
 | .tab lv t=>(aR2 l t).map (.tab lv)
 | .arr ins=>(ba0 l ins).map .arr
 | .mp ks ag v t=>(aR2 l t).map (.mp ks ag v)
 | .own k t=>(aR2 l t).map (.own k)
 | .al _=>none
theorem dA0{l:List As}{x y:Xt}(h:eF5 l x=some y):y.ae6=x.ae6/\(y.isOwn=x.isOwn/\y.cZ1=x.cZ1):=by
 cases x with
 | no=>injection h with h;subst h;exact⟨rfl,rfl,rfl⟩
 | tab lv t=>obtain⟨u,hu,rfl⟩:=aw.1 h;exact⟨rfl,rfl,rfl⟩
 | arr ins=>obtain⟨u,hu,rfl⟩:=aw.1 h;exact⟨rfl,rfl,rfl⟩
 | mp ks ag v t=>obtain⟨u,hu,rfl⟩:=aw.1 h;exact⟨rfl,rfl,rfl⟩
 | own k t=>obtain⟨u,hu,rfl⟩:=aw.1 h;exact⟨rfl,rfl,rfl⟩
 | al t=>cases h
def a97(l:List As)(b:Bk):Option Bk:=
 match an2 l b.cs,eb2 l b.str,eF5 l b.x with
 | some cs,some str,some x=>if Nat.beq (rnL l (b.l+1)) (rnL l b.l+1)then some ⟨rnL l b.l,b.ty,cs,b.rw,str,x⟩else none
 | _,_,_=>none
theorem cC4{l:List As}:∀{x y:List C},an2 l x=some y->x.isEmpty=y.isEmpty
 | [],y,h=>by injection h with h;subst h;rfl
 | x::xs,y,h=>by
   simp only[an2]at h;split at h
   .injection h with h;subst h;rfl
   .cases h
theorem am0{N:Bn}{x:C}(h:∀ l o,x≠ .ptr l o)(g:Nat):¬aI4 N [x] g:=by
 unfold aI4;split
 .rename_i fl o e;injection e with e _;exact absurd e (h fl o)
 .exact id
theorem aa6{N:Bn}{x y:C}{l:List C}(g:Nat):¬aI4 N (x::y::l) g:=by
 unfold aI4;split
 .rename_i fl o e;injection e with _ e;cases e
 .exact id
theorem bT4{l:List As}{cs ys:List C}(h:an2 l cs=some ys)(N:Bn):aI4 (bnL l N) cs=aI4 N ys:=by
 funext g;cases cs with
 | nil=>injection h with h;subst h;rfl
 | cons x xs=>
   simp only[an2]at h;split at h
   .rename_i y ys' h1 h2;injection h with h;subst h;cases xs with
    | nil=>
      injection h2 with h2;subst h2;by_cases hp:∃ f o,x= .ptr f o
      .obtain⟨f,o,rfl⟩:=hp;injection h1 with h1;subst h1;rfl
      .refine propext ⟨fun q=>absurd q (am0 (fun f o e=>hp ⟨f,o,e⟩) g),fun q=>absurd q (am0 (fun f o e=>hp ?_) g)⟩;subst e;cases x<;>simp only[bR5]at h1<;>first
        | (injection h1 with h1;cases h1;done)
        | (injection h1 with h1;exact⟨_,_,h1⟩)
        | (cases h1;done)
        | (obtain⟨u,hu,e⟩:=aw.1 h1;cases e;done)
        | (split at h1<;>first|(cases h1;done)|(injection h1 with h1;cases h1;done)|(split at h1<;>first|(cases h1;done)|(injection h1 with h1;cases h1;done)))
        | exact⟨_,_,rfl⟩
    | cons z zs=>
      simp only[an2]at h2;split at h2
      .injection h2 with h2;subst h2;exact propext ⟨fun q=>absurd q (aa6 g),fun q=>absurd q (aa6 g)⟩
      .cases h2
   .cases h
theorem ag1{J:Env}{N:Bn}{l:List As}{w:World}{x y:Bk}(h:a97 l x=some y):y.l=rnL l x.l/\y.rw=x.rw/\(y.L4=x.L4)/\N (y.l+1)=bnL l N (x.l+1)/\(BkOk J N w y->BkOk (J.L5 N l) (bnL l N) w x)/\y.own=x.own/\aI4 (bnL l N) x.cs=aI4 N y.cs:=by
 unfold a97 at h;split at h
 .rename_i cs str xt h1 h2 h3;split at h
  .rename_i q;have q:=af q;injection h with h;subst h;have ht:=dA0 h3;cases hs:x.str with
   | none=>
     rw[hs]at h2;injection h2 with h2;subst h2;refine⟨rfl,rfl,by unfold Bk.L4;rw[hs,ht.1,ht.2.2],by unfold bnL;rw[q],fun hb=>?_,by unfold Bk.own;rw[hs,ht.2.1],bT4 h1 N⟩;unfold BkOk at hb ⊢;rw[hs];simp only[]at hb ⊢;cases hx:x.x with
     | no=>
       rw[hx]at h3;injection h3 with h3;subst h3;simp only[]at hb ⊢;rw[a96 h1];exact hb
     | tab lv t=>
       rw[hx]at h3;obtain⟨u,hu,rfl⟩:=aw.1 h3;simp only[]at hb ⊢;rw[aw3 hu];unfold bnL;rw[q];exact hb
     | arr ins=>
       rw[hx]at h3;obtain⟨u,hu,rfl⟩:=aw.1 h3;simp only[]at hb ⊢;rw[a96 h1,(bF7 hu).1];exact⟨hb.1,(bF7 hu).2 hb.2⟩
     | mp ks ag v t=>
       rw[hx]at h3;obtain⟨u,hu,rfl⟩:=aw.1 h3;simp only[]at hb ⊢;rw[aw3 hu];exact hb
     | own k t=>
       rw[hx]at h3;obtain⟨u,hu,rfl⟩:=aw.1 h3;simp only[]at hb ⊢;rw[aw3 hu,bT4 h1 N];exact hb
     | al t=>rw[hx]at h3;cases h3
   | some t=>
     rw[hs]at h2;obtain⟨u,hu,rfl⟩:=aw.1 h2;refine⟨rfl,rfl,by unfold Bk.L4;rw[hs];rfl,by unfold bnL;rw[q],fun hb=>?_,by unfold Bk.own;rw[hs];rfl,bT4 h1 N⟩;unfold BkOk at hb ⊢;rw[hs];simp only[]at hb ⊢;rw[bi8 hu,cC4 h1];unfold bnL;rw[q];exact hb
  .cases h
 .cases h
def bC3(n m:Nat):List As:=if Nat.beq n m then []else [.l n m]
def ar4(x y:Tm):List As:=
 match x with
 | .iv n=>if E7 y (.iv n)then []else [.i n y]
 | _=>[]
def eI4:C->C->List As
 | .int _ x, .int _ y=>ar4 x y
 | .bool (.bv n), .bool t=>if E7 t (.bv n)then []else [.b n t]
 | .str (.sv n), .str t=>if E7 t (.sv n)then []else [.s n t]
 | .slr g x y z, .slr h a b c=>bC3 g h++(bC3 (g+1) (h+1)++(ar4 x a++(ar4 y b++ar4 z c)))
 | .slc g _ x y, .slc h _ a b=>bC3 g h++(ar4 x a++ar4 y b)
 | .ptr g _, .ptr h _=>bC3 g h
 | .ptx g x, .ptx h y=>bC3 g h++ar4 x y
 | .slt g _ x y z, .slt h _ a b c=>bC3 g h++(bC3 (g+1) (h+1)++(ar4 x a++(ar4 y b++ar4 z c)))
 | .pta g _ _ x _, .pta h _ _ y _=>bC3 g h++ar4 x y
 | .ptv x, .ptv y=>ar4 x y
 | .vls (.cv n), .vls t=>if E7 t (.cv n)then []else [.c n t]
 | .map g, .map h=>bC3 g h
 | _,_=>[]
def cX4:List C->List C->List As
 | x::xs,y::ys=>eI4 x y++cX4 xs ys
 | _,_=>[]
def eb7:V1->V1->List As
 | .c x, .c y=>eI4 x y
 | .agg x, .agg y=>cX4 x y
 | _,_=>[]
def cX3:List SV->List SV->List As
 | .one x::xs, .one y::ys=>eb7 x y++cX3 xs ys
 | .any n::xs,y::ys=> .u n y::cX3 xs ys
 | _::xs,_::ys=>cX3 xs ys
 | _,_=>[]
def cX2(x y:Tm):List As:=
 match x with
 | .cv n=>if E7 y (.cv n)then []else [.c n y]
 | _=>[]
def bT1:Tm->Tm->List As
 | .iv n,y=>if E7 y (.iv n)then []else [.i n y]
 | .bv n,y=>if E7 y (.bv n)then []else [.b n y]
 | .sv n,y=>if E7 y (.sv n)then []else [.s n y]
 | .cv n,y=>if E7 y (.cv n)then []else [.c n y]
 | .tb _ a b c, .tb _ x y z=>bT1 a x++(bT1 b y++bT1 c z)
 | .ap _ a b c, .ap _ x y z=>bT1 a x++(bT1 b y++bT1 c z)
 | _,_=>[]
def cr0:List Ins->List Ins->List As
 | x::xs,y::ys=>cX2 x.t y.t++cr0 xs ys
 | _,_=>[]
def eI5(x y:Bk):List As:=cX4 x.cs y.cs++((match x.str,y.str with
 | some (.sv n),some t=>if E7 t (.sv n)then []else [.s n t]
 | _,_=>[])++(match x.x,y.x with
 | .tab _ s, .tab _ t=>cX2 s t
 | .arr a, .arr b=>cr0 a b
 | .mp _ _ _ s, .mp _ _ _ t=>cX2 s t
 | .own _ s, .own _ t=>bT1 s t
 | _,_=>[]))
def dG7(m:List As):List Bk->List Bk->List As
 | x::xs,ys=>match ys.find? (fun y=>Nat.beq (rnL m x.l) y.l)with
   | some y=>eI5 x y++dG7 (m++eI5 x y) xs ys
   | none=>dG7 m xs ys
 | [],_=>[]
def eb6(l:List As)(hp:List Bk):Bool:=hp.all fun x=>hp.all fun y=>Nat.beq x.l y.l|| !(Nat.beq (rnL l x.l) (rnL l y.l))
def bH2(n0:Nat):List As->Bool
 | []=>true
 | .l a _::l=>Nat.ble n0 a&&bH2 n0 l
 | _::l=>bH2 n0 l
theorem aa4{n0:Nat}:∀{l:List As},bH2 n0 l=true->∀ n,n<n0->rnL l n=n
 | [],_,_,_=>rfl
 | .l a b::l,h,n,hn=>by
   simp only[bH2,m5]at h;have:=au h.1;simp only[rnL];rw[if_neg (fun e=>by have:=af e;omega)];exact aa4 h.2 n hn
 | .i _ _::l,h,n,hn=>aa4 (l:=l) h n hn
 | .b _ _::l,h,n,hn=>aa4 (l:=l) h n hn
 | .s _ _::l,h,n,hn=>aa4 (l:=l) h n hn
 | .c _ _::l,h,n,hn=>aa4 (l:=l) h n hn
 | .u _ _::l,h,n,hn=>aa4 (l:=l) h n hn
def aA1(n0:Nat)(T s:St):Option (List As):=
 let l0:=cX3 T.tm s.tm
 let l:=l0++dG7 l0 T.hp s.hp
 match b23 l T.tm with
 | some tm=>if bH2 n0 l&&(eb6 l T.hp&&(as8 tm s.tm&&T.hp.all (fun b=>match a97 l b with|some b'=>s.hp.any fun x=>ap3 b' x|none=>false)))then some l else none
 | none=>none
theorem Md.bM3{J:Env}{S:Nat->Prop}{w0:World}{N0:Bn}{n0:Nat}{s T:St}{N:Bn}{a:Act}{w:World}(hM:Md J S w0 N0 n0 s N a w){l:List As}(h:aA1 n0 T s=some l)(hc:T.cx.ok (J.L5 N l)):Md (J.L5 N l) S w0 N0 n0 T (bnL l N) a w:=by
 unfold aA1 at h;simp only[]at h;split at h
 .rename_i tm htm;split at h
  .rename_i q;injection h with h;rw[h]at htm q;simp only[m5]at q;obtain⟨q0,q1,q2,q3⟩:=q;have hk:∀ b∈T.hp,∃ b'∈s.hp,a97 l b=some b':=fun b hb=>by
    have:=av.1 q3 b hb;split at this
    .rename_i b' hb';obtain⟨x,hx,e⟩:=List.any_eq_true.1 this;exact⟨b',by rw[ap2 e];exact hx,hb'⟩
    .cases this
   have hreal:∀ x x',a97 l x=some x'->x.G0 (bnL l N)->x'.G0 N:=fun x x' e hr=>by
    have f:=ag1 (J:=J) (N:=N) (w:=w) e;unfold Bk.G0 at hr ⊢;rw[f.2.2.1,f.2.2.2.1];exact hr
   have hfp:∀ x x',a97 l x=some x'->∀ g,fp (bnL l N) x g↔fp N x' g:=fun x x' e g=>by
    have f:=ag1 (J:=J) (N:=N) (w:=w) e;unfold fp;rw[f.2.2.2.2.2.1,f.2.2.2.2.2.2,f.1];exact Iff.rfl
   refine⟨?_,fun b hb=>?_,fun x hx y hy hxy hrx hry=>?_,fun b hb hrw hr=>?_,hc,hM.only,fun n hn=>?_⟩
   .rw[hM.act,bi7 htm,aw4 q2]
   .obtain⟨b',hb',e⟩:=hk b hb;exact(ag1 e).2.2.2.2.1 (hM.hp b' hb')
   .obtain⟨x',hx',ex⟩:=hk x hx;obtain⟨y',hy',ey⟩:=hk y hy;have fx:=ag1 (J:=J) (N:=N) (w:=w) ex;have fy:=ag1 (J:=J) (N:=N) (w:=w) ey;have hinj:rnL l x.l≠rnL l y.l:=fun e=>by
     have:=av.1 (av.1 q1 x hx) y hy;rw[e,Nat.beq_refl]at this;simp only[Bool.not_true,Bool.or_false]at this;exact hxy (af this)
    have:=hM.ne x' hx' y' hy' (by rw[fx.1,fy.1];exact hinj) (hreal x x' ex hrx) (hreal y y' ey hry);exact fun g gx gy=>this g ((hfp x x' ex g).1 gx) ((hfp y y' ey g).1 gy)
   .obtain⟨b',hb',e⟩:=hk b hb;have f:=ag1 (J:=J) (N:=N) (w:=w) e;exact fun g hg=>hM.may b' hb' (by rw[f.2.1];exact hrw) (hreal b b' e hr) g ((hfp b b' e g).1 hg)
   .show N (rnL l n)=N0 n;rw[aa4 q0 n hn];exact hM.old n hn
  .cases h
 .cases h
def noU:List As->List As
 | []=>[]
 | .u _ _::l=>noU l
 | .l _ _::l=>noU l
 | x::l=>x::noU l
theorem bA4:∀(l:List As) (n:Nat),tmI (noU l) n=tmI l n
 | [],_=>rfl
 | .u _ _::l,n=>bA4 l n
 | .l _ _::l,n=>bA4 l n
 | .i m t::l,n=>by simp only[noU,tmI,bA4 l n]
 | .b m t::l,n=>by simp only[noU,tmI,bA4 l n]
 | .s m t::l,n=>by simp only[noU,tmI,bA4 l n]
 | .c m t::l,n=>by simp only[noU,tmI,bA4 l n]
theorem bA6:∀(l:List As) (n:Nat),tmB (noU l) n=tmB l n
 | [],_=>rfl
 | .u _ _::l,n=>bA6 l n
 | .l _ _::l,n=>bA6 l n
 | .i m t::l,n=>by simp only[noU,tmB,bA6 l n]
 | .b m t::l,n=>by simp only[noU,tmB,bA6 l n]
 | .s m t::l,n=>by simp only[noU,tmB,bA6 l n]
 | .c m t::l,n=>by simp only[noU,tmB,bA6 l n]
theorem bA5:∀(l:List As) (n:Nat),tmC (noU l) n=tmC l n
 | [],_=>rfl
 | .u _ _::l,n=>bA5 l n
 | .l _ _::l,n=>bA5 l n
 | .i m t::l,n=>by simp only[noU,tmC,bA5 l n]
 | .b m t::l,n=>by simp only[noU,tmC,bA5 l n]
 | .s m t::l,n=>by simp only[noU,tmC,bA5 l n]
 | .c m t::l,n=>by simp only[noU,tmC,bA5 l n]
theorem bA3:∀(l:List As) (n:Nat),tmS (noU l) n=tmS l n
 | [],_=>rfl
 | .u _ _::l,n=>bA3 l n
 | .l _ _::l,n=>bA3 l n
 | .i m t::l,n=>by simp only[noU,tmS,bA3 l n]
 | .b m t::l,n=>by simp only[noU,tmS,bA3 l n]
 | .s m t::l,n=>by simp only[noU,tmS,bA3 l n]
 | .c m t::l,n=>by simp only[noU,tmS,bA3 l n]
theorem a43(J:Env)(N:Bn)(l:List As):J.L5 N l= { J.L5 N (noU l)with u:=(J.L5 N l).u }:=by
 simp only[Env.L5,bA4,bA6,bA3,bA5]
theorem Md.aL7{J:Env}{S:Nat->Prop}{w0:World}{N0:Bn}{n0:Nat}{s T:St}{N:Bn}{a:Act}{w:World}(hM:Md J S w0 N0 n0 s N a w){l:List As}(h:(aA1 n0 T s).map noU=some l)(hc:∀ u,T.cx.ok { J.L5 N l with u:=u }):∃ u N',Md { J.L5 N l with u:=u } S w0 N0 n0 T N' a w:=by
 obtain⟨m,hm,rfl⟩:=aw.1 h;refine⟨(J.L5 N m).u,bnL m N,?_⟩;have:=Sy.Md.bM3 hM hm (by rw[a43];exact hc _);rwa[a43]at this
inductive Sh where
 | must (t:Tm) (pc:List Tm)
 | out (k:Nat) (e:Ex) (pc:List Tm)
 | back (l:List As) (pc:List Tm)
 deriving Repr,Inhabited
def shL(n0:Nat)(T:Option St):Nat->List Lf->Option (List Sh)
 | _,[]=>some []
 | k,x::l=>match(match x with
     | .must t s=>some (Sh.must t s.cx.pc)
     | .out .normal s=>match T with
       | none=>some (.out k .normal s.cx.pc)
       | some T=>match aA1 n0 T s with
         | some l=>some (.back (noU l) s.cx.pc)
         | none=>some (.must l4 s.cx.pc)
     | .out e s=>some (.out k e s.cx.pc)),shL n0 T (k+1) l with
   | some y,some ys=>some (y::ys)
   | _,_=>none
def shR(n0:Nat)(T:Option St):Rs->Option (List Sh)
 | .ok l=>shL n0 T 0 l
 | .error _=>none
def I1(r:Rs)(k:Nat):St:=
 match r with
 | .ok l=>match l[k]? with
   | some (.out _ s)=>s
   | _=>⟨[],[],⟨[],[]⟩,0⟩
 | .error _=>⟨[],[],⟨[],[]⟩,0⟩
def Sh.ax5(r:Rs)(B:Bs)(Q:Exit->Act->World->Prop)(again:List As->Bn->Prop):Sh->Prop
 | .must t pc=>A6 B.J pc->(u9 B.J t).b=true
 | .out k e pc=>A6 B.J pc->∀ N a w,B.Md (I1 r k) N a w->Q e.to a w
 | .back l pc=>A6 B.J pc->∀ N,again l N
theorem cn9{T:Option St}{r:Rs}{B:Bs}{Q:Exit->Act->World->Prop}{again:List As->Bn->Prop}(hag:∀ T',T=some T'->∀ l s,aA1 B.n0 T' s=some l->∀ N a w,B.Md s N a w->again (noU l) N->Q .normal a w):
 ∀{l:List Lf} {k:Nat} {ys:List Sh},(∀ j x,l[j]? =some x->∀ e s,x= .out e s->I1 r (k+j)=s)->shL B.n0 T k l=some ys->aC6 (Sh.ax5 r B Q again) ys->LOk B Q l
 | [],_,_,_,_,_=>LOk.nil
 | x::l,k,ys,hat,h,hd=>by
   simp only[shL]at h;split at h
   .rename_i y ys' h1 h2;injection h with h;subst h;intro z hz;rcases aa.1 hz with rfl|hz
    .have hy:=hd.1;cases z with
     | must t s=>
       injection h1 with h1;subst h1;exact fun N a w hM=>hy (aX6 hM.cx.pc)
     | out e s=>
       have hs:=hat 0 _ rfl e s rfl;rw[Nat.add_zero]at hs;have fin:∀ e,y= .out k e s.cx.pc->∀ N a w,B.Md s N a w->Q e.to a w:=fun e he N a w hM=>by
        subst he;exact hy (aX6 hM.cx.pc) N a w (by rw[hs];exact hM)
       cases e with
       | normal=>
         cases hT:T with
         | none=>
           simp only[hT]at h1;injection h1 with h1;exact fin .normal h1.symm
         | some T'=>
           simp only[hT]at h1;split at h1
           .rename_i m ha;injection h1 with h1;subst h1;exact fun N a w hM=>hag T' hT m s ha N a w hM (hy (aX6 hM.cx.pc) N)
           .injection h1 with h1;subst h1;intro N a w hM;have:=hy (aX6 hM.cx.pc);cases this
       | exit n=>
         simp only[]at h1;injection h1 with h1;exact fin (.exit n) h1.symm
       | ret=>
         simp only[]at h1;injection h1 with h1;exact fin .ret h1.symm
    .refine cn9 hag (k:=k+1) (fun j x hx e s he=>?_) h2 hd.2 z hz;have:=hat (j+1) x (by simpa using hx) e s he;rwa[show k+1+j=k+(j+1)from by omega]
   .cases h
theorem a45{T:Option St}{r:Rs}{B:Bs}{Q:Exit->Act->World->Prop}{again:List As->Bn->Prop}(hag:∀ T',T=some T'->∀ l s,aA1 B.n0 T' s=some l->∀ N a w,B.Md s N a w->again (noU l) N->Q .normal a w){ys:List Sh}(h:shR B.n0 T r=some ys)(hd:aC6 (Sh.ax5 r B Q again) ys):∃ l,r= .ok l/\LOk B Q l:=by
 unfold shR at h;split at h
 .rename_i l;refine⟨l,rfl,cn9 (r:= .ok l) (k:=0) hag (fun j x hx e s he=>?_) h hd⟩;subst he;unfold I1;simp only[Nat.zero_add,hx]
 .cases h
theorem bL5{p:Nat->Prop}(h:∃ n,p n):∃ n,p n/\∀ m,p m->n<=m:=by
 obtain⟨n,hn⟩:=h
 induction n using Nat.strongRecOn with
 | _ n ih=>
   by_cases hx:∃ m,m<n/\p m
   .obtain⟨m,hm,hp⟩:=hx;exact ih m hm hp
   .refine⟨n,hn,fun m hm=>?_⟩;rcases Nat.lt_or_ge m n with h|h
    .exact absurd ⟨m,h,hm⟩ hx
    .exact h
def pre:List Nat->Code->Code
 | [],_=> .skip
 | 0::p, .seq a _=>pre p a
 | 1::p, .seq a b=> .seq a (pre p b)
 | 2::p, .block _ a=>pre p a
 | 2::p, .scope a=>pre p a
 | _,_=> .goto 0
def I9:List Nat->Code->Code
 | [],c=>c
 | 0::p, .seq a _=>I9 p a
 | 1::p, .seq _ b=>I9 p b
 | 2::p, .block _ a=>I9 p a
 | 2::p, .scope a=>I9 p a
 | _,c=>c
def Y7(P:Program):List Nat->Code->(Exit->Act->World->Prop)->Exit->Act->World->Prop
 | [],_,Q=>Q
 | 0::p, .seq a b,Q=>Y7 P p a (Exit.then (b.wp P Q) Q)
 | 1::p, .seq _ b,Q=>Y7 P p b Q
 | 2::p, .block id a,Q=>Y7 P p a (Exit.inBlock id Q)
 | 2::p, .scope a,Q=>Y7 P p a (Exit.noGoto Q)
 | _,_,Q=>Q
def aft(e:Ex):List Nat->Code->Code
 | [],_=>match e with
   | .normal=> .skip
   | .exit n=> .exit n
   | .ret=> .ret
 | 0::p, .seq a b=> .seq (aft e p a) b
 | 1::p, .seq _ b=>aft e p b
 | 2::p, .block id a=> .block id (aft e p a)
 | 2::p, .scope a=> .scope (aft e p a)
 | _,_=> .goto 0
def Y9:Code->Code
 | .loop a=>a
 | c=>c
def bL2(n:Nat):List Nat->Code->Prop
 | 0::p, .seq a _=>bL2 n p a
 | 1::p, .seq _ b=>bL2 n p b
 | 2::p, .block id a=>n≠id/\bL2 n p a
 | 2::p, .scope a=>bL2 n p a
 | _,_=>True
def bl5(P:Program)(p:List Nat)(c:Code)(Q:Exit->Act->World->Prop):Exit->Act->World->Prop
 | .normal,a,w=>(I9 p c).wp P (Y7 P p c Q) a w
 | .ret,a,w=>Q .ret a w
 | .exit n,a,w=>bL2 n p c/\Q (.exit n) a w
 | _,_,_=>False
section
variable{P:Program}{B:Bs}{sp:List Spec}{lim n0:Nat}
theorem al1(n:Nat)(c:Code)(s:St):R6 P sp lim (n+1) n0 (.code c) s=aQ6 P lim (R6 P sp lim n) n0 c s:=rfl
theorem b51(hJ:B.J.R8)(hsp:∀ q∈sp,q.Ok P B.J)(hn:B.n0=n0):∀(p:List Nat) (c:Code) (Q:Exit->Act->World->Prop) (fuel:Nat) (s:St) (r:List Lf),R6 P sp lim fuel n0 (.code (pre p c)) s= .ok r->LOk B (bl5 P p c Q) r->∀ N a w,B.Md s N a w->c.wp P Q a w:=by
 intro p
 induction p with
 | nil=>
   intro c Q fuel s r h hl N a w hM;cases fuel with
   | zero=>cases h
   | succ fuel=>
     rw[al1]at h;simp only[pre,aQ6]at h;exact aE7 h hl N a w hM
 | cons d p ih=>
   intro c Q fuel s r h hl N a w hM;cases fuel with
   | zero=>cases h
   | succ fuel=>
     rcases d with _|_|_|d
     .cases c<;>try(cases h;done)
      rename_i x y;refine wp_seq (ih x (Exit.then (y.wp P Q) Q) (fuel+1) s r h (fun z hz=>?_) N a w hM);have:=hl z hz;cases z with
      | must t s=>exact this
      | out e s=>cases e<;>exact this
     .cases c<;>try(cases h;done)
      rename_i x y;rw[al1]at h;simp only[pre,aQ6]at h;obtain⟨l',hl1,hbd⟩:=aW6 h;refine wp_seq (ai8 hJ hsp lim fuel n0 (.code x) s l' hl1 B (Exit.then (y.wp P Q) Q) rfl hn trivial ?_ N a w hM);refine aP3 (B:=B) (B':=B) (Q:=bl5 P (1::p) (.seq x y) Q) rfl (fun s N a w h=>⟨N,a,h⟩) ?_ hbd hl;intro e s1 r1 hf hlr N1 a1 w1 hM1;cases e with
      | normal=>
        refine ih y Q fuel s1 r1 hf (fun z hz=>?_) N1 a1 w1 hM1;have:=hlr z hz;cases z with
        | must t s=>exact this
        | out e s=>cases e<;>exact this
      | exit n=>exact(aJ3 (e:= .exit n) hf hlr _ _ _ hM1).2
      | ret=>exact aJ3 (e:= .ret) hf hlr _ _ _ hM1
     .cases c<;>try(cases h;done)
      .rename_i id x;refine wp_block (ih x (Exit.inBlock id Q) (fuel+1) s r h (fun z hz=>?_) N a w hM);have:=hl z hz;cases z with
       | must t s=>exact this
       | out e s=>cases e with
         | exit n=>exact fun N a w hM=>⟨(this N a w hM).1.2,(by
            show(if n=id then Q .normal a w else Q (.exit n) a w);rw[if_neg (this N a w hM).1.1];exact(this N a w hM).2)⟩
         | normal=>exact this
         | ret=>exact this
      .rename_i x;refine wp_scope_straight (ih x (Exit.noGoto Q) (fuel+1) s r h (fun z hz=>?_) N a w hM);have:=hl z hz;cases z with
       | must t s=>exact this
       | out e s=>cases e<;>exact this
     .cases c<;>cases h
theorem bd6(hJ:B.J.R8)(hsp:∀ q∈sp,q.Ok P B.J)(hn:B.n0=n0)(e:Ex):∀(p:List Nat) (c:Code) (Q:Exit->Act->World->Prop) (fuel:Nat) (s:St) (r:List Lf),R6 P sp lim fuel n0 (.code (aft e p c)) s= .ok r->LOk B Q r->∀ N a w,B.Md s N a w->Y7 P p c Q e.to a w:=by
 intro p
 induction p with
 | nil=>
   intro c Q fuel s r h hl N a w hM;cases fuel with
   | zero=>cases h
   | succ fuel=>
     rw[al1]at h;cases e with
     | normal=>simp only[aft,aQ6]at h;exact aE7 h hl N a w hM
     | exit n=>simp only[aft,aQ6]at h;exact aJ3 (e:= .exit n) h hl N a w hM
     | ret=>simp only[aft,aQ6]at h;exact aJ3 (e:= .ret) h hl N a w hM
 | cons d p ih=>
   intro c Q fuel s r h hl N a w hM;cases fuel with
   | zero=>cases h
   | succ fuel=>
     rcases d with _|_|_|d
     .cases c<;>try(cases h;done)
      rename_i x y;rw[al1]at h;simp only[aft,aQ6]at h;obtain⟨l',hl1,hbd⟩:=aW6 h;refine ih x (Exit.then (y.wp P Q) Q) fuel s l' hl1 ?_ N a w hM;refine aP3 (B:=B) (B':=B) (Q:=Q) rfl (fun s N a w h=>⟨N,a,h⟩) ?_ hbd hl;intro e s1 r1 hf hlr N1 a1 w1 hM1;cases e with
      | normal=>exact ai8 hJ hsp lim fuel n0 (.code y) s1 r1 hf B Q rfl hn trivial hlr N1 a1 w1 hM1
      | exit n=>exact aJ3 (e:= .exit n) hf hlr _ _ _ hM1
      | ret=>exact aJ3 (e:= .ret) hf hlr _ _ _ hM1
     .cases c<;>try(cases h;done)
      rename_i x y;exact ih y Q (fuel+1) s r h hl N a w hM
     .cases c<;>try(cases h;done)
      .rename_i id x;rw[al1]at h;simp only[aft,aQ6]at h;obtain⟨l',hl1,hbd⟩:=aW6 h;refine ih x (Exit.inBlock id Q) fuel s l' hl1 ?_ N a w hM;refine aP3 (B:=B) (B':=B) (Q:=Q) rfl (fun s N a w h=>⟨N,a,h⟩) ?_ hbd hl;intro e s1 r1 hf hlr N1 a1 w1 hM1;cases e with
       | normal=>exact aJ3 (e:= .normal) hf hlr _ _ _ hM1
       | ret=>exact aJ3 (e:= .ret) hf hlr _ _ _ hM1
       | exit n=>
         simp only[]at hf;show(if n=id then Q .normal a1 w1 else Q (.exit n) a1 w1);split at hf
         .rename_i q;rw[if_pos (af q)];exact aE7 hf hlr _ _ _ hM1
         .rename_i q;rw[if_neg (fun h=>q (by rw[h];exact Nat.beq_refl _))];exact aJ3 (e:= .exit n) hf hlr _ _ _ hM1
      .rename_i x;rw[al1]at h;simp only[aft,aQ6]at h;refine ih x (Exit.noGoto Q) fuel s r h (fun z hz=>?_) N a w hM;have:=hl z hz;cases z with
       | must t s=>exact this
       | out e s=>exact fun N a w hM=>bo6 (this N a w hM)
     .cases c<;>cases h
end
theorem ag2{P:Program}{B:Bs}{sp:List Spec}(hJ:B.J.R8)(hsp:∀ q∈sp,q.Ok P B.J){lim fuel n0:Nat}(hn:B.n0=n0){p:List Nat}{c:Code}{s:St}{r:Rs}(hr:r=R6 P sp lim fuel n0 (.code (pre p c)) s){ys:List Sh}(hrun:shR n0 none r=some ys){Q:Exit->Act->World->Prop}(hd:aC6 (Sh.ax5 r B (bl5 P p c Q) fun _ _=>False) ys)
 {N:Bn} {a:Act} {w:World} (hM:B.Md s N a w):c.wp P Q a w:=by
 obtain⟨l,hl,hok⟩:=a45 (fun T' hT=>by cases hT) (hn ▸ hrun) hd;exact b51 hJ hsp hn p c Q fuel s l (hr.symm.trans hl) hok N a w hM
theorem b53{P:Program}{B:Bs}{sp:List Spec}(hJ:B.J.R8)(hsp:∀ q∈sp,q.Ok P B.J){lim fuel n0:Nat}(hn:B.n0=n0)(e:Ex){p:List Nat}{c:Code}{s:St}{r:Rs}(hr:r=R6 P sp lim fuel n0 (.code (aft e p c)) s){ys:List Sh}(hrun:shR n0 none r=some ys){Q:Exit->Act->World->Prop}(hd:aC6 (Sh.ax5 r B Q fun _ _=>False) ys)
 {N:Bn} {a:Act} {w:World} (hM:B.Md s N a w):Y7 P p c Q e.to a w:=by
 obtain⟨l,hl,hok⟩:=a45 (fun T' hT=>by cases hT) (hn ▸ hrun) hd;exact bd6 hJ hsp hn e p c Q fuel s l (hr.symm.trans hl) hok N a w hM
def F7(R:Value->World->Prop):Ending->World->Prop:=fun e w'=>∃ v,e= .returned v/\R v w'
theorem aL9{P:Program}{fn:Func}{R:Value->World->Prop}{B:Bs}{s:St}{N:Bn}{a:Act}{w:World}(hM:B.Md s N a w){v:SV}(hv:aD7 P s fn.results.toList=some v)(hR:R (v.A1 B.J N) w):bodyPost P fn (F7 R) .ret a w:=by
 have:a.defers=[]/\∃ u,(results fn a.tmps).run P w= .ok u w/\∃ v,Ending.returned u= .returned v/\R v w:=
  ⟨by rw[hM.act],v.A1 B.J N,bL1 hM hv,_,rfl,hR⟩
 exact this
theorem bk6{P:Program}{fn:Func}{R:Value->World->Prop}{B:Bs}{l:List Lf}(hR:aC6 (Lf.ag4 P fn B R) l):LOk B (bodyPost P fn (F7 R)) l:=by
 intro x hx;have hd:=am2 hR x hx;cases x with
 | must t s1=>exact hd
 | out e s1=>
   intro N1 a1 w1 h1;unfold Lf.ag4 at hd;have fin:∀ v,aD7 P s1 fn.results.toList=some v->R (v.A1 B.J N1) w1->a1.defers=[]/\∃ u,(results fn a1.tmps).run P w1= .ok u w1/\∃ v,Ending.returned u= .returned v/\R v w1:=
    fun v hv hr=>⟨by rw[h1.act],v.A1 B.J N1,bL1 h1 hv,_,rfl,hr⟩
   cases e with
   | exit n=>exact hd.elim
   | normal=>
     cases hv:aD7 P s1 fn.results.toList with
     | none=>simp only[hv]at hd
     | some v=>simp only[hv]at hd;exact fin v hv (hd N1 a1 w1 h1)
   | ret=>
     cases hv:aD7 P s1 fn.results.toList with
     | none=>simp only[hv]at hd
     | some v=>simp only[hv]at hd;exact fin v hv (hd N1 a1 w1 h1)
theorem aQ5{P:Program}{a:Act}{w:World}:∀(p:List Nat) (c:Code) (Q:Exit->Act->World->Prop),Q .ret a w->Y7 P p c Q .ret a w:=by
 intro p
 induction p with
 | nil=>intro c Q h;exact h
 | cons d p ih=>
   intro c Q h;rcases d with _|_|_|d
   .cases c<;>try exact h
    exact ih _ _ h
   .cases c<;>try exact h
    exact ih _ _ h
   .cases c<;>try exact h
    .exact ih _ _ h
    .exact ih _ _ h
   .cases c<;>exact h
theorem aY4{P:Program}{B:Bs}{sp:List Spec}(hJ:B.J.R8)(hsp:∀ q∈sp,q.Ok P B.J){lim fuel n0:Nat}(hn:B.n0=n0)(e:Ex){p:List Nat}{fn:Func}{s:St}{ys:List Sm}(hrun:smR P fn n0 (R6 P sp lim fuel n0 (.code (aft e p (y7 fn))) s)=some ys){R:Value->World->Prop}(hR:aC6 (Sm.bT6 B R) ys)
 {N:Bn} {a:Act} {w:World} (hM:B.Md s N a w):Y7 P p (y7 fn) (bodyPost P fn (F7 R)) e.to a w:=by
 subst hn;unfold smR at hrun;split at hrun
 .rename_i l hl;exact bd6 hJ hsp rfl e p (y7 fn) _ fuel s l hl (bk6 (ba1 hrun hR)) N a w hM
 .cases hrun
theorem aH2{P:Program}{B:Bs}{sp:List Spec}(hJ:B.J.R8)(hsp:∀ q∈sp,q.Ok P B.J){lim fuel n0:Nat}(hn:B.n0=n0){f:FuncId}{fn:Func}(hf:P.funcs[f]? =some fn)(hb:fn.body.isSome=true){p:List Nat}{xs:List SV}{s:St}{r:Rs}
 (hr:r=R6 P sp lim fuel n0 (.code (pre p (y7 fn))) (L3 fn xs s)) {ys:List Sh} (hrun:shR n0 none r=some ys) {w:World} (hM:B.Md { s with tm:=[] } B.N0 ⟨#[],[]⟩ w) {R:Value->World->Prop} (hd:aC6 (Sh.ax5 r B (bl5 P p (y7 fn) (bodyPost P fn (F7 R))) fun _ _=>False) ys)
 {args:Array Value} (hargs:args=(xs.map (SV.A1 B.J B.N0)).toArray):Calls P f args w (F7 R):=by
 subst hargs;obtain⟨c,hc⟩:=Option.isSome_iff_exists.1 hb;have hbc:y7 fn=c:=by unfold y7;rw[hc];rfl
 refine calls_of_wp hf hc ?_;have hact:(⟨(xs.map (SV.A1 B.J B.N0)).toArray++Array.replicate (fn.ntmps - (xs.map (SV.A1 B.J B.N0)).toArray.size) undef,[]⟩:Act)=⟨((L3 fn xs s).tm.map (SV.A1 B.J B.N0)).toArray,[]⟩:=by
  simp[L3,a93]
 rw[hact,<-hbc];exact ag2 hJ hsp hn hr hrun hd (N:=B.N0) ⟨rfl,hM.hp,hM.ne,hM.may,hM.cx,hM.only,hM.old⟩
theorem Only.dR7{S T:Nat->Prop}{w0 w w':World}(h:Only S w0 w)(k:Only T w w')(hT:∀ i,T i->S i\/w0.heap.size<=i):Only S w0 w':=
 ⟨k.os.trans h.os,k.tape.trans h.tape,k.output.trans h.output,bu h.size k.size,fun i hi hs=>(k.block i (br hi h.size) fun ht=>by
   rcases hT i ht with h|h
   .exact hs h
   .omega).trans (h.block i hi hs)⟩
theorem bZ9{ι:Type}{P:Program}{Q:Exit->Act->World->Prop}{c:Code}(I:ι->Act->World->Prop)(μ:ι->Nat)
 (round:∀ i a w,I i a w->c.wp P (Exit.then (fun a' w'=>∃ j,μ j<μ i/\I j a' w') Q) a w) (i:ι) {a:Act} {w:World} (h:I i a w):(Code.loop c).wp P Q a w:=by
 classical
 let Jj:Act->World->Nat->Prop:=fun a w n=>∃ i,I i a w/\μ i=n
 let m:Act->World->Nat:=fun a w=>if h:∃ n,Jj a w n then(bL5 h).choose else 0
 refine wp_loop (fun a w=>∃ i,I i a w) m ⟨i,h⟩ ?_;rintro a w ⟨i0,hi0⟩;have hx:∃ n,Jj a w n:=⟨μ i0,i0,hi0,rfl⟩;have hm:m a w=(bL5 hx).choose:=dif_pos hx;obtain⟨i,hi,hmi⟩:=(bL5 hx).choose_spec.1;refine wp_mono (round i a w hi) ?_;intro e a' w' hq;cases e with
 | normal=>
   obtain⟨j,hj,hI⟩:=hq;refine⟨⟨j,hI⟩,?_⟩;have hx':∃ n,Jj a' w' n:=⟨μ j,j,hI,rfl⟩;have hm':m a' w'=(bL5 hx').choose:=dif_pos hx';have:(bL5 hx').choose<=μ j:=(bL5 hx').choose_spec.2 _ ⟨j,hI,rfl⟩;omega
 | _=>exact hq
theorem b35{n0:Nat}{T:St}:∀{l:List Lf} {k:Nat} {ys:List Sh},shL n0 (some T) k l=some ys->∀ y∈ys,∀ j pc,y≠ .out j .normal pc
 | [],k,ys,h,y,hy=>by injection h with h;subst h;cases hy
 | x::l,k,ys,h,y,hy=>by
   simp only[shL]at h;split at h
   .rename_i z zs h1 h2;injection h with h;subst h;rcases aa.1 hy with rfl|hy
    .intro j pc e;subst e;cases x with
     | must t s=>cases h1
     | out e s=>
       cases e with
       | normal=>
         simp only[]at h1;split at h1
         .injection h1 with h1;cases h1
         .injection h1 with h1;cases h1
       | exit n=>cases h1
       | ret=>cases h1
    .exact b35 h2 y hy
   .cases h
theorem bT8{α:Type}{p q:α->Prop}:∀{l:List α},(∀ x∈l,p x->q x)->aC6 p l->aC6 q l
 | [],_,_=>trivial
 | x::l,h,hp=>⟨h x (ae ..) hp.1,bT8 (fun y hy=>h y (aj _ hy)) hp.2⟩
def ao1(S:Nat->Prop)(w0:World)(N0:Bn)(n0:Nat)(T:St)(I:Env->Prop)(μ:Env->Nat)(m:Nat):Act->World->Prop:=fun a' w'=>∃ j,μ j<m/\(I j/\∃ N,Md j S w0 N0 n0 T N a' w')
theorem cK0{S:Nat->Prop}{w0:World}{N0:Bn}{n0:Nat}{T:St}{r:Rs}{ys:List Sh}(hrun:shR n0 (some T) r=some ys){Q:Exit->Act->World->Prop}{I:Env->Prop}{μ:Env->Nat}{m:Nat}(hcx:∀ J,I J->T.cx.ok J){J:Env}
 (hd:aC6 (Sh.ax5 r ⟨J,S,w0,N0,n0⟩ Q fun l N=>∀ u,I { J.L5 N l with u:=u }/\μ { J.L5 N l with u:=u }<m) ys):∃ l,r= .ok l/\LOk ⟨J,S,w0,N0,n0⟩ (Exit.then (ao1 S w0 N0 n0 T I μ m) Q) l:=by
 have hno:∀ y∈ys,∀ j pc,y≠ .out j .normal pc:=by
  unfold shR at hrun;split at hrun
  .exact b35 hrun
  .cases hrun
 exact a45 (B:=⟨J,S,w0,N0,n0⟩) (Q:=Exit.then (ao1 S w0 N0 n0 T I μ m) Q) (again:=fun l N=>∀ u,I { J.L5 N l with u:=u }/\μ { J.L5 N l with u:=u }<m)
  (by
    intro T' hT l s hm N a w hM h;injection hT with hT;subst hT;obtain⟨h1,h2⟩:=h (J.L5 N l).u;rw[<-a43]at h1 h2;exact⟨_,h2,h1,_,Sy.Md.bM3 hM hm (hcx _ h1)⟩) hrun (bT8 (fun y hy hd=>by
     cases y with
     | must t pc=>exact hd
     | back l pc=>exact hd
     | out k e pc=>
       cases e with
       | normal=>exact absurd rfl (hno _ hy k pc)
       | exit n=>exact hd
       | ret=>exact hd) hd)
theorem co8{P:Program}{sp:List Spec}{S:Nat->Prop}{w0:World}{N0:Bn}{lim fuel n0:Nat}(e:Ex){p:List Nat}{c:Code}{s T:St}{r:Rs}(hr:r=R6 P sp lim fuel n0 (.code (aft e p c)) s){ys:List Sh}(hrun:shR n0 (some T) r=some ys){Q:Exit->Act->World->Prop}
 {I:Env->Prop} {μ:Env->Nat} {m:Nat} (hcx:∀ J,I J->T.cx.ok J) {J:Env} (hg:J.R8) (hsp:∀ q∈sp,q.Ok P J)
 (hd:aC6 (Sh.ax5 r ⟨J,S,w0,N0,n0⟩ Q fun l N=>∀ u,I { J.L5 N l with u:=u }/\μ { J.L5 N l with u:=u }<m) ys)
 {N:Bn} {a:Act} {w:World} (hM:Md J S w0 N0 n0 s N a w):Y7 P p c (Exit.then (ao1 S w0 N0 n0 T I μ m) Q) e.to a w:=by
 obtain⟨l,hl,hok⟩:=cK0 hrun hcx hd;exact bd6 (B:=⟨J,S,w0,N0,n0⟩) hg hsp rfl e p c _ fuel s l (hr.symm.trans hl) hok N a w hM
theorem bB2{P:Program}{S:Nat->Prop}{w0:World}{N0:Bn}{n0:Nat}{c:Code}{T:St}{Q:Exit->Act->World->Prop}(I:Env->Prop)(μ:Env->Nat)
 (round:∀ J,I J->∀ N a w,Md J S w0 N0 n0 T N a w->c.wp P (Exit.then (ao1 S w0 N0 n0 T I μ (μ J)) Q) a w)
 {J:Env} (hI:I J) {N:Bn} {a:Act} {w:World} (hM:Md J S w0 N0 n0 T N a w):(Code.loop c).wp P Q a w:=
 bZ9 (ι:=Env) (fun J a w=>I J/\∃ N,Md J S w0 N0 n0 T N a w) μ (fun J a w ⟨hI,N,hM⟩=>round J hI N a w hM) J ⟨hI,N,hM⟩
theorem aK0{P:Program}{sp:List Spec}{S:Nat->Prop}{w0:World}{N0:Bn}{lim fuel n0:Nat}{c:Code}{T:St}{r:Rs}(hr:r=R6 P sp lim fuel n0 (.code c) T){ys:List Sh}(hrun:shR n0 (some T) r=some ys){Q:Exit->Act->World->Prop}
 (I:Env->Prop) (μ:Env->Nat) (hg:∀ J,I J->J.R8) (hsp:∀ J,I J->∀ q∈sp,q.Ok P J) (hcx:∀ J,I J->T.cx.ok J)
 (hd:∀ J,I J->aC6 (Sh.ax5 r ⟨J,S,w0,N0,n0⟩ Q fun l N=>∀ u,I { J.L5 N l with u:=u }/\μ { J.L5 N l with u:=u }<μ J) ys)
 {J:Env} (hI:I J) {N:Bn} {a:Act} {w:World} (hM:Md J S w0 N0 n0 T N a w):(Code.loop c).wp P Q a w:=by
 refine bB2 I μ (fun J hI N a w hM=>?_) hI hM;obtain⟨l,hl,hok⟩:=cK0 hrun hcx (hd J hI);exact ai8 (hg J hI) (hsp J hI) lim fuel n0 (.code c) T l (hr.symm.trans hl) ⟨J,S,w0,N0,n0⟩ _ rfl rfl trivial hok N a w hM
#print axioms aK0
end Sy
end Go.Proofs.YtnlcpcmdlcakgaaGreat
namespace Go.Proofs.YtnlcpcmdlcakgaaGreat
open Go.RowKit
abbrev lI:Leaf:=some (some .i64)
abbrev lU:Leaf:=some (some .u32)
abbrev lB:Leaf:=some none
abbrev lS:Leaf:=none
def V3:List Leaf:=[lI,lI,lI,lB,lS,lU,lI,lU,lU,lI,lI,lI,lB,lB,lI,lS,lU,lI,lU,lI,lU,lU,lB,lB,lB,lB,lI,lI,lS,lU,lI,lU,lI,lS,lU,lI,lU,lI,lI,lU,lI,lU,lI,lB,lI]
theorem am8:∀{l:List Leaf} {cs:List Value},T5 l cs->∀{j:Nat} {x:Leaf},l[j]? =some x->∃ v,cs[j]? =some v/\bz0 x v
 | _::_,_::_,h,0,x,hx=>by
   simp at hx;subst hx;exact⟨_,rfl,h.1⟩
 | _::_,_::_,h,j+1,x,hx=>am8 h.2 (by simpa using hx)
 | [],[],_,_,_,hx=>by simp at hx
 | [],_::_,h,_,_,_=>h.elim
 | _::_,[],h,_,_,_=>h.elim
theorem by9{l:List Leaf}{cs:List Value}(h:T5 l cs)(j:Nat){k:IntKind}(hx:l[j]? =some (some (some k))):∃ n,cs[j]? =some (.int k n)/\(Lit.int k n).wf=true:=by
 obtain⟨v,hv,n,rfl,hw⟩:=am8 h hx;exact⟨n,hv,hw⟩
theorem cz2{l:List Leaf}{cs:List Value}(h:T5 l cs)(j:Nat)(hx:l[j]? =some none):∃ s:ByteArray,cs[j]? =some (.string s)/\s.size<=maxLen:=by
 obtain⟨v,hv,n,rfl,hw⟩:=am8 h hx;exact⟨n,hv,hw⟩
def ef0(l:List Leaf)(w:World)(a:Option Addr)(len:Nat)(C:Nat->List Value):Prop:=
 len<=9223372036854775807/\(len=0\/∃ b off,a=some ⟨b,off,none⟩/\b<w.heap.size/\∀ i,i<len->T5 l (C i)/\w.rangeAt b (off+i*l.length) (C i))
abbrev Opened(l:List Leaf)(w:World)(a:Option Addr)(len cap:Nat):Prop:=
 (a=none/\len=0/\cap=0)\/∃ x:Addr,a=some x/\len<=cap/\cap<=maxLen/\(0<len->x.spot=none/\x.block<w.heap.size)/\
   ∃ C:Nat->List Value,∀ i,i<len->T5 l (C i)/\∀ j u,(C i)[j]? =some u->w.cell? (x.add (i*l.length+j))=some u
theorem dh6{l:List Leaf}{w:World}{a:Option Addr}{len cap:Nat}(o:Opened l w a len cap):∃ C,ef0 l w a len C:=by
 rcases o with⟨rfl,rfl,_⟩|⟨x,rfl,hl,hc,h0,C,hC⟩
 .exact⟨fun _=>[],by omega, .inl rfl⟩
 .refine⟨C,by unfold maxLen at hc;omega,?_⟩;rcases Nat.eq_zero_or_pos len with hz|hp
  .exact .inl hz
  .obtain⟨hs,hb⟩:=h0 hp;obtain⟨b,off,spot⟩:=x;simp only at hs hb;subst hs;refine .inr ⟨b,off,rfl,hb,fun i hi=>⟨(hC i hi).1,fun j v hv=>?_⟩⟩;have:=(hC i hi).2 j v hv;rw[Addr.add_mid,<-Nat.add_assoc]at this;exact this
end Go.Proofs.YtnlcpcmdlcakgaaGreat
