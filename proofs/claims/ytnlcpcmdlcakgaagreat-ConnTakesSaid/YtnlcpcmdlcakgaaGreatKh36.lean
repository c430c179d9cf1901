/- A part of the proof that a connection answers as the document says: Cg0 Cg2 Cg3 Cg4. -/
import Derived.Test.YtnlcpcmdlcakgaaGreatKh35
set_option maxRecDepth 100000
set_option maxHeartbeats 4000000
set_option linter.unusedVariables false
set_option linter.unusedSimpArgs false
set_option linter.unusedSectionVars false
open Go.Proofs.Tryz
namespace Go.Proofs.YtnlcpcmdlcakgaaGreat
open Go.RowKit Sy
def c68:List C->Option (Tm × Tm × Tm × Tm × Tm)
 | _::_::_::_::_::_:: .str t:: .bool b:: .int .i64 u:: .int .i64 c:: .int .i64 z::l=>if Nat.beq l.length 22 then some (t,b,u,c,z)else none
 | _=>none
theorem cM3{α:Type}(d:α)(l:List α){n:Nat}(h:l.length=n):(List.range n).map (fun i=>l.getD i d)=l:=by
 apply List.ext_getElem
 .simp[h]
 .intro i h1 h2;simp[List.getD_eq_getElem?_getD,ar h2]
theorem dj9{J:Env}(hg:J.R8){N:Bn}{cs:List C}{t b u c z:Tm}(h:c68 cs=some (t,b,u,c,z)):OutC (A5 J N cs) (u9 J t).s (u9 J b).b (u9 J u).i (u9 J c).i (u9 J z).i:=by
 refine⟨fun i=>?_,?_⟩
 .rw[List.getD_eq_getElem?_getD];cases q:(A5 J N cs)[i]? with
  | none=>rfl
  | some v=>exact al8 hg N cs v (List.mem_of_getElem? q)
 .unfold c68 at h;split at h
  .rename_i x0 x1 x2 x3 x4 x5 t' b' u' c' z' l;split at h
   .rename_i hl;have hl:=af hl;injection h with h;simp only[Prod.mk.injEq]at h;obtain⟨rfl,rfl,rfl,rfl,rfl⟩:=h;have hr:=cM3 (Value.bool false) (A5 J N l) (n:=22) (by unfold A5;rw[aE];exact hl);show C.G2 J N x0::C.G2 J N x1::C.G2 J N x2::C.G2 J N x3::C.G2 J N x4::C.G2 J N x5::Value.string (u9 J t').s:: .bool (u9 J b').b:: .int .i64 (u9 J u').i:: .int .i64 (u9 J c').i:: .int .i64 (u9 J z').i::A5 J N l=_
    conv=>lhs;rw[<-hr]
    rfl
   .cases h
  .cases h
def ck7(s:Sy.St):List SV->Option Did
 | [.one (.c (.ptr l 6)), .one (.c (.int .i64 lo)), .one (.c (.int .i64 limit)), .one (.c (.int .i64 mss))]=>match Sy.aD0 l s.hp with
   | some ⟨_,ty,cs,_,none, .no⟩=>if Nat.beq ty 58 then match c68 cs with
     | some (t,b,u,c,z)=>some ⟨inN s.cx lo 0 1152921504606846976++(aU6 s.cx limit++(inN s.cx mss (-9223372036854775808) 2048++F9 s.cx (.le (Q6 s.cx t) qfi))),[],[],[],cN1 (ouT t b u c z) lo limit mss,cN2 (ouT t b u c z) lo limit mss,none⟩
     | none=>none
     else none
   | _=>none
 | _=>none
def dP7:Sy.Spec:=R4 46 ck7
theorem Ou.cs4(o:Ou){lo limit mss:Int}(h0:0<=lo)(hm:mss<=2048):((o.aD6 lo limit mss).size:Int)<=2048:=by
 unfold Ou.aD6;split
 .show((0:Nat):Int)<=2048;decide
 .rename_i q;have hl:lo≠0:=fun e=>q (.inr e)
  have hsz:(o.all.extract (lo - 1).toNat (lo - 1+pcM ((o.all.size:Int)+1) lo limit mss).toNat).size=min (lo - 1+pcM ((o.all.size:Int)+1) lo limit mss).toNat o.all.size - (lo - 1).toNat:=by simp
  rw[hsz];unfold pcM;omega
theorem c48{J:Env}(hg:J.R8)(hf:J.f=cnF):dP7.Ok prog J:=by
 refine U1 fun{s xs d} hs hc hm {N w} hb hne=>?_
 unfold ck7 at hs;split at hs
 .rename_i l lo limit mss;split at hs
  .rename_i l' ty cs rw' hfo;split at hs
   .rename_i hty;have hty:=af hty;subst hty;split at hs
    .rename_i t b u c z hat;injection hs with hs;subst hs;obtain⟨hd,hl⟩:=U4 hfo;change l'=l at hl;subst hl;have hB:Blk w (N l') 58 (A5 J N cs):=hb _ hd;have hO:=dj9 hg (N:=N) hat;have q1:=aO6 hc hm.l;have q2:=aE4 hc hm.r.l;have q3:=aO6 hc hm.r.r.l;have q4:=B2 (z0 hc hm.r.r.r);rw[Q8 hc]at q4;have e4:(u9 J qfi).i=576460752303423488:=rfl;rw[e4]at q4;have hout:(ouD J t b u c z).all=(u9 J t).s:=rfl;refine⟨fun y hy=>?_,?_⟩
     .rcases aa.1 hy with rfl|hy
      .show 0<=(u9 J (.ap 110 (ouT t b u c z) lo (pr2 limit mss))).i/\(u9 J (.ap 110 (ouT t b u c z) lo (pr2 limit mss))).i<=1152921504606846976;rw[F3 hf];show 0<=(ouD J t b u c z).pAt (u9 J lo).i (u9 J limit).i (u9 J mss).i/\(ouD J t b u c z).pAt (u9 J lo).i (u9 J limit).i (u9 J mss).i<=1152921504606846976;unfold Ou.pAt;split
       .decide
       .exact q1
      .rw[ah.1 hy];show 0<=(((u9 J (.ap 113 (ouT t b u c z) lo (pr2 limit mss))).s.size:Nat):Int)/\(((u9 J (.ap 113 (ouT t b u c z) lo (pr2 limit mss))).s.size:Nat):Int)<=2048;rw[F3 hf];exact⟨by omega,(ouD J t b u c z).cs4 q1.1 q3.2⟩
     .refine(b13 (N l') (u9 J t).s (u9 J b).b (u9 J u).i (u9 J c).i (u9 J z).i (u9 J lo).i (u9 J limit).i (u9 J mss).i ((u9 J t).s.extract ((u9 J lo).i - 1).toNat ((u9 J lo).i - 1+pcM (((u9 J t).s.size:Int)+1) (u9 J lo).i (u9 J limit).i (u9 J mss).i).toNat) w hO hB ⟨by omega,q1.1,q1.2,q2.1,q2.2,q3.1,by omega⟩ (fun _=>rfl)).mono ?_;rintro e w' ⟨v,rfl,rfl,hbel⟩;refine⟨N,?_,Chg.bd7 hbel⟩;rw[pcV'_den hf];exact congrArg Ending.returned (Ou.cs3 (ouD J t b u c z) _ _ _)
    .cases hs
   .cases hs
  .cases hs
 .cases hs
def dP2:List Nat:=[1,1,1,1,1,0,2]
def dgS:List Sy.Spec:=dP7::dcS
def bY7(n:Nat)(t:Tm):Bk:=⟨n,38,[],true,none, .tab aH7 t⟩
def cP8(b k:Nat):SV:= .one (.c (.slt b 13 i9 (.iv k) i9))
def dp0(P:Program)(fn:Func)(has:Bool):Rs:=R6 P dgS 10 400 10 (.code (pre oP1 (y7 fn))) (L3 fn [.one (.c (.ptr 0 0))] ⟨[],a10 0 2 has (tsY j8 has) j5 j6,(V5 has oMr),10⟩)
def dpS(P:Program)(fn:Func)(has:Bool):Sy.St:=au3 (au3 (I1 (dp0 P fn has) 0) 3 60 38 aH7) 4 62 38 aH7
def dpT(P:Program)(fn:Func)(has:Bool):Sy.St:=b18 (dpS P fn has) (Y9 (Sy.I9 oP1 (y7 fn))) [(3,cP8 60 19),(18, .one (.c (.int .i64 (.iv 20))))] [bY7 60 s5] (oaX has) 70
def dp1(P:Program)(fn:Func)(has:Bool):Rs:=R6 P dgS 10 400 10 (.code (Y9 (Sy.I9 oP1 (y7 fn)))) (dpT P fn has)
def dqT(has:Bool)(l:List Tm):Sy.St:=⟨ar2 197 fun i=>if i=0 then some qc9 else if i=3 then some (cP8 60 19)else if i=4 then some (.one (.c (.slt 62 13 i9 i9 i9)))else none,a10 0 2 has (tsY j8 has) j5 j6++[bY7 60 s5,bY7 62 tn],obX has l,70⟩
def dq0(P:Program)(fn:Func)(has:Bool)(l:List Tm):Rs:=R6 P dgS 10 400 10 (.code (pre dP2 (oR fn))) (dqT has l)
def dts(has:Bool):List Tm:=((((tsY j8 has).set 21 (.iv 23)).set 22 (.iv 24)).set 25 s9).set 26 (.iv 22)
def eR7(has:Bool):Bk:=let b:=aX3 0 2 has (dts has) j6;{ b with cs:=b.cs.set 32 .nslc }
def dHp(has:Bool):List Bk:=eR7 has::((((a10 0 2 has (tsY j8 has) j5 j6).drop 1).filter fun b=> !(Nat.beq b.l 4)).map fun b=>if Nat.beq b.l 6 then{ b with cs:=[.ptr 45 0] }else b)++[bY7 60 s5,bY7 62 s7]
def drX(has:Bool):Cx:=⟨⟨.iv 21,0,1152921504606846976⟩::⟨.iv 22,0,1152921504606846976⟩::⟨.sub (.iv 22) s9,0,1152921504606846976⟩::⟨.sub s9 w6,0,1152921504606846976⟩::⟨.sub V8 (.iv 24),0,1099511627776⟩::⟨.iv 23,0,1152921504606846976⟩::⟨.iv 24,0,1099511627776⟩::⟨.iv 25,-4611686018427387904,4611686018427387904⟩::⟨.iv 19,0,1099511627760⟩::⟨.iv 29,0,1000000⟩::⟨L7 s5,0,1099511627760⟩::⟨L7 s7,0,1000000⟩::(V5 has oMr).bs,[.le (.iv 29) (L7 s7), .le (L7 s7) (.iv 29), .le (.iv 19) (L7 s5), .le (L7 s5) (.iv 19), .not qaw,if has then .not qb8 else .eq k4 l9]⟩
def drT(has:Bool):Sy.St:=⟨ar2 197 fun i=>if i=0 then some qc9 else if i=3 then some (cP8 60 19)else if i=4 then some (cP8 62 29)else if i=9 then some (.one (.c (.int .i64 (.iv 25))))else none,dHp has,drX has,100⟩
def dr1(P:Program)(fn:Func)(has:Bool):Rs:=R6 P dgS 10 400 10 (.code (Y9 (Sy.I9 dP2 (oR fn)))) (drT has)
def ds0(P:Program)(fn:Func)(has:Bool):Rs:=R6 P (af7 dlG::dgS) 10 400 10 (.code (aft (.exit 2) dP2 (oR fn))) (drT has)
def dEn:Tm:= .add s9 (.add (.add (.len (.ap 113 kOv s9 kLv)) (.ite qge l9 i9)) (.ite (.ap 112 kOv s9 kLv) l9 i9))
def dFa:Tm:= .ite (.lt (.iv 22) dEn) dEn (.iv 22)
structure DI2(X:Cs)(d:Cn)(out:List Sg)(J:Env):Prop where
 e:OE X J
 like:Cn.Like X.c d
 i21:J.i 21=d.cur
 i22:J.i 22=d.snt
 i23:J.i 23=d.meas
 i24:J.i 24=d.wen
 i25:J.i 25=X.c.K3
 i19:J.i 19=X.R.length
 i29:J.i 29=out.length
 c5:J.c 5=X.R.map fun n=>sgR (X.c.rsG n)
 c6:J.c 6=out.map sgR
 all:out++d.goG X.L X.c.K3=X.c.aW8 X.L
 fin:d.goC X.c.K3=X.c.aK9
 cnt:out.length+(X.c.K3 - d.cur).toNat<=1+(X.c.K3 - X.c.cur).toNat
section
variable{X:Cs}{J:Env}{d:Cn}{out:List Sg}{has:Bool}
theorem DI2.ov(I:DI2 X d out J):aM5 (hd (u9 J kOv))=d.ou:=by
 show(⟨(u9 J y8).s,(u9 J y6).b,(u9 J w6).i,J.i 21,J.i 22⟩:Ou)=d.ou;have e1:(u9 J y8).s=X.c.all:=by rw[I.e.k rfl];rfl
 have e2:(u9 J y6).b=X.c.shut:=by rw[I.e.k rfl];rfl
 have e3:(u9 J w6).i=X.c.una:=by rw[I.e.k rfl];rfl
 rw[e1,e2,e3,I.i21,I.i22];have ee:=I.like.e;rw[ee];rfl
theorem DI2.ms(I:DI2 X d out J):(u9 J k9).i=d.mss:=by
 rw[I.e.k rfl,I.like.e];rfl
theorem DI2.l0(I:DI2 X d out J):z9 (hd (u9 J kLv)) 0=X.c.K3:=I.i25
theorem DI2.l1(I:DI2 X d out J):z9 (hd (u9 J kLv)) 1=d.mss:=I.ms
theorem DI2.is(I:DI2 X d out J):(u9 J qdy).b=d.ou.pIs d.cur X.c.K3 d.mss:=by
 rw[F3 I.e.f,<-I.ov,<-I.i21,<-I.l0,<-I.l1];rfl
theorem DI2.at(I:DI2 X d out J):(u9 J (.ap 110 kOv s9 kLv)).i=d.ou.pAt d.cur X.c.K3 d.mss:=by
 rw[F3 I.e.f,<-I.ov,<-I.i21,<-I.l0,<-I.l1];rfl
theorem DI2.syn(I:DI2 X d out J):(u9 J qge).b=d.ou.aB5 d.cur X.c.K3 d.mss:=by
 rw[F3 I.e.f,<-I.ov,<-I.i21,<-I.l0,<-I.l1];rfl
theorem DI2.fi(I:DI2 X d out J):(u9 J (.ap 112 kOv s9 kLv)).b=d.ou.aI0 d.cur X.c.K3 d.mss:=by
 rw[F3 I.e.f,<-I.ov,<-I.i21,<-I.l0,<-I.l1];rfl
theorem DI2.ee6(I:DI2 X d out J):(u9 J (.ap 113 kOv s9 kLv)).s=d.ou.aD6 d.cur X.c.K3 d.mss:=by
 rw[F3 I.e.f,<-I.ov,<-I.i21,<-I.l0,<-I.l1];rfl
theorem DI2.cA1(I:DI2 X d out J):(u9 J dEn).i=d.ou.aB6 X.c.K3 d.mss:=by
 unfold dEn;rw[z7,z7,z7,A8,aw0,aw0,I.ee6,I.syn,I.fi];show J.i 21+_=d.cur+((d.ou.aD6 d.cur X.c.K3 d.mss).size:Int)+b2 (d.ou.aB5 d.cur X.c.K3 d.mss)+b2 (d.ou.aI0 d.cur X.c.K3 d.mss);rw[I.i21];omega
theorem DI2.far(I:DI2 X d out J):(u9 J dFa).i=max d.snt (d.ou.aB6 X.c.K3 d.mss):=by
 unfold dFa;rw[ae3,I.cA1];show max (J.i 22) _=_;rw[I.i22]
theorem DI2.len(I:DI2 X d out J):(J.c 6).length=out.length:=by rw[I.c6,aE]
def dB1(has:Bool)(m:Tm):List As:=[.i 29 (.add (L7 s7) l9), .i 21 dEn, .i 22 dFa, .i 23 dEn, .i 24 V8, .c 6 (.tb .app s7 (aU3 kOv s9 kLv has m) i9)]
def dB2(has:Bool)(m:Tm):List As:=[.i 29 (.add (L7 s7) l9), .i 21 dEn, .i 22 dFa, .c 6 (.tb .app s7 (aU3 kOv s9 kLv has m) i9)]
theorem DI2.eL1(I:DI2 X d out J)(hr:RgX X.c){has:Bool}(hh:X.c.has=has){m:Tm}(hp:(u9 J qdy).b=true)(hm:(u9 J m).i=if d.ou.aB5 d.cur X.c.K3 d.mss then X.c.own else 0)(N:Bn)(u:Nat->Value):
 (d.meas=0->d.ou.pAt d.cur X.c.K3 d.mss=d.snt->DI2 X (d.Y1 X.c.K3) (out++[d.aP4 X.L d.cur X.c.K3]) { J.L5 N (dB1 has m)with u:=u })/\
 (¬(d.ou.pAt d.cur X.c.K3 d.mss=d.snt/\d.meas=0)->DI2 X (d.Y1 X.c.K3) (out++[d.aP4 X.L d.cur X.c.K3]) { J.L5 N (dB2 has m)with u:=u })/\(X.c.K3 - (d.Y1 X.c.K3).cur).toNat<(X.c.K3 - d.cur).toNat:=by
 have hNj:¬d.ou.pN d.cur X.c.K3 d.mss:=by
  rw[I.is]at hp;unfold Ou.pIs at hp;exact of_decide_eq_true hp
 have h0:=hr.r25.1;have hc:=I.like.cur;have hlt:d.cur<X.c.K3:=by
  have q:=hNj;unfold Ou.pN at q;omega
 obtain⟨g1,g2⟩:=Cn.bM5 hNj U;have hcur:=Cn.aa8 d X.c.K3;obtain⟨o1,o2⟩:=Cn.ca5 (L:=X.L) hNj U;have hrow:=a85 (O:=kOv) (lo:= .iv 21) (l:=kLv) (m:=m) I.e I.ov I.i21 I.l0 I.l1 I.like hh hm;have hlike:=I.like.dJ4 hNj h0;have hall:(out++[d.aP4 X.L d.cur X.c.K3])++(d.Y1 X.c.K3).goG X.L X.c.K3=X.c.aW8 X.L:=by
  rw[<-I.all,o1,List.append_assoc];rfl
 have hfin:(d.Y1 X.c.K3).goC X.c.K3=X.c.aK9:=by rw[<-o2];exact I.fin
 have hcnt:(out++[d.aP4 X.L d.cur X.c.K3]).length+(X.c.K3 - (d.Y1 X.c.K3).cur).toNat<=1+(X.c.K3 - X.c.cur).toNat:=by
  have:=I.cnt;rw[az,hcur];show out.length+1+_<=_;omega
 have h29:((J.c 6).length:Int)+1=((out++[d.aP4 X.L d.cur X.c.K3]).length:Int):=by
  rw[I.len,az];rfl
 have h6:J.c 6++(u9 J (aU3 kOv s9 kLv has m)).c=(out++[d.aP4 X.L d.cur X.c.K3]).map sgR:=by
  rw[hrow,I.c6,bb];rfl
 have hsnt:(d.Y1 X.c.K3).snt=max d.snt (d.ou.aB6 X.c.K3 d.mss):=by unfold Cn.Y1;split<;>rfl
 refine⟨fun q1 q2=>⟨⟨I.e.g,I.e.f,I.e.o,I.e.c0,I.e.c1,I.e.c2⟩,hlike,?_,?_,?_,?_,I.i25,I.i19,h29,I.c5,h6,hall,hfin,hcnt⟩,fun q=>⟨⟨I.e.g,I.e.f,I.e.o,I.e.c0,I.e.c1,I.e.c2⟩,hlike,?_,?_,?_,?_,I.i25,I.i19,h29,I.c5,h6,hall,hfin,hcnt⟩,by rw[hcur];omega⟩
 .show(u9 J dEn).i=_;rw[I.cA1,hcur]
 .show(u9 J dFa).i=_;rw[I.far,hsnt]
 .show(u9 J dEn).i=_;rw[I.cA1];unfold Cn.Y1;rw[if_pos ⟨q2,q1⟩]
 .show(u9 J V8).i=_;unfold Cn.Y1;rw[if_pos ⟨q2,q1⟩,I.e.k rfl];show X.c.now=d.now;rw[I.like.e]
 .show(u9 J dEn).i=_;rw[I.cA1,hcur]
 .show(u9 J dFa).i=_;rw[I.far,hsnt]
 .show J.i 23=_;rw[I.i23];unfold Cn.Y1;rw[if_neg q]
 .show J.i 24=_;rw[I.i24];unfold Cn.Y1;rw[if_neg q]
end
def dRd(s:Sy.St):Option (Tm × List (Nat × Tm) × Tm × Tm × Bool × List Tm × List Nat × Bool):=(crD ⟨[],s.hp,s.cx,s.nx⟩ 0).map fun rd=>(rd.Y,a89 rd.Y rd.ts,rd.L,rd.R,rd.has,rd.ms,rd.drops,ah5 rd.Y)
def cHs(has:Bool):List Tm:=[.not qaw,if has then .not qb8 else .eq k4 l9]
def cDr(has:Bool):List Tm:=c29++(c19++cHs has)
theorem dg8(has:Bool):shR 10 none (dp0 prog f10 has)=some [.out 0 .normal []]:=by cases has<;>kernel_rfl
theorem dg7(has:Bool):shR 10 (some (dpT prog f10 has)) (dp1 prog f10 has)=some [.back oA1 (.lt (.iv 20) (L7 j6)::c19), .out 1 (.exit 0) (.not (.lt (.iv 20) (L7 j6))::c19)]:=by cases has<;>kernel_rfl
theorem dg5(has:Bool):shR 10 none (dq0 prog f10 has [.eq k4 i9])=some [.out 0 .ret (.eq k4 i9::c19)]:=by cases has<;>kernel_rfl
def dE0(n rows l:Tm):List As:=[.i 29 n, .i 25 l, .i 21 y4, .i 22 y5, .i 23 k21, .i 24 k22, .c 6 rows]
def dLm:Tm:= .add w6 qdq 
def af4:Tm:= .lt i9 w6
theorem c38:shR 10 (some (drT true)) (dq0 prog f10 true (cHs true))=some [
 .back (dE0 l9 (aU3 kOu w6 kLo true k8) dLm) (af4::ac6::aL8::k19::(cHs true++c19)),
 .back (dE0 l9 (aU3 kOu w6 kLo true k8) l9) (.not af4::ac6::aL8::k19::(cHs true++c19)),
 .back (dE0 l9 (aU3 kOu w6 kLo true i9) dLm) (af4:: .not ac6::aL8::k19::(cHs true++c19)),
 .back (dE0 l9 (aU3 kOu w6 kLo true i9) l9) (.not af4:: .not ac6::aL8::k19::(cHs true++c19)),
 .back (dE0 i9 tn dLm) (af4:: .not aL8::k19::(cHs true++c19)),
 .back (dE0 i9 tn l9) (.not af4:: .not aL8::k19::(cHs true++c19)),
 .back (dE0 i9 tn dLm) (af4:: .not k19::(cHs true++c19)),
 .back (dE0 i9 tn l9) (.not af4:: .not k19::(cHs true++c19))]:=by kernel_rfl
theorem c39:shR 10 (some (drT false)) (dq0 prog f10 false (cHs false++[.not af4]))=some [
 .back (dE0 l9 (aU3 kOu w6 kLo false k8) l9) (ac6::aL8::k19::(cHs false++(.not af4::c19))),
 .back (dE0 l9 (aU3 kOu w6 kLo false i9) l9) (.not ac6::aL8::k19::(cHs false++(.not af4::c19))),
 .back (dE0 i9 tn l9) (.not aL8::k19::(cHs false++(.not af4::c19))),
 .back (dE0 i9 tn l9) (.not k19::(cHs false++(.not af4::c19)))]:=by kernel_rfl
theorem dg4(has:Bool):shR 10 (some (drT has)) (dr1 prog f10 has)=some [.out 0 (.exit 2) (.not aT6::cDr has),
 .back (dB1 has k8) (.eq (.iv 23) i9:: .eq aT7 (.iv 22)::aq3::aT6::cDr has),
 .back (dB2 has k8) (.not qdf:: .eq aT7 (.iv 22)::aq3::aT6::cDr has),
 .back (dB2 has k8) (.not qd5::aq3::aT6::cDr has),
 .back (dB1 has i9) (.eq (.iv 23) i9:: .eq aT7 (.iv 22):: .not aq3::aT6::cDr has),
 .back (dB2 has i9) (.not qdf:: .eq aT7 (.iv 22):: .not aq3::aT6::cDr has),
 .back (dB2 has i9) (.not qd5:: .not aq3::aT6::cDr has)]:=by cases has<;>kernel_rfl
theorem dg1(has:Bool):shR 10 none (ds0 prog f10 has)=some [.out 0 .ret (k18:: .eq (.iv 29) i9::cDr has), .out 1 .ret (.not k18:: .eq (.iv 29) i9::cDr has), .out 2 .ret (.lt i9 (.iv 29):: .not (.eq (.iv 29) i9)::cDr has), .out 3 .ret (.not (.lt i9 (.iv 29)):: .not (.eq (.iv 29) i9)::cDr has)]:=by cases has<;>kernel_rfl
theorem ea5(has:Bool):(aA1 10 (dpT prog f10 has) (dpS prog f10 has)).map noU=some [.i 19 i9, .i 20 i9, .c 5 tn]:=by cases has<;>kernel_rfl
theorem eR8(has:Bool):(((I1 (dp0 prog f10 has) 0).T8 60&&(I1 (dp0 prog f10 has) 0).T8 61)&&((au3 (I1 (dp0 prog f10 has) 0) 3 60 38 aH7).T8 62&&(au3 (I1 (dp0 prog f10 has) 0) 3 60 38 aH7).T8 63))=true:=by cases has<;>kernel_rfl
theorem dg6:Sy.I9 oP1 (y7 f10)= .loop (Y9 (Sy.I9 oP1 (y7 f10))):=by kernel_rfl
theorem eB7:Sy.I9 [1,1] (y7 f10)= .seq (.seq (Sy.I9 [1,1,0,0] (y7 f10)) (.block 0 (Sy.I9 oP1 (y7 f10)))) (oR f10):=by kernel_rfl
theorem eB8:okP [1,1] (y7 f10)=true:=by kernel_rfl
theorem dg3:Sy.I9 dP2 (oR f10)= .loop (Y9 (Sy.I9 dP2 (oR f10))):=by kernel_rfl
theorem ea4(has:Bool):(aA1 10 (dqT has []) (I1 (dp1 prog f10 has) 1)).map noU=some []:=by cases has<;>kernel_rfl
def dEx:List As:=[.i 21 dEn, .i 22 dFa]
theorem ea3(has:Bool):(aA1 10 (drT has) (I1 (dr1 prog f10 has) 0)).map noU=some dEx:=by cases has<;>kernel_rfl
def dYk(has:Bool):Tm:= .ap 120 (.ap 92 o6 (.ap 91 (.il 26) (.ap 91 (.il 25) (.ap 91 (.il 22) (.ap 91 (.il 21) (.ap 92 (.il 20) (.ap 92 (.il 19) j8 l4) l4) (.iv 23)) (.iv 24)) s9) (.iv 22)) (.bl has)) i9 i9
def bh7(P:Program)(fn:Func)(n:Nat)(s:Sy.St):Option SV × Option Bk × Option (Tm × List (Nat × Tm) × Tm × Tm × Bool × List Tm × List Nat × Bool):=(aD7 P s fn.results.toList,Sy.aD0 n s.hp,dRd s)
def dT1:Tm:= .tb .app s5 s7 i9
def dT0(has:Bool):Tm:= .tb .app s5 (.tb .app s7 (as4 has) i9) i9
def dN1:Tm:= .add (L7 s5) (L7 s7)
theorem eB4(has:Bool):bh7 prog f10 60 (I1 (dq0 prog f10 has [.eq k4 i9]) 0)=(some (oZ 60 (.iv 19)),some (oTb 60 s5),some (.cv 0,[(28, .bl has)], .cv 1,tn,has,[],if has then [2,6,8]else [2],true)):=by cases has<;>kernel_rfl
theorem dg0(has:Bool):bh7 prog f10 (if has then 214 else 162) (I1 (ds0 prog f10 has) 0)=(some (oZ (if has then 214 else 162) (.add dN1 l9)),some (oTb (if has then 214 else 162) (dT0 has)),some (oY has l4,[(28, .bl has)], .cv 1,tn,has,[],if has then [206,210,212,208]else [158,160],true)):=by cases has<;>kernel_rfl
theorem df9(has:Bool):bh7 prog f10 (if has then 108 else 104) (I1 (ds0 prog f10 has) 1)=(some (oZ (if has then 108 else 104) dN1),some (oTb (if has then 108 else 104) dT1),some (dYk has,[(28, .bl has)], .cv 1,tn,has,[],if has then [100,104,106,102]else [100,102],true)):=by cases has<;>kernel_rfl
theorem df8(has:Bool):bh7 prog f10 (if has then 108 else 104) (I1 (ds0 prog f10 has) 2)=(some (oZ (if has then 108 else 104) dN1),some (oTb (if has then 108 else 104) dT1),some (oY has l4,[(28, .bl has)], .cv 1,tn,has,[],if has then [100,104,106,102]else [100,102],true)):=by cases has<;>kernel_rfl
end Go.Proofs.YtnlcpcmdlcakgaaGreat
