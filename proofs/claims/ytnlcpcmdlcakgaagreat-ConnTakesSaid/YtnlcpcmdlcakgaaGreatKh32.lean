/- A part of the proof that a connection answers as the document says: Cf4 Cf5. -/
import Derived.Test.YtnlcpcmdlcakgaaGreatKh31
set_option maxRecDepth 100000
set_option maxHeartbeats 4000000
set_option linter.unusedVariables false
set_option linter.unusedSimpArgs false
set_option linter.unusedSectionVars false
open Go.Proofs.Tryz
namespace Go.Proofs.YtnlcpcmdlcakgaaGreat
open Go.RowKit Sy
def oRd(s:Sy.St):Option (Tm × List (Nat × Tm) × Tm × Tm × Bool × List Tm × List Nat × Bool):=(crP ⟨[],s.hp,s.cx,s.nx⟩ 0).map fun rd=>(rd.Y,a89 rd.Y rd.ts,rd.L,rd.R,rd.has,rd.ms,rd.drops,ah5 rd.Y)
def c19:List Tm:=[.le (.iv 19) (L7 s5), .le (L7 s5) (.iv 19)]
def c29:List Tm:=[.le (.iv 29) (L7 s7), .le (L7 s7) (.iv 29)]
def cOr:List Tm:=c29++[nz4]
def ac6:Tm:= .ap 111 kOu w6 kLo
def aL8:Tm:= .ap 114 kOu w6 kLo
def aT7:Tm:= .ap 110 kOv s9 kLv
abbrev qd5:Tm:= .eq aT7 (.iv 22)
def aq3:Tm:= .ap 111 kOv s9 kLv
def aT6:Tm:= .ap 114 kOv s9 kLv
def oN1:Tm:= .add (L7 s5) l9
def oR1(has:Bool)(m:Tm):Tm:= .tb .app s5 (aU3 kOu w6 kLo has m) i9
def oMi:Tm:= .ite (.lt k35 A2) k35 A2
def oLa:Tm:= .add w6 (.ite (.lt oMi l9) l9 oMi)
def oLb:Tm:= .add w6 oMi
def z24:Tm:= .eq w6 i9
theorem dd0(has:Bool):shR 12 none (oa0 prog f9 has)=some [.out 0 .normal []]:=by cases has<;>kernel_rfl
theorem dc9(has:Bool):shR 12 (some (oaT prog f9 has)) (oa1 prog f9 has)=some [.back oA1 (.lt (.iv 20) (L7 j6)::c19), .out 1 (.exit 0) (.not (.lt (.iv 20) (L7 j6))::c19)]:=by cases has<;>kernel_rfl
theorem dc7(has:Bool):shR 12 none (ob0 prog f9 has [.eq k4 i9])=some [.out 0 .ret (.eq k4 i9::c19)]:=by cases has<;>kernel_rfl
theorem cy0:shR 12 (some (ocT true)) (ob0 prog f9 true (oL true))=some [
 .back (oE0 oN1 (oR1 true k8) l9) (z24::ac6::aL8::k19::nz4::c19),
 .back (oE0 oN1 (oR1 true k8) oLa) (k20:: .not z24::ac6::aL8::k19::nz4::c19),
 .back (oE0 oN1 (oR1 true k8) oLb) (.not k20:: .not z24::ac6::aL8::k19::nz4::c19),
 .back (oE0 oN1 (oR1 true i9) l9) (z24:: .not ac6::aL8::k19::nz4::c19),
 .back (oE0 oN1 (oR1 true i9) oLa) (k20:: .not z24:: .not ac6::aL8::k19::nz4::c19),
 .back (oE0 oN1 (oR1 true i9) oLb) (.not k20:: .not z24:: .not ac6::aL8::k19::nz4::c19),
 .back (oE0 (.iv 19) s5 l9) (z24:: .not aL8::k19::nz4::c19),
 .back (oE0 (.iv 19) s5 oLa) (k20:: .not z24:: .not aL8::k19::nz4::c19),
 .back (oE0 (.iv 19) s5 oLb) (.not k20:: .not z24:: .not aL8::k19::nz4::c19),
 .back (oE0 (.iv 19) s5 l9) (z24:: .not k19::nz4::c19),
 .back (oE0 (.iv 19) s5 oLa) (k20:: .not z24:: .not k19::nz4::c19),
 .back (oE0 (.iv 19) s5 oLb) (.not k20:: .not z24:: .not k19::nz4::c19)]:=by kernel_rfl
theorem cy1:shR 12 (some (ocT false)) (ob0 prog f9 false (oL false))=some [
 .back (oE0 oN1 (oR1 false k8) l9) (ac6::aL8::k19::nz4::z24::c19),
 .back (oE0 oN1 (oR1 false i9) l9) (.not ac6::aL8::k19::nz4::z24::c19),
 .back (oE0 (.iv 19) s5 l9) (.not aL8::k19::nz4::z24::c19),
 .back (oE0 (.iv 19) s5 l9) (.not k19::nz4::z24::c19)]:=by kernel_rfl
theorem dc6(has:Bool):shR 12 (some (ocT has)) (oc1 prog f9 has)=some [.out 0 (.exit 2) (.not aT6::cOr),
 .back (oB1 has k8) (.eq (.iv 23) i9:: .eq aT7 (.iv 22)::aq3::aT6::cOr),
 .back (oB2 has k8) (.not qdf:: .eq aT7 (.iv 22)::aq3::aT6::cOr),
 .back (oB2 has k8) (.not qd5::aq3::aT6::cOr),
 .back (oB1 has i9) (.eq (.iv 23) i9:: .eq aT7 (.iv 22):: .not aq3::aT6::cOr),
 .back (oB2 has i9) (.not qdf:: .eq aT7 (.iv 22):: .not aq3::aT6::cOr),
 .back (oB2 has i9) (.not qd5:: .not aq3::aT6::cOr)]:=by cases has<;>kernel_rfl
def eRR:Tm:= .eq (.iv 29) (.iv 26)
theorem dc4(has:Bool):shR 12 none (od0 prog f9 has)=some [.out 0 .ret (eRR::k18::cOr), .out 1 .ret (.not eRR::k18::cOr), .out 2 .ret (.not k18::cOr)]:=by cases has<;>kernel_rfl
theorem eZ4(has:Bool):(aA1 12 (oaT prog f9 has) (oaS prog f9 has)).map noU=some [.i 19 i9, .i 20 i9, .c 5 tn]:=by cases has<;>kernel_rfl
theorem eP4(has:Bool):((I1 (oa0 prog f9 has) 0).T8 60&&(I1 (oa0 prog f9 has) 0).T8 61)=true:=by cases has<;>kernel_rfl
theorem dc8:Sy.I9 oP1 (y7 f9)= .loop (Y9 (Sy.I9 oP1 (y7 f9))):=by kernel_rfl
theorem dy8:Sy.I9 [1,1] (y7 f9)= .seq (.seq (Sy.I9 [1,1,0,0] (y7 f9)) (.block 0 (Sy.I9 oP1 (y7 f9)))) (oR f9):=by kernel_rfl
theorem dy9:okP [1,1] (y7 f9)=true:=by kernel_rfl
theorem dc5:Sy.I9 oP2 (oR f9)= .loop (Y9 (Sy.I9 oP2 (oR f9))):=by kernel_rfl
theorem eZ3(has:Bool):(aA1 12 (obT has []) (I1 (oa1 prog f9 has) 1)).map noU=some []:=by cases has<;>kernel_rfl
def oEx:List As:=[.i 21 qcr, .i 22 qdg]
theorem eZ2(has:Bool):(aA1 12 (ocT has) (I1 (oc1 prog f9 has) 0)).map noU=some oEx:=by cases has<;>kernel_rfl
def oZ(n:Nat)(t:Tm):SV:= .one (.c (.slt n 13 i9 t i9))
def oTb(n:Nat)(t:Tm):Bk:=⟨n,38,[],true,none, .tab aH7 t⟩
def oY(has:Bool)(ow:Tm):Tm:= .ap 120 (.ap 92 o6 (.ap 91 (.il 26) (.ap 91 (.il 25) (.ap 91 (.il 22) (.ap 91 (.il 21) (.ap 92 (.il 20) (.ap 92 (.il 19) (.ap 92 (.il 18) j8 ow) l4) l4) (.iv 23)) (.iv 24)) s9) (.iv 22)) (.bl has)) i9 i9
def oOw:Tm:= .eq (.add (L7 s7) l9) (.iv 26)
def as4(has:Bool):Tm:=sgT k0 k1 k2 k3 qfe (oAk has) l4 (.bl has) l4 l4 (oWi has) i9 p9
def bg5(P:Program)(fn:Func)(n:Nat)(s:Sy.St):Option SV × Option Bk × Option (Tm × List (Nat × Tm) × Tm × Tm × Bool × List Tm × List Nat × Bool):=(aD7 P s fn.results.toList,Sy.aD0 n s.hp,oRd s)
theorem dx3(has:Bool):bg5 prog f9 60 (I1 (ob0 prog f9 has [.eq k4 i9]) 0)=(some (oZ 60 (.iv 19)),some (oTb 60 s5),some (.cv 0,[(28, .bl has)], .cv 1,tn,has,[],if has then [2,4,8,10]else [2,4],true)):=by cases has<;>kernel_rfl
theorem dc3(has:Bool):bg5 prog f9 (if has then 170 else 140) (I1 (od0 prog f9 has) 0)=(some (oZ (if has then 170 else 140) (.add (L7 s7) l9)),some (oTb (if has then 170 else 140) (.tb .app s7 (as4 has) i9)),some (oY has oOw,[(28, .bl has)], .cv 1,tn,has,[],if has then [172,174,178,180,176]else [142,144,146],true)):=by cases has<;>kernel_rfl
def oFi(has:Bool):Option SV × Option Bk × Option (Tm × List (Nat × Tm) × Tm × Tm × Bool × List Tm × List Nat × Bool):=(some (oZ 60 (.iv 29)),some (oTb 60 s7),some (oY has l4,[(28, .bl has)], .cv 1,tn,has,[],if has then [100,102,106,108,104]else [100,102,104],true))
theorem dc2(has:Bool):bg5 prog f9 60 (I1 (od0 prog f9 has) 1)=oFi has:=by cases has<;>kernel_rfl
theorem dc1(has:Bool):bg5 prog f9 60 (I1 (od0 prog f9 has) 2)=oFi has:=by cases has<;>kernel_rfl
theorem Z0{J:Env}{b:Bd}{l:List Bd}(h:Bd.ok J b)(hl:X5 J l):X5 J (b::l):=fun x hx=>(aa.1 hx).elim (fun e=>e ▸ h) (hl x)
def b99(w:World)(g:Nat)(F:List Nat)(X:Cs)(v:Value)(w':World):Prop:=
 ∃ go co F',v=aC9 go co (X.c.aB3 X.L X.R).length/\RowT w' go co 38 aH7 ((X.c.aB3 X.L X.R).map sgR)/\(co≠0->go∈F\/w.heap.size<=go)/\PcP w' g F' ⟨X.c.aN5,X.L,[]⟩/\Only (fun i=>i∈F) w w'/\(∀ i∈F',i∈F\/w.heap.size<=i)/\(co≠0->go∉F')
section
variable{X:Cs}{J:Env}{d:Cn}{out:List Sg}{k:Nat}{has:Bool}
theorem cn0(E:OE X J):B4 J j8=X.c:=by
 unfold B4;rw[E.h0];rfl
theorem bw0{c:Cn}{b:Bool}(h:c.has=b):E6 J c [(28, .bl b)]=c:=by
 subst h;rfl
theorem cF8(I:OI2 X d out J)(hh:X.c.has=has)(ow:Tm):E6 J (cnY J X.c (oY has ow)) [(28, .bl has)]=({ d with owed:=(u9 J ow).b,again:=false,prb:=false }:Cn).F6:=by
 have e120:∀ Y:Tm,B4 J (.ap 120 Y i9 i9)=(B4 J Y).F6:=fun Y=>by
  unfold B4;rw[F3 I.e.f];rfl
 show E6 J (B4 J (oY has ow)) [(28, .bl has)]=_;unfold oY;rw[e120,X9 I.e.f,c45 I.e.f,aI3 I.e.f,c46 I.e.f,aJ5 I.e.f,aJ6 I.e.f,c47 I.e.f,bF2 I.e.f,cn0 I.e];show E6 J (({ X.c with owed:=(u9 J ow).b,again:=false,prb:=false,meas:=J.i 23,wen:=J.i 24,cur:=J.i 21,snt:=J.i 22,has:=has }:Cn).F6) [(28, .bl has)]=_;rw[bw0 (aG8 _).2,I.i21,I.i22,I.i23,I.i24];have e:({ X.c with owed:=(u9 J ow).b,again:=false,prb:=false,meas:=d.meas,wen:=d.wen,cur:=d.cur,snt:=d.snt,has:=has }:Cn)= { d with owed:=(u9 J ow).b,again:=false,prb:=false }:=by
  subst hh;have ee:=I.like.e;rw[ee]
 rw[e]
theorem by3(h:X.R.length<=1099511627760):X5 (H8 X [] [] []) oMr:=by
 refine Z6 ⟨⟨?_,?_⟩,trivial⟩
 .show(0:Int)<=((Y3 X.R).length:Int);omega
 .show((Y3 X.R).length:Int)<=1099511627760;rw[aT8];omega
structure OAsk(X:Cs)(has:Bool):Prop where
 hh:X.c.has=has
 z:SzX X
 r:RgX X.c
 m:X.R.length<=1099511627760
 u:X.c.has=false->X.c.una=0
theorem OE.bs(E:OE X J)(A:OAsk X has):X5 J (V5 has oMr).bs:=E.bds (by cases has<;>rfl) (Z1 A.hh A.z A.r (by3 A.m)).bs
theorem OAsk.lim(A:OAsk X has):0<=X.c.K3/\X.c.K3<=X.c.una+65536:=by
 have h0:=A.r.r24;have h10:=A.r.r10;have hb:=aL3 X.c.prb;unfold Cn.K3;split
 .omega
 .rename_i h;have hs:X.c.has=true:=by
   cases q:X.c.has with
   | true=>rfl
   | false=>exact absurd (A.u q) h
  obtain⟨_,q,_⟩:=A.r.h hs;omega
theorem OI1.cx(I:OI1 X k J)(A:OAsk X has):(oaX has).ok J:=by
 have hk:=I.hk;have hm:=A.m;have hl:=I.len;have h20:=I.i20;have h19:=I.i19;refine⟨Z0 ⟨?_,?_⟩ (Z0 ⟨?_,?_⟩ (Z0 ⟨?_,?_⟩ (I.e.bs A))),fun t ht=>?_⟩
 .show 0<=J.i 20;omega
 .show J.i 20<=1099511627760;omega
 .show(0:Int)<=((J.c 5).length:Int);omega
 .show((J.c 5).length:Int)<=1099511627760;omega
 .show 0<=J.i 19;omega
 .show J.i 19<=1099511627760;omega
 .rcases aa.1 ht with rfl|ht
  .rw[E5];show J.i 19<=((J.c 5).length:Int);omega
  .rw[ah.1 ht,E5];show((J.c 5).length:Int)<=J.i 19;omega
theorem OI1.cxB(I:OI1 X k J)(A:OAsk X has){l:List Tm}(h:∀ t∈l,(u9 J t).b=true):(obX has l).ok J:=by
 have hk:=I.hk;have hm:=A.m;have hl:=I.len;have h19:=I.i19;refine⟨Z0 ⟨?_,?_⟩ (Z0 ⟨?_,?_⟩ (I.e.bs A)),fun t ht=>?_⟩
 .show(0:Int)<=((J.c 5).length:Int);omega
 .show((J.c 5).length:Int)<=1099511627760;omega
 .show 0<=J.i 19;omega
 .show J.i 19<=1099511627760;omega
 .rcases aC.1 ht with ht|ht
  .exact h t ht
  rcases aa.1 ht with rfl|ht
  .rw[E5];show J.i 19<=((J.c 5).length:Int);omega
  .rw[ah.1 ht,E5];show((J.c 5).length:Int)<=J.i 19;omega
theorem OI2.cx(I:OI2 X d out J)(A:OAsk X has)(hs:¬X.c.st=0):(ocX has).ok J:=by
 have hR:=Like.rg I.like A.r A.z.a;obtain⟨l0,l1⟩:=A.lim;have hu:=A.r.d1;have h24:=A.r.r24;have hm:=A.m;have hl:=I.len;have h21:=I.i21;have h22:=I.i22;have h23:=I.i23;have h24':=I.i24;have h25:=I.i25;have h26:=I.i26;have h29:=I.i29;have hc:=I.cnt;have q21:=hR.r25;have q22:=hR.r26;have q23:=hR.r21;have q24:=hR.r22;have qd:=hR.d3;have hout:out.length<=1759218604000:=by omega
 refine⟨Z0 ⟨?_,?_⟩ (Z0 ⟨?_,?_⟩ (Z0 ⟨?_,?_⟩ (Z0 ⟨?_,?_⟩ (Z0 ⟨?_,?_⟩ (Z0 ⟨?_,?_⟩ (Z0 ⟨?_,?_⟩ (Z0 ⟨?_,?_⟩ (Z0 ⟨?_,?_⟩ (I.e.bs A))))))))),fun t ht=>?_⟩
 .show 0<=J.i 21;omega
 .show J.i 21<=1152921504606846976;omega
 .show 0<=J.i 22;omega
 .show J.i 22<=1152921504606846976;omega
 .show 0<=J.i 22 - J.i 21;omega
 .show J.i 22 - J.i 21<=1152921504606846976;omega
 .show 0<=J.i 23;omega
 .show J.i 23<=1152921504606846976;omega
 .show 0<=J.i 24;omega
 .show J.i 24<=1099511627776;omega
 .show -4611686018427387904<=J.i 25;omega
 .show J.i 25<=4611686018427387904;omega
 .show 0<=J.i 26;omega
 .show J.i 26<=1099511627776;omega
 .show 0<=J.i 29;omega
 .show J.i 29<=1759218604000;omega
 .show(0:Int)<=((J.c 6).length:Int);omega
 .show((J.c 6).length:Int)<=1759218604000;omega
 .rcases aa.1 ht with rfl|ht
  .rw[E5];show J.i 29<=((J.c 6).length:Int);omega
  rcases aa.1 ht with rfl|ht
  .rw[E5];show((J.c 6).length:Int)<=J.i 29;omega
  .rw[ah.1 ht,y9,A9,I.e.k rfl];exact hs
theorem OI2.eK6(I:OI2 X d out J)(hp:(u9 J (.not qdy)).b=true)(hd:d.cur<=d.snt)(N:Bn)(u:Nat->Value):d.ou.pN d.cur X.c.K3 d.mss/\OI2 X d out { J.L5 N oEx with u:=u }:=by
 have hNj:d.ou.pN d.cur X.c.K3 d.mss:=by
  rw[y9,I.is]at hp;unfold Ou.pIs at hp;by_cases q:d.ou.pN d.cur X.c.K3 d.mss
  .exact q
  .exact absurd (aD q) hp
 have he:d.ou.aB6 X.c.K3 d.mss=d.cur:=by
  have s1:d.ou.aB5 d.cur X.c.K3 d.mss=false:=by unfold Ou.aB5;exact aH fun q=>q.1 hNj
  have s2:d.ou.aI0 d.cur X.c.K3 d.mss=false:=by unfold Ou.aI0;rw[if_pos (.inl hNj)]
  have s3:(d.ou.aD6 d.cur X.c.K3 d.mss).size=0:=by unfold Ou.aD6;rw[if_pos (.inl hNj)];rfl
  unfold Ou.aB6;have e3:d.ou.cur=d.cur:=rfl;rw[e3,s1,s2,s3];have k0:b2 false=0:=rfl;omega
 refine⟨hNj,⟨I.e.g,I.e.f,I.e.o,I.e.c0,I.e.c1,I.e.c2⟩,I.like,?_,?_,I.i23,I.i24,I.i25,I.i26,I.i29,I.c6,I.all,I.fin,I.cnt⟩
 .show(u9 J qcr).i=_;rw[I.ca1,he]
 .show(u9 J qdg).i=_;rw[I.far,he];omega
theorem OI2.ed7(I:OI2 X d out J)(hh:X.c.has=has):(u9 J (as4 has)).c=[sgR (d.bI0 X.L d.snt)]:=by
 have E:=I.e;have e0:(u9 J k0).i=X.c.la:=by rw[E.k rfl];rfl
 have e1:(u9 J k1).i=X.c.lp:=by rw[E.k rfl];rfl
 have e2:(u9 J k2).i=X.c.ra:=by rw[E.k rfl];rfl
 have e3:(u9 J k3).i=X.c.rp:=by rw[E.k rfl];rfl
 have e6:(u9 J k6).i=X.c.iss:=by rw[E.k rfl];rfl
 have eA:(u9 J (oAk has)).i=if has then X.c.a22 X.L else 0:=by
  cases has with
  | false=>rfl
  | true=>
    rw[E.k rfl];show(X.c.irs+Z8 X.L X.c.rd X.c.fin % 4294967296) % 4294967296=(X.c.irs+Z8 X.L X.c.rd X.c.fin) % 4294967296;omega
 have eW:(u9 J (oWi has)).i=if has then X.c.bU4 X.L else 2048:=by
  cases has with
  | false=>rfl
  | true=>rw[E.k rfl];rfl
 have eS:(u9 J qfe).i=(X.c.iss+d.snt) % 4294967296:=by
  show((u9 J k6).i+J.i 22 % 4294967296) % 4294967296=_;rw[e6,I.i22];omega
 unfold as4;rw[bh6,e0,e1,e2,e3,eS,eA,eW,I.like.eM1];subst hh;rfl
end
theorem bI9{X:Cs}{J:Env}{has:Bool}(E:OE X J){w w':World}{g:Nat}{a:Pa}{N:Bn}{a':Act}{s:Sy.St}(hh:X.c.has=has)(hM:Md J (fun i=>i∈X4 a g has) w (V0 (fun _=>g) 2 a) 12 s N a' w')
 {Y:Tm} {ch:List (Nat × Tm)} {drops:List Nat} {n:Nat} {l T:Tm} (hk:bg5 prog f9 n s=(some (oZ n l),some (oTb n T),some (Y,ch, .cv 1,tn,has,[],drops,true))) (hd:aS3 n drops=false) (hn:n≠0)
 (hc:E6 J (cnY J X.c Y) ch=X.c.aN5) (hT:(u9 J T).c=(X.c.aB3 X.L X.R).map sgR) (hl:(u9 J l).i=((X.c.aB3 X.L X.R).length:Int)):bodyPost prog f9 (F7 (b99 w g (X4 a g has) X)) .ret a' w':=by
 unfold bg5 at hk;simp only[Prod.mk.injEq]at hk;obtain⟨hr,htb,hrd⟩:=hk;unfold oRd at hrd;obtain⟨rd,hrd1,e⟩:=aw.1 hrd;simp only[Prod.mk.injEq]at e;obtain⟨e1,e2,e3,e4,e5,e6,e7,e8⟩:=e;refine aL9 (B:=⟨J,fun i=>i∈X4 a g has,w,V0 (fun _=>g) 2 a,12⟩) hM hr ?_;obtain⟨a1,W1,h1,h2,h3⟩:=dx0 E.cn E.h0 hM hrd1 e6 e8 bA;rw[e2,e1,e3,e4,hc]at W1;rw[e2,e1,hc]at h1;obtain⟨hb,_⟩:=U4 htb;have hK:RowT w' (N n) (N (n+1)) 38 aH7 (u9 J T).c:=hM.hp _ hb;rw[hT]at hK;have eL:(u9 J j5).c=X.L:=E.c1;rw[eL]at W1;refine⟨N n,N (n+1),X4 a1 g rd.has,?_,hK,fun hc=>hM.may _ hb rfl (.inr hc) _ (I4 N (oTb n T)),⟨a1,W1,?_⟩,hM.only,h2,fun hc q=>?_⟩
 .show C.G2 J N (.slt n 13 i9 l i9)=_;rw[aE6,hl,aK];exact aD2 _ _ _ _
 .show _=X4 a1 g X.c.aN5.has;rw[h1]
 .exact h3 _ hb (by rw[e7];exact hd) hn (.inr hc) (N n) q (I4 N (oTb n T))
end Go.Proofs.YtnlcpcmdlcakgaaGreat
