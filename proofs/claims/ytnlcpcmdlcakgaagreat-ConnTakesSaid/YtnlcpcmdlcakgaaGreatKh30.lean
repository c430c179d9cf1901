/- A part of the proof that a connection answers as the document says: Cd0. -/
import Derived.Test.YtnlcpcmdlcakgaaGreatKh29
set_option maxRecDepth 100000
set_option maxHeartbeats 4000000
set_option linter.unusedVariables false
set_option linter.unusedSimpArgs false
set_option linter.unusedSectionVars false
open Go.Proofs.Tryz
namespace Go.Proofs.YtnlcpcmdlcakgaaGreat
open Go.RowKit Sy
theorem RtP.bd{w:World}{g:Nat}{m p d:Int}(h:RtP w g m p d):(0<=d/\d<=6)/\(0<=p/\p<=4398046511104)/\(m= -1\/(0<=m/\m<=8796093022208)):=h.2
section
variable{w:World}{g:Nat}{mean spr dbl:Int}
theorem dW3(h:RtP w g mean spr dbl):Calls prog 112 #[.pointer (some ⟨g,0,none⟩)] w (F7 fun v w'=>v= .tuple #[]/\RtP w' g mean spr (aK1 dbl)/\Only (· =g) w w'):=by
 obtain⟨h1,h2,h3,h4⟩:=h;refine(cw0 g mean spr dbl w h1 h2.1 h2.2).mono ?_;rintro e w' ⟨rfl,b1,b2⟩;refine⟨_,rfl,rfl,⟨b1,?_,h3,h4⟩,b2⟩;unfold aK1;split<;>omega
theorem cc6(h:RtP w g mean spr dbl)(r:Int):Calls prog 127 #[.pointer (some ⟨g,0,none⟩), .int .i64 r] w (F7 fun v w'=>v= .int .i64 (if r<0\/1099511627776<r then 1 else 0)/\RtP w' g (smp mean spr dbl r).1 (smp mean spr dbl r).2.1 (smp mean spr dbl r).2.2/\Only (· =g) w w'):=by
 obtain⟨h1,h2,h3,h4⟩:=h;have hb:=bV9 (r:=r) h2 h3 h4;by_cases q:r<0\/1099511627776<r
 .refine(br1 g r w q).mono ?_;rintro e w' ⟨rfl,rfl⟩;have es:smp mean spr dbl r=(mean,spr,dbl):=if_pos q;rw[if_pos q,es];exact⟨_,rfl,rfl,⟨h1,h2,h3,h4⟩,Only.aF4 _ _⟩
 .rw[if_neg q];rcases h4 with rfl|h4
  .refine(bP2 g spr dbl r w h1 U U).mono ?_;rintro e w' ⟨rfl,b1,b2⟩;have es:smp (-1) spr dbl r=(8*r,2*r,0):=by unfold smp;rw[if_neg q,if_pos U]
   rw[es]at hb ⊢;exact⟨_,rfl,rfl,⟨b1,hb.1,hb.2.1,hb.2.2⟩,b2⟩
  .refine(bW9 g mean spr dbl r w h1 U U h4.1 h4.2 h3.1 h3.2).mono ?_;rintro e w' ⟨rfl,b1,b2⟩;have es:smp mean spr dbl r=(mean+(r - mean /8),spr+(af9 (r - mean /8) - spr /4),0):=by unfold smp;rw[if_neg q,if_neg U]
   rw[es]at hb ⊢;exact⟨_,rfl,rfl,⟨b1,hb.1,hb.2.1,hb.2.2⟩,b2⟩
theorem cv5(h:RtP w g mean spr dbl):Calls prog 69 #[.pointer (some ⟨g,0,none⟩)] w (F7 fun v w'=>v= .int .i64 (aT5 (decide (0<=mean)) mean spr dbl)/\Below w.heap.size w w'):=by
 obtain⟨h1,h2,h3,h4⟩:=h;rcases h4 with rfl|h4
 .refine(bw6 g spr dbl w h1 h2.1 h2.2).mono ?_;rintro e w' ⟨rfl,n,rfl⟩;exact⟨_,rfl,rfl,⟨rfl,rfl,rfl,aI _,fun _ _=>rfl⟩⟩
 .refine(bw7 g mean spr dbl w h1 h2.1 h2.2 h4.1 h4.2 h3.1 h3.2).mono ?_;rintro e w' ⟨rfl,n,rfl⟩;rw[aD (p:=0<=mean) h4.1];exact⟨_,rfl,rfl,⟨rfl,rfl,rfl,aI _,fun _ _=>rfl⟩⟩
end
def rtG(s:Sy.St)(l:Nat):Option (TypeId × Nat × Tm × Tm × Tm):=match ay9 s l with
 | some (ty,fl,4,true, .tb (.cons (.int .i64)) m (.tb (.cons (.int .i64)) p (.tb (.cons (.int .i64)) d (.tb .row (.il 0) (.il 0) (.il 0)) (.il 0)) (.il 0)) (.il 0))=>some (ty,fl,m,p,d)
 | _=>none
structure RtAt(J:Env)(N:Bn)(w:World)(s:Sy.St)(l:Nat)(ty:TypeId)(fl:Nat)(m p d:Tm):Prop where
 mem:ownB l fl 4 ty (tmC m p d)∈s.hp
 lt:l+1<s.nx
 P:RtP w (N l) (u9 J m).i (u9 J p).i (u9 J d).i
 F:∀ i,(N fl).testBit i=true↔i∈[N l]
theorem bW5{J:Env}(hO:J.o=cnO){N:Bn}{w:World}{s:Sy.St}{l:Nat}{ty:TypeId}{fl:Nat}{r f L:Tm}(h:rtG s l=some (ty,fl,r,f,L))(hb:∀ b∈s.hp,BkOk J N w b):RtAt J N w s l ty fl r f L:=by
 unfold rtG at h;split at h
 .rename_i ty' fl' r' f' L' hg;injection h with h;injection h with h1 h;injection h with h2 h;injection h with h3 h;injection h with h4 h5;subst h1 h2 h3 h4 h5;obtain⟨hm,hl⟩:=ak6 hg;have B:(J.o 4).P w (N l) (fun i=>(N fl').testBit i=true) (u9 J (tmC r' f' L')).c:=hb _ hm;rw[hO]at B;obtain⟨hP,hF⟩:=B;exact⟨hm,hl,hP,fun i=>(hF i).trans ah.symm⟩
 .cases h
theorem cc7{J:Env}(hO:J.o=cnO){N:Bn}{w w':World}{s:Sy.St}{l:Nat}{ty:TypeId}{fl:Nat}{r f L:Tm}(A:RtAt J N w s l ty fl r f L){r' f' L':Tm}(hG:RtP w' (N l) (u9 J r').i (u9 J f').i (u9 J L').i)(hW:Only (· =N l) w w'):
 ∃ N',Chg J N N' w w' s [] [] [] (some (ownB l s.nx 4 ty (tmC r' f' L'))):=by
 refine⟨_,au0 A.lt (aI _) A.mem A.F (F':=[N l]) ?_ (hW.aj6 fun i _ hi=>ah.2 hi) fun i hi=> .inl hi⟩
 rw[hO];exact⟨hG,fun i=>ah⟩
def ck1(s:Sy.St):List SV->Option Did
 | [.one (.c (.ptr l 0))]=>match rtG s l with
   | some (ty,fl,m,p,d)=>some ⟨[],[],[],[], .tup [],[⟨.ap 107 d i9 i9,0,6⟩],some (ownB l s.nx 4 ty (tmC m p (.ap 107 d i9 i9)))⟩
   | none=>none
 | _=>none
def cj8(s:Sy.St):List SV->Option Did
 | [.one (.c (.ptr l 0))]=>match rtG s l with
   | some (ty,fl,m,p,d)=>some ⟨[],[],[],[],sI1 (a02 m p d),[⟨a02 m p d,2,64⟩],none⟩
   | none=>none
 | _=>none
def ck0(s:Sy.St):List SV->Option Did
 | [.one (.c (.ptr l 0)), .one (.c (.int .i64 r))]=>match rtG s l with
   | some (ty,fl,m,p,d)=>some ⟨F9 s.cx (.le i9 r)++F9 s.cx (.le r qck),[],[],[],sI1 i9,[⟨smM m p d r,-1,8796093022208⟩,⟨smS m p d r,0,4398046511104⟩,⟨smD m p d r,0,6⟩],some (ownB l s.nx 4 ty (tmC (smM m p d r) (smS m p d r) (smD m p d r)))⟩
   | none=>none
 | _=>none
def dP3:Sy.Spec:=R4 112 ck1
def dP0:Sy.Spec:=R4 69 cj8
def dP1:Sy.Spec:=R4 127 ck0
section
variable{J:Env}(hf:J.f=cnF)(hO:J.o=cnO)
include hf
include hO
theorem c40:dP3.Ok prog J:=by
 refine U1 fun{s xs d} hs hc hm {N w} hb hne=>?_
 unfold ck1 at hs;split at hs
 .rename_i l;split at hs
  .rename_i ty fl m p d ho;injection hs with hs;subst hs;have A:=bW5 hO ho hb;refine⟨fun x hx=>?_,?_⟩
   .rw[ah.1 hx];show 0<=(u9 J (.ap 107 d i9 i9)).i/\(u9 J (.ap 107 d i9 i9)).i<=6;rw[bs5 hf];have:=A.P.bd;unfold aK1;split<;>omega
   .refine(dW3 A.P).mono ?_;rintro e w' ⟨v,rfl,rfl,h1,h2⟩;rw[<-bs5 hf]at h1;obtain⟨N',hc'⟩:=cc7 hO A h1 h2;exact⟨N',rfl,hc'⟩
  .cases hs
 .cases hs
theorem c21:dP0.Ok prog J:=by
 refine U1 fun{s xs d} hs hc hm {N w} hb hne=>?_
 unfold cj8 at hs;split at hs
 .rename_i l;split at hs
  .rename_i ty fl m p d ho;injection hs with hs;subst hs;have A:=bW5 hO ho hb;refine⟨fun x hx=>?_,?_⟩
   .rw[ah.1 hx];show 2<=(u9 J (a02 m p d)).i/\(u9 J (a02 m p d)).i<=64;rw[bV4 hf];exact bn4 _
   .refine(cv5 A.P).mono ?_;rintro e w' ⟨v,rfl,rfl,h1⟩;exact⟨N,congrArg Ending.returned (aD3 (bV4 hf m p d).symm),bX5 h1⟩
  .cases hs
 .cases hs
theorem c33:dP1.Ok prog J:=by
 refine U1 fun{s xs d} hs hc hm {N w} hb hne=>?_
 unfold ck0 at hs;split at hs
 .rename_i l r;split at hs
  .rename_i ty fl m p d ho;injection hs with hs;subst hs;have A:=bW5 hO ho hb;have h1:0<=(u9 J r).i:=B2 (z0 hc hm.l);have h2:(u9 J r).i<=1099511627776:=B2 (z0 hc hm.r);obtain⟨b1,b2,b3⟩:=A.P.bd;obtain⟨c1,c2,c3⟩:=bV9 (r:=(u9 J r).i) b1 b2 b3;refine⟨fun x hx=>?_,?_⟩
   .rcases aa.1 hx with rfl|hx
    .show -1<=(u9 J (smM m p d r)).i/\(u9 J (smM m p d r)).i<=8796093022208;rw[br8 hf];omega
    rcases aa.1 hx with rfl|hx
    .show 0<=(u9 J (smS m p d r)).i/\(u9 J (smS m p d r)).i<=4398046511104;rw[br7 hf];omega
    .rw[ah.1 hx];show 0<=(u9 J (smD m p d r)).i/\(u9 J (smD m p d r)).i<=6;rw[br9 hf];omega
   .refine(cc6 A.P (u9 J r).i).mono ?_;rintro e w' ⟨v,rfl,rfl,g1,g2⟩;rw[<-br8 hf,<-br7 hf,<-br9 hf]at g1;obtain⟨N',hc'⟩:=cc7 hO A g1 g2;refine⟨N',?_,hc'⟩;rw[if_neg U];rfl
  .cases hs
 .cases hs
end
def bf5(s:Sy.St)(l:Nat):Option (TypeId × Nat × Tm × Tm × Tm):=match ay9 s l with
 | some (ty,fl,3,true, .tb .app (.tb (.cons (.int .i64)) r (.tb (.cons (.int .i64)) f (.tb .row (.il 0) (.il 0) (.il 0)) (.il 0)) (.il 0)) L (.il 0))=>some (ty,fl,r,f,L)
 | _=>none
structure RiAt(J:Env)(N:Bn)(w:World)(s:Sy.St)(l:Nat)(ty:TypeId)(fl:Nat)(r f L:Tm)(F:List Nat):Prop where
 mem:ownB l fl 3 ty (ac7 r f L)∈s.hp
 lt:l+1<s.nx
 P:RinP w (N l) F (u9 J r).i (u9 J f).i (u9 J L).c
 F:∀ i,(N fl).testBit i=true↔i∈F
theorem bI5{J:Env}(hO:J.o=cnO){N:Bn}{w:World}{s:Sy.St}{l:Nat}{ty:TypeId}{fl:Nat}{r f L:Tm}(h:bf5 s l=some (ty,fl,r,f,L))(hb:∀ b∈s.hp,BkOk J N w b):∃ F,RiAt J N w s l ty fl r f L F:=by
 unfold bf5 at h;split at h
 .rename_i ty' fl' r' f' L' hg;injection h with h;injection h with h1 h;injection h with h2 h;injection h with h3 h;injection h with h4 h5;subst h1 h2 h3 h4 h5;obtain⟨hm,hl⟩:=ak6 hg;have B:(J.o 3).P w (N l) (fun i=>(N fl').testBit i=true) (u9 J (ac7 r' f' L')).c:=hb _ hm;rw[hO]at B;obtain⟨F,hP,hF⟩:=B;exact⟨F,hm,hl,hP,hF⟩
 .cases h
def bD2(w w':World)(g:Nat)(F:List Nat)(r fin:Int)(L:Rws):Prop:=RinP w' g F r fin L/\Only (fun i=>i∈F) w w'
theorem bw4{J:Env}(hO:J.o=cnO){N:Bn}{w w':World}{s:Sy.St}{l:Nat}{ty:TypeId}{fl:Nat}{r f L:Tm}{F:List Nat}(A:RiAt J N w s l ty fl r f L F){r' f' L':Tm}(hG:bD2 w w' (N l) F (u9 J r').i (u9 J f').i (u9 J L').c):
 ∃ N',Chg J N N' w w' s [] [] [] (some (ownB l s.nx 3 ty (ac7 r' f' L'))):=by
 refine⟨_,au0 A.lt (aI _) A.mem A.F (F':=F) ?_ hG.2 fun i hi=> .inl hi⟩
 rw[hO];exact⟨F,hG.1,fun i=>Iff.rfl⟩
theorem by2{g gm:Nat}{w w':World}(h:Only (fun x=>x=g\/x=gm) w w'):Only (fun i=>i∈[g,gm]) w w':=h.aj6 fun i _ hi=>hi.elim (fun e=>by rw[e];exact ae ..) fun e=>by rw[e];exact aj _ (ae ..)
theorem dX4:smR prog f76 4 (R6 prog [af8] 10 400 4 (.code (y7 f76)) (L3 f76 [.one (.c (.ptr 0 0))] ah6))=some [(.ret (.one (.c (.int .i64 (.sub qfm j9)))) [⟨0,135,[(.map 2),(.int .i64 j9),(.int .i64 m8)],true, .none, .no⟩,⟨2,0,[],true, .none,(.mp [(.int .i64)] false (.int .u8) j8)⟩] [])]:=by kernel_rfl
theorem dW0:smR prog f91 4 (R6 prog [af8] 10 400 4 (.code (y7 f91)) (L3 f91 [.one (.c (.ptr 0 0))] ah6))=some [(.ret (.one (.c (.int .i64 (.sub o7 (.sub qfm j9))))) [⟨0,135,[(.map 2),(.int .i64 j9),(.int .i64 m8)],true, .none, .no⟩,⟨2,0,[],true, .none,(.mp [(.int .i64)] false (.int .u8) j8)⟩] [])]:=by kernel_rfl
section
variable{w:World}{g:Nat}{F:List Nat}{r fin:Int}{L:Rws}
theorem RinP.bd(h:RinP w g F r fin L):RxIn L r fin:=by
 obtain⟨gm,h1,h2,h3,h4,rfl⟩:=h;exact h4
theorem bs1{x:Value}{e:Ending}{w':World}{gm:Nat}(h4:RxIn L r fin)(h3:g≠gm)(h:F7 (a59 w g gm L r fin x) e w'):F7 (fun v w'=>v=x/\bD2 w w' g [g,gm] r fin L) e w':=by
 obtain⟨v,rfl,rfl,b1,b2,b3⟩:=h;exact⟨_,rfl,rfl,⟨gm,b1,b2,h3,h4,rfl⟩,by2 b3⟩
theorem cv9(h:RinP w g F r fin L):Calls prog 90 #[.pointer (some ⟨g,0,none⟩)] w (F7 fun v w'=>v= .int .i64 (Z8 L r fin)/\bD2 w w' g F r fin L):=by
 obtain⟨gm,h1,h2,h3,h4,rfl⟩:=h;exact(a05 h4 h1 h2 h3).mono fun e w' q=>bs1 h4 h3 q
theorem cv8(h:RinP w g F r fin L):Calls prog 78 #[.pointer (some ⟨g,0,none⟩)] w (F7 fun v w'=>v= .bool (Z3 L r fin)/\bD2 w w' g F r fin L):=by
 obtain⟨gm,h1,h2,h3,h4,rfl⟩:=h;exact(a04 h4 h1 h2 h3).mono fun e w' q=>bs1 h4 h3 q
theorem ce5(h:RinP w g F r fin L):Calls prog 76 #[.pointer (some ⟨g,0,none⟩)] w (F7 fun v w'=>v= .int .i64 (L1 L r - r)/\bD2 w w' g F r fin L):=by
 obtain⟨gm,h1,h2,h3,h4,rfl⟩:=h;refine Calls.mono (W3 (B:=⟨ae0 L r fin,S2 g gm,w,bn2 g gm,4⟩) (sp:=[af8]) (fun i=>rfl) (a91 rfl) 10 400 func76 rfl [.one (.c (.ptr 0 0))] ah6 _ 4 rfl dX4 (bs0 h4 h1 h2 h3) (R:=a59 w g gm L r fin (.int .i64 (L1 L r - r))) ⟨?_,trivial⟩ rfl) fun e w' q=>bs1 h4 h3 q
 all_goals
  intro hpc N w2 hH;exact bI4 hH rfl
theorem cL7(h:RinP w g F r fin L):Calls prog 91 #[.pointer (some ⟨g,0,none⟩)] w (F7 fun v w'=>v= .int .i64 (2048 - (L1 L r - r))/\bD2 w w' g F r fin L):=by
 obtain⟨gm,h1,h2,h3,h4,rfl⟩:=h;refine Calls.mono (W3 (B:=⟨ae0 L r fin,S2 g gm,w,bn2 g gm,4⟩) (sp:=[af8]) (fun i=>rfl) (a91 rfl) 10 400 func91 rfl [.one (.c (.ptr 0 0))] ah6 _ 4 rfl dW0 (bs0 h4 h1 h2 h3) (R:=a59 w g gm L r fin (.int .i64 (2048 - (L1 L r - r)))) ⟨?_,trivial⟩ rfl) fun e w' q=>bs1 h4 h3 q
 all_goals
  intro hpc N w2 hH;exact bI4 hH rfl
theorem dW7(h:RinP w g F r fin L){at_:Int}{body:ByteArray}{ff:Bool}(a0: -9223372036854775808<=at_)(a1:at_<=9223372036854775807)(hl:body.size<=140737488355328):
 Calls prog 108 #[.pointer (some ⟨g,0,none⟩), .int .i64 at_, .string body, .bool ff] w (F7 fun v w'=>v= .bool (ah4 L r fin at_ body ff)/\bD2 w w' g F r (aF7 L r fin at_ body ff) (W8 L r fin at_ body)):=by
 obtain⟨gm,h1,h2,h3,h4,rfl⟩:=h;have hp:RpIn L r fin at_ body:=⟨h4.g,h4.k,h4.r0,h4.r1,h4.f0,h4.f1,a0,a1,hl⟩;refine(bW7 (ff:=ff) hp h1 h2 h3).mono ?_;rintro e w' ⟨v,rfl,rfl,b1,b2,b3⟩;have hfr:=ao5 (ff:=ff) hp;exact⟨_,rfl,rfl,⟨gm,b1,b2,h3,⟨hp.map.1,hp.map.2,h4.r0,h4.r1,hfr.1,hfr.2⟩,rfl⟩,by2 b3⟩
theorem cv7(h:RinP w g F r fin L){most:Int}(a0: -9223372036854775808<=most)(a1:most<=9223372036854775807):
 Calls prog 77 #[.pointer (some ⟨g,0,none⟩), .int .i64 most] w (F7 fun v w'=>v= .string (rdS (aP5 L) r (rdN L r most).toNat)/\bD2 w w' g F (r+rdN L r most) fin L):=by
 obtain⟨gm,h1,h2,h3,h4,rfl⟩:=h;have hp:RdIn L r fin most:=⟨h4.g,h4.k,h4.r0,h4.r1,h4.f0,h4.f1,a0,a1⟩;refine(bN0 hp h1 h2 h3).mono ?_;rintro e w' ⟨v,rfl,rfl,b1,b2,b3⟩;have hfr:=a28 hp;exact⟨_,rfl,rfl,⟨gm,b1,b2,h3,⟨h4.g,h4.k,by have:=h4.r0;omega,hfr.2.2,h4.f0,h4.f1⟩,rfl⟩,by2 b3⟩
end
def bI6(ans:Tm->Tm->Tm->SV)(bs:Tm->Tm->Tm->List Bd)(s:Sy.St):List SV->Option Did
 | [.one (.c (.ptr l 0))]=>match bf5 s l with
   | some (ty,fl,r,f,L)=>some ⟨[],[],[],[],ans r f L,bs r f L,some (ownB l s.nx 3 ty (ac7 r f L))⟩
   | none=>none
 | _=>none
theorem a68{J:Env}(hO:J.o=cnO){f:FuncId}{ans:Tm->Tm->Tm->SV}{bs:Tm->Tm->Tm->List Bd}(V:Int->Int->Rws->Value)
 (H:∀{w g F r fn L},RinP w g F r fn L->Calls prog f #[.pointer (some ⟨g,0,none⟩)] w (F7 fun v w'=>v=V r fn L/\bD2 w w' g F r fn L))
 (hV:∀{r fn L N},(ans r fn L).A1 J N=V (u9 J r).i (u9 J fn).i (u9 J L).c) (hB:∀{r fn L},RxIn (u9 J L).c (u9 J r).i (u9 J fn).i->X5 J (bs r fn L)):(R4 f (bI6 ans bs)).Ok prog J:=by
 refine U1 fun{s xs d} hs hc hm {N w} hb hne=>?_
 unfold bI6 at hs;split at hs
 .rename_i l;split at hs
  .rename_i ty fl r fn L ho;injection hs with hs;subst hs;obtain⟨F,A⟩:=bI5 hO ho hb;refine⟨hB A.P.bd,?_⟩;refine(H A.P).mono ?_;rintro e w' ⟨v,rfl,rfl,hG⟩;obtain⟨N',hc'⟩:=bw4 hO A hG;exact⟨N',by rw[hV],hc'⟩
  .cases hs
 .cases hs
def ce4:Sy.Spec:=R4 90 (bI6 (fun r f L=>sI1 (nxT r f L)) fun r f L=>[B61 (nxT r f L)])
def ce2:Sy.Spec:=R4 78 (bI6 (fun r f L=> .one (.c (.bool (.ap 34 L r f)))) fun _ _ _=>[])
def cd8:Sy.Spec:=R4 76 (bI6 (fun r f L=>sI1 (aZ3 r L)) fun r f L=>[⟨aZ3 r L,0,1153202979583557632⟩])
def cd4:Sy.Spec:=R4 91 (bI6 (fun r f L=>sI1 (ds5 r L)) fun r f L=>[⟨aZ3 r L,0,1153202979583557632⟩])
def cD7(s:Sy.St):List SV->Option Did
 | [.one (.c (.ptr l 0)), .one (.c (.int .i64 a)), .one (.c (.str b)), .one (.c (.bool ff))]=>match bf5 s l with
   | some (ty,fl,r,f,L)=>some ⟨aU6 s.cx a++F9 s.cx (.le (Q6 s.cx b) qcb),[],[],[], .one (.c (.bool (.ap 52 L (aF6 r f a b ff) i9))),[⟨.ap 51 L (aF6 r f a b ff) i9,0,1153202979583557632⟩],some (ownB l s.nx 3 ty (ac7 r (.ap 51 L (aF6 r f a b ff) i9) (.ap 50 L (aF6 r f a b ff) i9)))⟩
   | none=>none
 | _=>none
def cD6(s:Sy.St):List SV->Option Did
 | [.one (.c (.ptr l 0)), .one (.c (.int .i64 a))]=>match bf5 s l with
   | some (ty,fl,r,f,L)=>some ⟨aU6 s.cx a,[],[],[], .one (.c (.str (.ap 55 L (aH4 r a) i9))),[⟨.ap 58 L (aH4 r a) i9,0,1153202979583557632⟩],some (ownB l s.nx 3 ty (ac7 (.ap 58 L (aH4 r a) i9) f L))⟩
   | none=>none
 | _=>none
def ce0:Sy.Spec:=R4 108 cD7
def cd6:Sy.Spec:=R4 77 cD6
theorem cD8{L:Rws}{r f:Int}(h:RxIn L r f):r<=L1 L r/\L1 L r<=1153202979583557632:=by
 have:=ao6 h.g r;have:=(aR8 h.g r).1;have:=h.k;have:=h.r1;omega
section
variable{J:Env}(hf:J.f=cnF)(hO:J.o=cnO)
include hf
theorem cD3{r L:Tm}{f:Int}(h:RxIn (u9 J L).c (u9 J r).i f):X5 J [⟨aZ3 r L,0,1153202979583557632⟩]:=fun x hx=>by
 rw[ah.1 hx];show 0<=(u9 J (aZ3 r L)).i/\(u9 J (aZ3 r L)).i<=1153202979583557632;rw[a27 hf];have:=cD8 h;have:=h.r0;omega
include hO
theorem ce3:ce4.Ok prog J:=by
 refine a68 hO (fun r f L=>aw1 (Z8 L r f)) cv9 (aD3 (bs4 hf ..)) fun{r f L} h x hx=>?_
 rw[ah.1 hx];show 0<=(u9 J (nxT r f L)).i/\(u9 J (nxT r f L)).i<=2305843009213693952;rw[bs4 hf];have:=cD8 h;have:=h.r0;unfold Z8;split<;>omega
theorem ce1:ce2.Ok prog J:=a68 hO (fun r f L=> .bool (Z3 L r f)) cv8 (au8 (dx9 hf ..)) fun _=>aG5 _
theorem cd7:cd8.Ok prog J:=a68 hO (fun r f L=>aw1 (L1 L r - r)) ce5 (aD3 (a27 hf ..)) fun h=>cD3 hf h
theorem cd3:cd4.Ok prog J:=a68 hO (fun r f L=>aw1 (2048 - (L1 L r - r))) cL7 (aD3 (by show 2048 - (u9 J (aZ3 _ _)).i=_;rw[a27 hf])) fun h=>cD3 hf h
theorem cd9:ce0.Ok prog J:=by
 refine U1 fun{s xs d} hs hc hm {N w} hb hne=>?_
 unfold cD7 at hs;split at hs
 .rename_i l a b ff;split at hs
  .rename_i ty fl r f L ho;injection hs with hs;subst hs;obtain⟨F,A⟩:=bI5 hO ho hb;have ha:=aE4 hc hm.l;have hbs:=B2 (z0 hc hm.r);rw[Q8 hc]at hbs;have hbs':(u9 J b).s.size<=140737488355328:=by
    have e:(u9 J qcb).i=140737488355328:=rfl;omega
   have hC:=dW7 A.P (ff:=(u9 J ff).b) ha.1 ha.2 hbs';have hi:RpIn (u9 J L).c (u9 J r).i (u9 J f).i (u9 J a).i (u9 J b).s:=⟨A.P.bd.g,A.P.bd.k,A.P.bd.r0,A.P.bd.r1,A.P.bd.f0,A.P.bd.f1,ha.1,ha.2,hbs'⟩;have hfin:0<=(u9 J (.ap 51 L (aF6 r f a b ff) i9)).i/\(u9 J (.ap 51 L (aF6 r f a b ff) i9)).i<=1153202979583557632:=by
    rw[bs3 hf];exact ao5 hi
   refine⟨fun x hx=>by rw[ah.1 hx];exact hfin,?_⟩;refine hC.mono ?_;rintro e w' ⟨v,rfl,rfl,hG⟩;rw[<-dL2 hf r f a b ff L,<-bs3 hf r f a b ff L]at hG;obtain⟨N',hc'⟩:=bw4 hO A hG;exact⟨N',congrArg Ending.returned (au8 (dL1 hf r f a b ff L).symm),hc'⟩
  .cases hs
 .cases hs
theorem cd5:cd6.Ok prog J:=by
 refine U1 fun{s xs d} hs hc hm {N w} hb hne=>?_
 unfold cD6 at hs;split at hs
 .rename_i l a;split at hs
  .rename_i ty fl r f L ho;injection hs with hs;subst hs;obtain⟨F,A⟩:=bI5 hO ho hb;have ha:=aE4 hc hm;have hC:=cv7 A.P ha.1 ha.2;have hp:RdIn (u9 J L).c (u9 J r).i (u9 J f).i (u9 J a).i:=⟨A.P.bd.g,A.P.bd.k,A.P.bd.r0,A.P.bd.r1,A.P.bd.f0,A.P.bd.f1,ha.1,ha.2⟩;refine⟨fun x hx=>?_,?_⟩
   .rw[ah.1 hx];show 0<=(u9 J (.ap 58 L (aH4 r a) i9)).i/\(u9 J (.ap 58 L (aH4 r a) i9)).i<=1153202979583557632;rw[cM1 hf];have:=a28 hp;have:=A.P.bd.r0;omega
   refine hC.mono ?_;rintro e w' ⟨v,rfl,rfl,hG⟩;rw[<-cM1 hf r a L]at hG;obtain⟨N',hc'⟩:=bw4 hO A hG;refine⟨N',congrArg Ending.returned ?_,hc'⟩;show _=Value.string (u9 J (.ap 55 L (aH4 r a) i9)).s;rw[dt8 hf]
  .cases hs
 .cases hs
end
theorem dd3{J:Env}(hO:J.o=cnO){f:FuncId}{j:Nat}{ty:TypeId}{t:Tm}(H:∀ w:World,Calls prog f #[] w (F7 fun v w'=>∃(g:Nat) (F:List Nat),v= .pointer (some ⟨g,0,none⟩)/\g∈F/\(∀ i∈F,w.heap.size<=i)/\(cnO j).P w' g (fun i=>i∈F) (u9 J t).c/\Below w.heap.size w w')):(R4 f (ah9 fun n=>ownB n (n+1) j ty t)).Ok prog J:=by
 refine U1 fun{s xs d} hs hc hm {N w} hb hne=>?_
 unfold ah9 at hs;split at hs
 .injection hs with hs;subst hs;refine⟨aG5 _,?_⟩;refine(H w).mono ?_;rintro e w' ⟨v,rfl,g,F,rfl,hgF,hg,hP,hbel⟩;have e0:E8 (E8 N s.nx g) (s.nx+1) (X3 F) s.nx=g:=by rw[B3 U,K7]
  have e1:E8 (E8 N s.nx g) (s.nx+1) (X3 F) (s.nx+1)=X3 F:=K7 ..;refine⟨E8 (E8 N s.nx g) (s.nx+1) (X3 F),?_,Only.aa7 hbel _,fun l hl=>by rw[B3 U,B3 U],fun b hb=>bG,fun b hb'=>?_,fun b hb=>bG,fun b hb' hr q hq=>?_,fun x hx y hy hxy=>?_,fun b hb c hc=>(by cases hc)⟩
  .show _=Ending.returned (.pointer (some ⟨_,0,none⟩));rw[e0]
  .rw[ah.1 hb'];show(J.o j).P w' (E8 (E8 N s.nx g) (s.nx+1) (X3 F) s.nx) (fun i=>(E8 (E8 N s.nx g) (s.nx+1) (X3 F) (s.nx+1)).testBit i=true) _;rw[e0,e1,hO,ai4];exact hP
  .rw[ah.1 hb']at hq;refine .inr ?_;have:=(ao7 (j:=j) (ty:=ty) (t:=t) (F:=F) e1 (by rw[e0];exact hgF) q).1 hq;exact hg _ this
  .rw[ah.1 hx,ah.1 hy]at hxy;exact absurd rfl hxy
 .cases hs
def eO0(nx:Nat):Bk:=ownB nx (nx+1) 3 135 (ac7 l9 i9 tn)
def eN9(nx:Nat):Bk:=ownB nx (nx+1) 4 101 (tmC (.il (-1)) i9 i9)
def bO9:Sy.Spec:=R4 95 (ah9 eO0)
def bO7:Sy.Spec:=R4 21 (ah9 eN9)
theorem dW6:smR prog f95 4 (R6 prog [] 10 400 4 (.code (y7 f95)) (L3 f95 [] ⟨[],[],⟨[],[]⟩,4⟩))=some [(.ret (.one (.c (.ptr 6 0))) [⟨6,135,[(.map 4),(.int .i64 l9),(.int .i64 i9)],true, .none, .no⟩,⟨4,0,[],true, .none,(.mp [(.int .i64)] false (.int .u8) qbx)⟩] [])]:=by kernel_rfl
theorem dW2:smR prog f21 4 (R6 prog [] 10 400 4 (.code (y7 f21)) (L3 f21 [] ⟨[],[],⟨[],[]⟩,4⟩))=some [(.ret qfn [⟨4,101,[(.int .i64 (.il (-1))),(.int .i64 i9),(.int .i64 i9)],true, .none, .no⟩] [])]:=by kernel_rfl
theorem dW8(w:World):Calls prog 95 #[] w (F7 fun v w'=>∃ g F,v= .pointer (some ⟨g,0,none⟩)/\g∈F/\(∀ i∈F,w.heap.size<=i)/\RinP w' g F 1 0 []/\Below w.heap.size w w'):=by
 have hM:Md (U9 [] [] [] []) (fun _=>False) w (fun _=>0) 4 ⟨[],[],⟨[],[]⟩,4⟩ (fun _=>0) ⟨#[],[]⟩ w:=Sy.Md.aj5 ⟨fun _ h=>bF,fun _ h=>bF⟩;refine W3 (B:=⟨U9 [] [] [] [],fun _=>False,w,fun _=>0,4⟩) (sp:=[]) (fun i=>rfl) (fun q hq=>by cases hq) 10 400 func95 rfl [] ⟨[],[],⟨[],[]⟩,4⟩ _ 4 rfl dW6 hM ⟨?_,trivial⟩ rfl;intro _ N w2 hH;have hB:Blk w2 (N 6) 135 (aG3 (N 4) 1 0):=hH.hp _ (ae ..);have hT:MapT w2 (N 4) [.int .i64] false (.int .u8) []:=hH.hp _ (aj _ (ae ..));have hne:N 6≠N 4:=(hH.ne _ (ae ..) _ (aj _ (ae ..)) bA (.inl rfl) (.inl rfl)).ne;have m6:=(hH.bC9 _ (ae ..) rfl (.inl rfl)).elim (fun h=>h.elim) (fun h=>h);have m4:=(hH.bC9 _ (aj _ (ae ..)) rfl (.inl rfl)).elim (fun h=>h.elim) (fun h=>h);refine⟨N 6,[N 6,N 4],rfl,ae ..,fun i hi=>?_,⟨N 4,hB,hT,hne,⟨fun r hr=>(by cases hr),by decide,by decide,by decide,by decide,by decide⟩,rfl⟩,Sy.Only.R9 hH.only⟩;rcases aa.1 hi with rfl|hi
 .exact m6
 .rw[ah.1 hi];exact m4
theorem dW1(w:World):Calls prog 21 #[] w (F7 fun v w'=>∃ g,v= .pointer (some ⟨g,0,none⟩)/\w.heap.size<=g/\RtP w' g (-1) 0 0/\Below w.heap.size w w'):=by
 have hM:Md (U9 [] [] [] []) (fun _=>False) w (fun _=>0) 4 ⟨[],[],⟨[],[]⟩,4⟩ (fun _=>0) ⟨#[],[]⟩ w:=Sy.Md.aj5 ⟨fun _ h=>bF,fun _ h=>bF⟩;refine W3 (B:=⟨U9 [] [] [] [],fun _=>False,w,fun _=>0,4⟩) (sp:=[]) (fun i=>rfl) (fun q hq=>by cases hq) 10 400 func21 rfl [] ⟨[],[],⟨[],[]⟩,4⟩ _ 4 rfl dW2 hM ⟨?_,trivial⟩ rfl;intro _ N w2 hH;refine⟨N 4,rfl,?_,⟨hH.hp _ (ae ..),by decide,by decide, .inl rfl⟩,Sy.Only.R9 hH.only⟩;exact(hH.bC9 _ (ae ..) rfl (.inl rfl)).elim (fun h=>h.elim) (fun h=>h)
section
variable{J:Env}(hO:J.o=cnO)
include hO
theorem bN1:bO9.Ok prog J:=dd3 hO fun w=>(dW8 w).mono fun e w' ⟨v,h1,g,F,h2,h3,h4,h5,h6⟩=>⟨v,h1,g,F,h2,h3,h4,⟨F,h5,fun i=>Iff.rfl⟩,h6⟩
theorem bM9:bO7.Ok prog J:=a77 hO fun w=>(dW1 w).mono fun e w' ⟨v,h1,g,h2,h3,h4,h5⟩=>⟨v,h1,g,h2,h3,⟨h4,fun i=>ah⟩,h5⟩
end
end Go.Proofs.YtnlcpcmdlcakgaaGreat
