/- A part of the proof that a connection answers as the document says: SyV. -/
import Derived.Test.YtnlcpcmdlcakgaaGreatKh07
set_option maxRecDepth 100000
set_option maxHeartbeats 4000000
set_option linter.unusedVariables false
set_option linter.unusedSimpArgs false
set_option linter.unusedSectionVars false
namespace Go.Proofs.YtnlcpcmdlcakgaaGreat
namespace Sy
open Go Go.RowKit Go.BigFrame
def au4(hp:List Bk)(l:Nat):Option (List Kd × Tm):=
 match aD0 l hp with
 | some b=>match b.str,b.x with
   | none, .tab lv t=>some (lv,t)
   | _,_=>none
 | none=>none
theorem as7{J:Env}{N:Bn}{w:World}{hp:List Bk}{l:Nat}{lv:List Kd}{t:Tm}(h:au4 hp l=some (lv,t))(hb:∀ b∈hp,BkOk J N w b):∃ ty,RowT w (N l) (N (l+1)) ty lv (u9 J t).c:=by
 unfold au4 at h;split at h
 .rename_i b hf;have hm:=U4 hf;have hB:=hb b hm.1;unfold BkOk at hB;split at h
  .rename_i lv' t' hs hx;injection h with h;injection h with h1 h2;subst h1 h2;rw[hs,hx,hm.2]at hB;exact⟨_,hB⟩
  .cases h
 .cases h
def bc7(c:Cx)(t off len:Tm):List Tm:=F9 c (.le i9 off)++(F9 c (.le i9 len)++F9 c (.le (U0 off len) (aB4 c t)))
theorem bB6{J:Env}{c:Cx}(hc:c.ok J){t off len:Tm}(h:Met J (bc7 c t off len)):0<=(u9 J off).i/\0<=(u9 J len).i/\(u9 J off).i+(u9 J len).i<=((u9 J t).c.length:Int):=by
 have h1:=B2 (z0 hc h.l);have h2:=B2 (z0 hc h.r.l);have h3:=B2 (z0 hc h.r.r);rw[X2,aH1 hc]at h3;exact⟨h1,h2,h3⟩
def aK5(g c m o n z:Nat):Value:=if c=0 then .slice none 0 0 else .slice (some ⟨g,(if c=o then z else o)*m,none⟩) n (c - o)
theorem aE6(J:Env)(N:Bn)(l m:Nat)(off len an:Tm):C.G2 J N (.slt l m off len an)=aK5 (N l) (N (l+1)) m (u9 J off).i.toNat (u9 J len).i.toNat (u9 J an).i.toNat:=rfl
theorem dA7{g c m o n L H z z':Nat}(h1:o+n<=c)(h2:L<=H)(h3:H<=n)(hs:(L=0/\z'=z)\/(o=0/\z'=0)\/L<n\/(0<L/\z'=o)):
 ∃(a:Option Addr) (cap:Nat),aK5 g c m o n z= .slice a n cap/\n<=cap/\sliced a L H cap m=aK5 g c m (o+L) (H - L) z':=by
 unfold aK5;by_cases hc:c=0
 .rw[if_pos hc,if_pos hc];have:n=0:=by omega
  have hL:L=0:=by omega
  have hH:H=0:=by omega
  subst this hL hH;exact⟨none,0,rfl,aI _,rfl⟩
 .rw[if_neg hc,if_neg hc];refine⟨_,_,rfl,by omega,?_⟩;unfold sliced;by_cases hL:L=0
  .subst hL;simp only[Nat.add_zero,Nat.zero_mul,Nat.sub_zero,ba,Go.Addr.add_zero'];by_cases ho:c=o
   .have hz:z'=z:=by
     rcases hs with h|h|h|h<;>omega
    rw[if_pos ho,if_pos ho,hz];split<;>rfl
   .rw[if_neg ho,if_neg ho];split<;>rfl
  .have ho:c≠o:=by omega
   rw[if_neg ho];by_cases hcl:c - o=L
   .have hz:z'=o:=by
     rcases hs with h|h|h|h<;>omega
    subst hz;rw[if_pos hcl,if_pos U];congr 1;omega
   .rw[if_neg hcl,if_neg U,ba,Addr.add_mid];congr 1
    .rw[Nat.add_mul]
    .omega
def b21(P:Program)(c:Cx)(hp:List Bk)(t:TypeId)(l m:Nat)(off len an:Tm)(lo hi:Option (IntKind × Tm)):PR:=
 match au4 hp l,P.underlying t with
 | some (lv,s),some (.slice e)=>
   match P.info? e,cY9 c off len an (aj1 lo)with
   | some i,some z=>
     if Nat.beq i.size m then
      some (bc7 c s off len++(F9 c (.le i9 (aj1 lo))++(F9 c (.le (aj1 lo) (a19 len hi))++F9 c (.le (a19 len hi) len))), .one (.c (.slt l m (U0 off (aj1 lo)) (aB0 (a19 len hi) (aj1 lo)) z)))
     else none
   | _,_=>none
 | _,_=>none
theorem cn2{J:Env}{N:Bn}{P:Program}{c:Cx}(hc:c.ok J){hp:List Bk}{w:World}(hb:∀ b∈hp,BkOk J N w b){t:TypeId}{l sz:Nat}{off len an:Tm}{lo hi:Option (IntKind × Tm)}{m:List Tm}{r:SV}
 (h:b21 P c hp t l sz off len an lo hi=some (m,r)) (hm:Met J m):
 (Instr.sliceAt t (C.G2 J N (.slt l sz off len an)) (lo.map fun p=>Value.int p.1 (u9 J p.2).i) (hi.map fun p=>Value.int p.1 (u9 J p.2).i) none).run P w= .ok (r.A1 J N) w:=by
 unfold b21 at h;split at h
 .rename_i lv s e hf ht;obtain⟨ty,hB⟩:=as7 hf hb;split at h
  .rename_i i z hi' hz;split at h
   .rename_i q;have q1:=af q;injection h with h;injection h with e1 e2;subst e1 e2;obtain⟨b1,b2,b3⟩:=bB6 hc hm.l;have m1:=B2 (z0 hc hm.r.l);have m2:=B2 (z0 hc hm.r.r.l);have m3:=B2 (z0 hc hm.r.r.r);have hcap:=hB.len;have hE:P.elem t=e:=by simp[Program.elem,ht]
    have ht':P.underlying t=some (.slice (P.elem t)):=by rw[hE];exact ht
    generalize hlo:aj1 lo=loT at*;generalize hhi:a19 len hi=hiT at*;change(0:Int)<=_ at m1;have hst:((u9 J loT).i.toNat=0/\(u9 J z).i.toNat=(u9 J an).i.toNat)\/((u9 J off).i.toNat=0/\(u9 J z).i.toNat=0)\/(u9 J loT).i.toNat<(u9 J len).i.toNat\/(0<(u9 J loT).i.toNat/\(u9 J z).i.toNat=(u9 J off).i.toNat):=by
     unfold cY9 at hz;split at hz
     .rename_i q;injection hz with hz;subst hz;rw[H9 q];exact .inl ⟨rfl,rfl⟩
     .split at hz
      .rename_i q;injection hz with hz;subst hz;simp only[bp]at q;rcases q with q|q
       .rw[H9 q];exact .inr (.inl ⟨rfl,rfl⟩)
       .have:=aL4 (L0 hc q);exact .inr (.inr (.inl U))
      .split at hz
       .rename_i q;injection hz with hz;subst hz;have:=aL4 (L0 hc q);change(0:Int)<_ at this;exact .inr (.inr (.inr ⟨by omega,rfl⟩))
       .cases hz
    obtain⟨a,cap,hv,hle,hres⟩:=dA7 (m:=sz) (z:=(u9 J an).i.toNat) (z':=(u9 J z).i.toNat) (g:=N l) (c:=N (l+1)) (o:=(u9 J off).i.toNat) (n:=(u9 J len).i.toNat) (L:=(u9 J loT).i.toNat) (H:=(u9 J hiT).i.toNat) U U U hst;rw[aE6,hv,run_sliceAt_slice w t _ _ _ _ ht',run_slice_any w t _ _ _ ht'];have hsz:(sizeOf (P.elem t)).run P w= .ok sz w:=by rw[hE];simp[sizeOf,typeInfo,hi',q1]
    have hib:∀(k:IntKind) (n:Int) (y:Nat) (code:BoundsCode),0<=n->n<=y->(Instr.sliceBound (.int k n) y code).run P w= .ok n.toNat w:=fun k n y code h1 h2=>by
     simp[Instr.sliceBound,asIntOf,h1,h2]
    have hbd:(Instr.sliceBounds true (u9 J len).i.toNat cap (lo.map fun p=>Value.int p.1 (u9 J p.2).i) (hi.map fun p=>Value.int p.1 (u9 J p.2).i) none).run P w= .ok ((u9 J loT).i.toNat,(u9 J hiT).i.toNat,cap) w:=by
     rcases lo with _|⟨k,x⟩<;>rcases hi with _|⟨k',y⟩<;>simp only[aj1,a19]at hlo hhi<;>subst hlo hhi
     .simp only[Option.map_none,Instr.sliceBounds,am,aq,ai];rfl
     .have:=hib k' (u9 J y).i cap .sliceAcap U U;simp only[Option.map_none,ba,Instr.sliceBounds,am,aq,ai,if_true,this];rfl
     .have:=hib k (u9 J x).i (u9 J len).i.toNat .sliceB U U;simp only[Option.map_none,ba,Instr.sliceBounds,am,aq,ai,Option.isSome_none,ax,if_false,this]
     .have h1:=hib k' (u9 J y).i cap .sliceAcap U U;have h2:=hib k (u9 J x).i (u9 J y).i.toNat .sliceB U U;simp only[ba,Instr.sliceBounds,am,aq,ai,Option.isSome_none,ax,if_false,if_true,h1,h2]
    simp only[hbd,ai,hsz];rw[hres];show _=Result.ok (C.G2 J N (.slt l sz (U0 off loT) (aB0 hiT loT) z)) w;rw[aE6,X2,aA6];congr 2
    .omega
    .omega
   .cases h
  .cases h
 .cases h
def cS2(P:Program)(c:Cx)(hp:List Bk)(t:TypeId)(l m:Nat)(off len:Tm)(ix:SV):PR:=
 match au4 hp l,P.underlying t,ix with
 | some (lv,s),some (.slice e), .one (.c (.int k n))=>
   match P.info? e with
   | some i=>if Nat.beq i.size m then some (bc7 c s off len++(F9 c (.le i9 n)++(F9 c (.lt n len)++(F9 c (.le i9 (U0 off n))++F9 c (.lt (U0 off n) (aB4 c s))))), .one (.c (.pta l 0 m (U0 off n) 0)))else none
   | none=>none
 | _,_,_=>none
theorem c98{J:Env}{N:Bn}{P:Program}{c:Cx}(hc:c.ok J){hp:List Bk}{w:World}(hb:∀ b∈hp,BkOk J N w b){t:TypeId}{l sz:Nat}{off len an:Tm}{ix:SV}{m:List Tm}{r:SV}
 (h:cS2 P c hp t l sz off len ix=some (m,r)) (hm:Met J m):(Instr.indexAt t (C.G2 J N (.slt l sz off len an)) (ix.A1 J N)).run P w= .ok (r.A1 J N) w:=by
 unfold cS2 at h;split at h
 .rename_i lv s e k n hf ht;obtain⟨ty,hB⟩:=as7 hf hb;split at h
  .rename_i i hi;split at h
   .rename_i q;have q1:=af q;injection h with h;injection h with e1 e2;subst e1 e2;obtain⟨b1,b2,b3⟩:=bB6 hc hm.l;have m1:=B2 (z0 hc hm.r.l);have m2:=aL4 (z0 hc hm.r.r.l);change(0:Int)<=_ at m1;have hcap:=hB.len;have hE:P.elem t=e:=by simp[Program.elem,ht]
    show(Instr.indexAt t (C.G2 J N (.slt l sz off len an)) (.int k (u9 J n).i)).run P w=Result.ok (.pointer (some ⟨N l,0+(u9 J (U0 off n)).i.toNat*sz+0,none⟩)) w;rw[aE6,X2];unfold aK5;rw[if_neg U,if_neg U,run_indexAt_slice w t _ _ _ k _ (by rw[hE];exact ht),hE,if_pos ⟨m1,by omega⟩];simp only[sizeOf,typeInfo,am,run_program,ai,hi,aq,q1,Addr.add_mid];rw[show((u9 J off).i+(u9 J n).i).toNat=(u9 J off).i.toNat+(u9 J n).i.toNat from by omega,Nat.add_mul,Nat.zero_add,Nat.add_zero]
   .cases h
  .cases h
 .cases h
def cY6(P:Program)(c:Cx)(hp:List Bk)(t:TypeId)(l off:Nat)(ix:SV):PR:=
 match aD0 l hp,P.underlying t,ix with
 | some b,some (.array len e), .one (.c (.int k n))=>
   match P.info? e with
   | some i=>match as6 c b off i.size with
     | some _=>some (F9 c (.le i9 n)++F9 c (.lt n (.il len)), .one (.c (.pta l off i.size n 0)))
     | none=>none
   | none=>none
 | _,_,_=>none
theorem dH7{J:Env}{N:Bn}{P:Program}{c:Cx}(hc:c.ok J){hp:List Bk}{w:World}{t:TypeId}{l off:Nat}{ix:SV}{m:List Tm}{r:SV}
 (h:cY6 P c hp t l off ix=some (m,r)) (hm:Met J m):(Instr.indexAt t (C.G2 J N (.ptr l off)) (ix.A1 J N)).run P w= .ok (r.A1 J N) w:=by
 unfold cY6 at h;split at h
 .rename_i b len e k n hf hu;split at h
  .rename_i i hi;split at h
   .injection h with h;injection h with e1 e2;subst e1 e2;have m1:=B2 (z0 hc hm.l);have m2:=aL4 (z0 hc hm.r);change(0:Int)<=_ at m1;change _<(len:Int)at m2;show(Instr.indexAt t (.pointer (some ⟨N l,off,none⟩)) (.int k (u9 J n).i)).run P w=Result.ok (.pointer (some ⟨N l,off+(u9 J n).i.toNat*i.size+0,none⟩)) w;have hL:P.arrayLen t=len:=by simp[Program.arrayLen,hu]
    have hE:P.elem t=e:=by simp[Program.elem,hu]
    rw[run_indexAt_array w t _ k _ (by rw[hL,hE];exact hu),hL,hE,if_pos ⟨m1,m2⟩];simp only[sizeOf,typeInfo,am,run_program,ai,hi,aq,Addr.add_mid,Nat.add_zero]
   .cases h
  .cases h
 .cases h
def bR4(P:Program)(s:TypeId)(l base m:Nat)(i:Tm)(o f:Nat):PR:=
 match P.underlying s with
 | some (.struct F)=>
   match F[f]? with
   | some fd=>match P.info? fd.type with
     | some inf=>if Nat.beq inf.size 0 then none else some ([], .one (.c (.pta l base m i (o+fd.offset))))
     | none=>none
   | none=>none
 | _=>none
theorem cC3{J:Env}{N:Bn}{P:Program}{s:TypeId}{l base sz:Nat}{i:Tm}{o f:Nat}{m:List Tm}{r:SV}(h:bR4 P s l base sz i o f=some (m,r))(w:World):(Instr.fieldAt s (C.G2 J N (.pta l base sz i o)) f).run P w= .ok (r.A1 J N) w:=by
 unfold bR4 at h;split at h
 .rename_i F hu;split at h
  .rename_i fd hf;split at h
   .rename_i inf hi;split at h
    .cases h
    .rename_i hz;injection h with h;injection h with h1 h2;subst h1 h2;have hz':inf.size≠0:=fun e=>hz (by rw[e];rfl)
     show(Instr.fieldAt s (.pointer (some ⟨N l,base+(u9 J i).i.toNat*sz+o,none⟩)) f).run P w= .ok (.pointer (some ⟨N l,base+(u9 J i).i.toNat*sz+(o+fd.offset),none⟩)) w;simp only[Instr.fieldAt,am,run_underlying hu,ai,hf,Instr.sureAddr,aq,fieldPlace,sizeOf,typeInfo,run_program,hi,hz',if_false,Addr.add_mid,Nat.add_assoc]
   .cases h
  .cases h
 .cases h
def b20(P:Program)(c:Cx)(hp:List Bk)(t:TypeId)(l:Nat)(off len:Tm):PR:=
 match au4 hp l,P.underlying t with
 | some (_,s),some (.slice _)=>sI (bc7 c s off len) .i64 len
 | _,_=>none
theorem cn1{J:Env}{N:Bn}{P:Program}{c:Cx}(hc:c.ok J){hp:List Bk}{w:World}(hb:∀ b∈hp,BkOk J N w b){t ty:TypeId}{l sz:Nat}{off len an:Tm}{m:List Tm}{r:SV}
 (h:b20 P c hp t l off len=some (m,r)) (hm:Met J m):(Builtin.len_ #[t] ty #[C.G2 J N (.slt l sz off len an)]).run P w= .ok (r.A1 J N) w:=by
 unfold b20 at h;split at h
 .rename_i s e hf ht;obtain⟨ty',hB⟩:=as7 hf hb;injection h with h;injection h with e1 e2;subst e1 e2;obtain⟨b1,b2,b3⟩:=bB6 hc hm;have hcap:=hB.len;rw[aE6];unfold aK5;split
  .simp only[Builtin.len_,bi,be,am,run_underlying ht,ai,aq];exact aB9 (show(u9 J len).i=((0:Nat):Int)by omega)
  .simp only[Builtin.len_,bi,be,am,run_underlying ht,ai,aq];exact aB9 (show(u9 J len).i=((u9 J len).i.toNat:Int)by omega)
 .cases h
theorem dm1{a:Option Addr}{v:Value}(h:[Value.pointer a]=[mkV .sls (dC [[v]])]):False:=by
 injection h with h _;change Value.pointer a=slV v at h;cases v<;>cases h
def a53(t:Tm):List Bk->C
 | []=> .ptv t
 | b::l=>match b.str,b.x,b.cs with
   | none, .al u,[.ptr n 0]=>if E7 u t then .ptr n 0 else a53 t l
   | _,_,_=>a53 t l
theorem bp7{J:Env}{N:Bn}{w:World}(t:Tm):∀{hp:List Bk},(∀ b∈hp,BkOk J N w b)->(a53 t hp).G2 J N=(C.ptv t).G2 J N
 | [],_=>rfl
 | b::l,h=>by
   have ih:=bp7 (N:=N) t (hp:=l) fun x hx=>h x (aj _ hx)
   have hB:=h b (ae ..);unfold a53;split
   .rename_i u n hs hx hcs;split
    .rename_i q;unfold BkOk at hB;rw[hs,hx,hcs]at hB;rcases hB.2 with this|this
     .rw[H9 q]at this;injection this with this _
     .exact(dm1 this).elim
    .exact ih
   .exact ih
def bH5(t:Tm):List Bk->C
 | []=> .vls t
 | b::l=>match b.str,b.x,b.cs with
   | none, .al u,[.slt n m o e z]=>if E7 u t then .slt n m o e z else bH5 t l
   | _,_,_=>bH5 t l
theorem dA6{g c m o n z:Nat}{a:Option Addr}(h:aK5 g c m o n z= .pointer a):False:=by
 unfold aK5 at h;split at h<;>cases h
theorem bp6{J:Env}{N:Bn}{w:World}(t:Tm):∀{hp:List Bk},(∀ b∈hp,BkOk J N w b)->(bH5 t hp).G2 J N=(C.vls t).G2 J N
 | [],_=>rfl
 | b::l,h=>by
   have ih:=bp6 (N:=N) t (hp:=l) fun x hx=>h x (aj _ hx)
   have hB:=h b (ae ..);unfold bH5;split
   .rename_i u n m o e z hs hx hcs;split
    .rename_i q;unfold BkOk at hB;rw[hs,hx,hcs]at hB;rcases hB.2 with this|this
     .injection this with this _;exact(dA6 this).elim
     .rw[H9 q]at this;injection this with this _
    .exact ih
   .exact ih
def unV(hp:List Bk):V1->V1
 | .c (.vls t)=> .c (bH5 t hp)
 | v=>v
theorem eF2{J:Env}{N:Bn}{w:World}{hp:List Bk}(hb:∀ b∈hp,BkOk J N w b)(v:V1):(unV hp v).W7 J N=v.W7 J N:=by
 unfold unV;split
 .exact bp6 _ hb
 .rfl
def b90(P:Program)(c:Cx)(hp:List Bk)(t:TypeId)(l off:Nat)(lo hi:Option (IntKind × Tm)):PR:=
 match aD0 l hp,P.underlying t,lo,hi with
 | some b,some (.array len e),none,some (_,h)=>
   match P.info? e with
   | some i=>match as6 c b off i.size with
     | some _=>some (F9 c (.le i9 h)++F9 c (.le h (.il len)), .one (.c (.slc l off h (.il len))))
     | none=>none
   | none=>none
 | _,_,_,_=>none
theorem cr7{J:Env}{N:Bn}{P:Program}{c:Cx}(hc:c.ok J){hp:List Bk}{w:World}{t:TypeId}{l off:Nat}{lo hi:Option (IntKind × Tm)}{m:List Tm}{r:SV}
 (h:b90 P c hp t l off lo hi=some (m,r)) (hm:Met J m):(Instr.sliceAt t (C.G2 J N (.ptr l off)) (lo.map fun p=>Value.int p.1 (u9 J p.2).i) (hi.map fun p=>Value.int p.1 (u9 J p.2).i) none).run P w= .ok (r.A1 J N) w:=by
 unfold b90 at h;split at h
 .rename_i b len e k n hf hu;split at h
  .rename_i i hi;split at h
   .injection h with h;injection h with e1 e2;subst e1 e2;have m1:=B2 (z0 hc hm.l);have m2:=B2 (z0 hc hm.r);change(0:Int)<=_ at m1;change _<=(len:Int)at m2;have hL:P.arrayLen t=len:=by simp[Program.arrayLen,hu]
    have hE:P.elem t=e:=by simp[Program.elem,hu]
    show(Instr.sliceAt t (.pointer (some ⟨N l,off,none⟩)) none (some (.int k (u9 J n).i)) none).run P w=Result.ok (.slice (some ⟨N l,off,none⟩) (u9 J n).i.toNat ((len:Int)).toNat) w;rw[run_sliceAt_array_h w t _ (by rw[hL,hE];exact hu) k _ m1 (by rw[hL];exact m2),hL,hE];simp only[sizeOf,typeInfo,am,run_program,ai,hi,aq,slicedAt,Nat.zero_mul,Go.Addr.add_zero',ite_self,Nat.sub_zero,aK]
   .cases h
  .cases h
 .cases h
def cY5(P:Program)(c:Cx)(hp:List Bk)(t:TypeId)(l off:Nat)(len:Tm)(ix:SV):PR:=
 match aD0 l hp,P.underlying t,ix with
 | some b,some (.slice e), .one (.c (.int k n))=>
   match P.info? e with
   | some i=>match as6 c b off i.size with
     | some _=>some (F9 c (.le i9 n)++F9 c (.lt n len), .one (.c (.pta l off i.size n 0)))
     | none=>none
   | none=>none
 | _,_,_=>none
theorem dH6{J:Env}{N:Bn}{P:Program}{c:Cx}(hc:c.ok J){hp:List Bk}{w:World}{t:TypeId}{l off:Nat}{len cap:Tm}{ix:SV}{m:List Tm}{r:SV}
 (h:cY5 P c hp t l off len ix=some (m,r)) (hm:Met J m):(Instr.indexAt t (C.G2 J N (.slc l off len cap)) (ix.A1 J N)).run P w= .ok (r.A1 J N) w:=by
 unfold cY5 at h;split at h
 .rename_i b e k n hf ht;split at h
  .rename_i i hi;split at h
   .injection h with h;injection h with e1 e2;subst e1 e2;have m1:=B2 (z0 hc hm.l);have m2:=aL4 (z0 hc hm.r);change(0:Int)<=_ at m1;have hE:P.elem t=e:=by simp[Program.elem,ht]
    show(Instr.indexAt t (.slice (some ⟨N l,off,none⟩) (u9 J len).i.toNat (u9 J cap).i.toNat) (.int k (u9 J n).i)).run P w=Result.ok (.pointer (some ⟨N l,off+(u9 J n).i.toNat*i.size+0,none⟩)) w;rw[run_indexAt_slice w t _ _ _ k _ (by rw[hE];exact ht),hE,if_pos ⟨m1,by omega⟩];simp only[sizeOf,typeInfo,am,run_program,ai,hi,aq,Addr.add_mid,Nat.add_zero]
   .cases h
  .cases h
 .cases h
def b89(P:Program)(c:Cx)(hp:List Bk)(src dst:TypeId)(l off:Nat)(len:Tm):PR:=
 match aD0 l hp,P.underlying src,P.underlying dst with
 | some b,some (.slice e),some .string=>
   match P.underlying e,as6 c b off 1 with
   | some (.int .u8),some ([.int .u8],tt,L)=>some (F9 c (.le i9 len)++F9 c (.le len L), .one (.c (.str (.tb .str (.tb .cut tt i9 len) i9 i9))))
   | _,_=>none
 | _,_,_=>none
theorem dA3{l:List (List Value)}(hl:∀ r∈l,S1 [.int .u8] r){j:Nat}(hj:j<l.length):(a14 l).data.toList.length=l.length/\∃ h:j<(a14 l).data.toList.length,(l.getD j [])[0]? =some (.int .u8 (((a14 l).data.toList[j]).toNat:Int)):=by
 have h0:(a14 l).data.toList=l.map fun r=>match r with
  | [.int _ n]=>UInt8.ofNat n.toNat
  | _=>0:=rfl
 have hlen:(a14 l).data.toList.length=l.length:=by rw[h0,aE]
 refine⟨hlen,by omega,?_⟩;have hm:=hl _ (aW5 hj);have hg:(a14 l).data.toList[j]' U=(match l.getD j []with
  | [.int _ n]=>UInt8.ofNat n.toNat
  | _=>0):=by
  simp only[h0,List.getElem_map];rw[List.getD,ar hj];rfl
 rw[hg]
 match hr:l.getD j [],hm with
 | [v],hm=>
   obtain⟨n,rfl,hw⟩:=hm.1;obtain⟨b1,b2⟩:=aK2 hw;change(0:Int)<=n at b1;change n<=(255:Int)at b2;show some (Value.int .u8 n)=some (.int .u8 ((UInt8.ofNat n.toNat).toNat:Int));rw[UInt8.toNat_ofNat'];congr 2;omega
theorem cr6{J:Env}{N:Bn}{P:Program}{c:Cx}(hc:c.ok J){hp:List Bk}{w:World}(hb:∀ b∈hp,BkOk J N w b){src dst:TypeId}{l off:Nat}{len cap:Tm}{m:List Tm}{r:SV}
 (h:b89 P c hp src dst l off len=some (m,r)) (hm:Met J m):(convert src dst (C.G2 J N (.slc l off len cap))).run P w= .ok (r.A1 J N) w:=by
 unfold b89 at h;split at h
 .rename_i b e hf hs hd;split at h
  .rename_i tt L he ht;injection h with h;injection h with e1 e2;subst e1 e2;have hmem:=U4 hf;have T:=bR3 hc (hb b hmem.1) ht;have m1:=B2 (z0 hc hm.l);have m2:=B2 (z0 hc hm.r);change(0:Int)<=_ at m1;rw[T.len]at m2;have hn:(u9 J len).i.toNat<=(u9 J tt).c.length:=by omega
   have hcut:(u9 J (.tb .cut tt i9 len)).c=(u9 J tt).c.take (u9 J len).i.toNat:=by
    show((u9 J tt).c.drop ((0:Int)).toNat).take ((u9 J len).i.toNat - ((0:Int)).toNat)=_;rfl
   have hlen:((u9 J tt).c.take (u9 J len).i.toNat).length=(u9 J len).i.toNat:=by rw[aU];omega
   have hall:∀ r∈(u9 J tt).c.take (u9 J len).i.toNat,S1 [.int .u8] r:=fun r hr=>T.ok r (List.mem_of_mem_take hr)
   show(convert src dst (.slice (some ⟨N l,off,none⟩) (u9 J len).i.toNat (u9 J cap).i.toNat)).run P w=Result.ok (Value.string (a14 (u9 J (.tb .cut tt i9 len)).c)) w;rw[hcut];generalize hX:(u9 J tt).c.take (u9 J len).i.toNat=X at hlen hall;have hsz:(a14 X).data.toList.length=X.length:=by
    show(X.map _).length=_;rw[aE]
   have key:=run_convert_bytes_back (P:=P) w src dst e ⟨N l,off,none⟩ (u9 J cap).i.toNat (a14 X).data.toList hs he hd (fun j hj=>by
    rw[hsz]at hj;obtain⟨_,h2,h3⟩:=dA3 hall hj;rw[Addr.add_mid];have:=T.cell j 0 _ U (show((u9 J tt).c.getD j [])[0]? =_ from by
     have:(u9 J tt).c.getD j []=X.getD j []:=by
      rw[<-hX,List.getD_eq_getElem?_getD,List.getD_eq_getElem?_getD,aL,if_pos U]
     rw[this,h3])
    rw[<-hmem.2];simpa using this)
   rw[hsz,hlen]at key;rw[key]
  .cases h
 .cases h
def dD4(P:Program)(c:Cx)(hp:List Bk)(ev:Operand->Option SV):Op->PR
 | .load t x=>match ev x with
   | some x=>(bu2 P c hp t x).map fun v=>([], .one (unV hp v))
   | none=>none
 | .nilCheck x=>match ev x with
   | some (.one (.c (.pta l b m i f)))=>some ([], .one (.c (.pta l b m i f)))
   | some (.one (.c (.ptv t)))=>some ([], .one (.c (a53 t hp)))
   | _=>none
 | .fieldAddr t x f=>match ev x with
   | some (.one (.c (.pta l b m i o)))=>bR4 P t l b m i o f
   | _=>none
 | .slice t x lo hi mx=>match ev x,at4 ev lo,at4 ev hi,mx with
   | some (.one (.c (.slt l m off len an))),some lo,some hi,none=>match a17 lo,a17 hi with
     | some lo,some hi=>b21 P c hp t l m off len an lo hi
     | _,_=>none
   | some (.one (.c (.ptr l off))),some lo,some hi,none=>match a17 lo,a17 hi with
     | some lo,some hi=>b90 P c hp t l off lo hi
     | _,_=>none
   | _,_,_,_=>none
 | .convert s d x=>match ev x with
   | some (.one (.c (.slc l off len cap)))=>b89 P c hp s d l off len
   | _=>none
 | .indexAddr t x i=>match ev x,ev i with
   | some (.one (.c (.slt l m off len an))),some i=>cS2 P c hp t l m off len i
   | some (.one (.c (.ptr l off))),some i=>cY6 P c hp t l off i
   | some (.one (.c (.slc l off len cap))),some i=>cY5 P c hp t l off len i
   | _,_=>none
 | .call k=>match k.callee,k.args.toList,k.argTypes.toList with
   | .builtin .len,[x],[t]=>match ev x with
     | some (.one (.c (.slt l m off len an)))=>b20 P c hp t l off len
     | _=>none
   | _,_,_=>none
 | _=>none
theorem dn9{J:Env}{N:Bn}{P:Program}{c:Cx}(hc:c.ok J){hp:List Bk}{w:World}(hb:∀ b∈hp,BkOk J N w b){ev:Operand->Option SV}{a:Act}(hev:∀ x v,ev x=some v->a.eval x=v.A1 J N){o:Oper}{m:List Tm}{r:SV}
 (h:dD4 P c hp ev o.op=some (m,r)) (hm:Met J m):(execOp a.eval o).run P w= .ok (.value (r.A1 J N)) w:=by
 obtain⟨dst,op,ty,pos,after,guard⟩:=o;simp only[]at h;cases op<;>simp only[dD4]at h<;>try(cases h;done)
 case load t x=>
  split at h
  .rename_i x' hx;cases hl:bu2 P c hp t x' with
   | none=>rw[hl]at h;cases h
   | some v=>
     rw[hl]at h;injection h with h;injection h with h1 h2;subst h1 h2;refine aG0 ?_;rw[hev _ _ hx];show _=Result.ok ((unV hp v).W7 J N) w;rw[eF2 hb];exact dE3 hc hl hb
  .cases h
 case nilCheck x=>
  split at h
  .rename_i l b m' i f h1;injection h with h;injection h with h2 h3;subst h2 h3;simp only[execOp,hev _ _ h1];rfl
  .rename_i t h1;injection h with h;injection h with h2 h3;subst h2 h3;rw[show(SV.one (.c (a53 t hp))).A1 J N=(SV.one (.c (.ptv t))).A1 J N from bp7 t hb];simp only[execOp,hev _ _ h1];rfl
  .cases h
 case fieldAddr t x f=>
  split at h
  .rename_i l b m' i o h1;refine aG0 ?_;rw[hev _ _ h1];exact cC3 h w
  .cases h
 case slice t x lo hi mx=>
  split at h
  .rename_i l m' off len an lo' hi' h1 h2 h3;split at h
   .rename_i lo'' hi'' h4 h5;refine aG0 ?_;rw[hev _ _ h1,aW3 hev h2,aW3 hev h3,ah0 h4,ah0 h5];exact cn2 hc hb h hm
   .cases h
  .rename_i l off lo' hi' h1 h2 h3;split at h
   .rename_i lo'' hi'' h4 h5;refine aG0 ?_;rw[hev _ _ h1,aW3 hev h2,aW3 hev h3,ah0 h4,ah0 h5];exact cr7 (N:=N) hc h hm
   .cases h
  .cases h
 case convert s d x=>
  split at h
  .rename_i l off len cap h1;refine aG0 ?_;rw[hev _ _ h1];exact cr6 hc hb h hm
  .cases h
 case indexAddr t x i=>
  split at h
  .rename_i l m' off len an i' h1 h2;refine aG0 ?_;rw[hev _ _ h1,hev _ _ h2];exact c98 hc hb h hm
  .rename_i l off i' h1 h2;refine aG0 ?_;rw[hev _ _ h1,hev _ _ h2];exact dH7 hc h hm
  .rename_i l off len cap i' h1 h2;refine aG0 ?_;rw[hev _ _ h1,hev _ _ h2];exact dH6 hc h hm
  .cases h
 case call k=>
  obtain⟨callee,args,ats⟩:=k;simp only[]at h;split at h
  .rename_i x t hargs hats;split at h
   .rename_i l m' off len an h1;rw[execOp_builtin,builtin_len];have e1:args=#[x]:=by cases args;simp at hargs;rw[hargs]
    have e2:ats=#[t]:=by cases ats;simp at hats;rw[hats]
    subst e1 e2;have e3:a.eval x=C.G2 J N (.slt l m' off len an):=hev _ _ h1;have:=cn1 (ty:=ty) (an:=an) (sz:=m') hc hb h hm;refine aG0 ?_;simpa[e3]using this
   .cases h
  .cases h
def dD7(P:Program)(c:Cx)(hp:List Bk)(ev:Operand->Option SV)(o:Op):PR:=
 match dD5 P c hp ev o with
 | some r=>some r
 | none=>dD4 P c hp ev o
theorem do2{J:Env}{N:Bn}{P:Program}{c:Cx}(hc:c.ok J){hp:List Bk}{w:World}(hb:∀ b∈hp,BkOk J N w b){ev:Operand->Option SV}{a:Act}(hev:∀ x v,ev x=some v->a.eval x=v.A1 J N){o:Oper}{m:List Tm}{r:SV}
 (h:dD7 P c hp ev o.op=some (m,r)) (hm:Met J m):(execOp a.eval o).run P w= .ok (.value (r.A1 J N)) w:=by
 unfold dD7 at h;split at h
 .rename_i r' hr;injection h with h;subst h;exact do0 hc hb hev hr hm
 .exact dn9 hc hb hev h hm
structure GrownT(w w':World)(g c:Nat)(e:TypeId)(lv:List Kd)(l:List (List Value))(g' c':Nat):Prop where
 row:RowT w' g' c' e lv l
 by_:w.grownBy w' (ab6 g c)
 at_:c'=0\/(c≠0/\g'=g)\/w.heap.size<=g'
def aC9(g c n:Nat):Value:=if c=0 then .slice none 0 0 else .slice (some ⟨g,0,none⟩) n c
theorem aD2(g c m n:Nat):aK5 g c m 0 n 0=aC9 g c n:=by
 unfold aK5 aC9;by_cases h:c=0
 .rw[if_pos h,if_pos h]
 .rw[if_neg h,if_neg h,if_neg h,Nat.zero_mul];rfl
theorem b31(g c n:Nat):(aC9 g c n).ownBlock=ab6 g c:=by
 unfold aC9 ab6;split<;>rfl
theorem aZ8{g c n:Nat}(h:c≠0):aC9 g c n= .slice (some ⟨g,0,none⟩) n c:=by
 unfold aC9;rw[if_neg h]
section
variable{w:World}{g c n:Nat}{e:TypeId}{lv:List Kd}{l:List (List Value)}
theorem RowT.eJ0(h:RowT w g c e lv l)(hn:n=l.length):w.ownsRow 0 e lv.length (aC9 g c n) n l.flatten:=by
 refine⟨by rw[h.eJ2,hn],?_⟩;have hl:=h.len;by_cases hc:c=0
 .refine .inl ⟨by unfold aC9;rw[if_pos hc],by omega⟩
 .obtain⟨cur,h1,h3,h4,h5⟩:=h.row hc;exact .inr ⟨g,c,cur,aZ8 hc,bf _,h1,by omega,h4,h3,by rw[hn];exact h5⟩
theorem RowT.b94{v:Value}(hk:∀ r∈l,S1 lv r)(hl:l.length=n)(h:w.ownsRow 0 e lv.length v n l.flatten)(hv:v= .slice (some ⟨g,0,none⟩) n c):RowT w g c e lv l:=by
 subst hv;rcases h.2 with⟨h1,_⟩|⟨g',c',cur,h1,_,h2,h3,h4,h5,h6⟩
 .cases h1
 .injection h1 with e1 e2 e3;injection e1 with e1;injection e1 with e1;subst e1 e3;exact⟨fun _=>⟨cur,h2,h5,h4,by rw[hl];exact h6⟩,by omega,hk⟩
end
section
variable{P:Program}{w:World}{g c:Nat}{t ty e:TypeId}{i:TypeInfo}{z:Value}{lv:List Kd}{l:List (List Value)}
theorem b74{ns:List (List Value)}(h:∀ r∈ns,S1 lv r):∀ u∈ns.flatten,u.oneCell'=true:=fun u hu=>by
 obtain⟨r,hr,hu⟩:=List.mem_flatten.1 hu;exact b66 (h r hr) u hu
theorem dq5(ht:P.underlying t=some (.slice e))(hi:P.info? e=some i)(hz:i.zero=some z)(hzs:z.cells.size=i.size)(hsz:lv.length=i.size)(hpos:0<i.size)(hby:0<i.bytes)
 (h:RowT w g c e lv l) {A:Option Addr} {m k:Nat} {ns:List (List Value)} (hr:Reads w w.heap.size i.size A m ns.flatten) (hnl:ns.length=m) (hk:∀ r∈ns,S1 lv r) (hb:(l.length+m)*i.bytes<=140737488355328):
 ∃ g' c' w',(Builtin.append_ #[t,t] ty #[aC9 g c l.length, .slice A m k]).run P w= .ok (aC9 g' c' (l.length+m)) w'/\GrownT w w' g c e lv (l++ns) g' c':=by
 have hb1:l.length+m<=140737488355328:=by
  have:(l.length+m)*1<=(l.length+m)*i.bytes:=Nat.mul_le_mul_left _ hby
  omega
 have h63:l.length+m<=maxLen:=by simp only[maxLen];omega
 have hlen:=h.len;have hall:∀ r∈l++ns,S1 lv r:=fun r hr=>by
  rcases aC.1 hr with hr|hr
  .exact h.ok r hr
  .exact hk r hr
 have hcount:(l++ns).length=l.length+m:=by rw[az,hnl]
 have hown:=h.eJ0 (n:=l.length) rfl;rw[hsz]at hown;have zero:l.length=0->m=0->l++ns=[]:=fun h1 h2=>by
  rw[ay h1,ay (hnl.trans h2)];rfl
 rcases A with _|ad
 .have hm:m=0:=by
   rcases Nat.eq_zero_or_pos m with h0|h0
   .exact h0
   .obtain⟨ad,h,_⟩:=hr.2 h0;cases h
  subst hm;have hn:ns=[]:=ay hnl;subst hn;refine⟨g,c,w,ac5 w 0 t ty e i i.size ht hi _ _ _ hown k,⟨by rw[ao];exact h,World.grownBy.refl w _,?_⟩⟩;by_cases hc:c=0
  .exact .inl hc
  .exact .inr (.inl ⟨hc,rfl⟩)
 .have hcells:∀ j u,ns.flatten[j]? =some u->w.cell? (ad.add j)=some u:=by
   intro j u hu;rcases Nat.eq_zero_or_pos m with h0|h0
   .have hn:ns=[]:=ay U;subst hn;simp at hu
   .obtain⟨ad',h,_,hc⟩:=hr.2 h0;injection h with h;subst h;exact hc j u hu
  have hlm:ns.flatten.length=m*i.size:=hr.1;obtain⟨v',w',hrun,h2,h3,h4,h5⟩:=run_append_own_at (P:=P) w 0 t ty e i z i.size i.bytes ht hi hz rfl rfl hzs hpos _ _ _ hown ad m k ns.flatten hlm hcells (b74 hk) h63 hb (bf _);rw[<-List.flatten_append,<-hsz]at h2;rw[b31]at h3;by_cases hc:c=0
  .have hn:l.length=0:=by omega
   by_cases hm:m=0
   .have hv:=h4.2 ⟨by unfold aC9;rw[if_pos hc],hm⟩;refine⟨0,0,w',by rw[hrun,hv];rfl,⟨?_,h3, .inl rfl⟩⟩;rw[zero hn hm];exact RowT.bC7 ..
   .have hr:=run_append_nil (P:=P) w t ty e i z ht hi hz ad m k ns.flatten hlm hcells U U (by
     have:(l.length+m)*i.bytes=m*i.bytes:=by rw[hn,Nat.zero_add]
     omega)
    have hv:v'= .slice (some ⟨w.heap.size,0,none⟩) m (grownCap w m 0 e):=by
     rw[show aC9 g c l.length= .slice none 0 0 from by unfold aC9;rw[if_pos hc]]at hrun;exact aj0 hrun hr
    rw[show l.length+m=m from by omega]at h2 hcount ⊢;have hge:=grownCap_ge w m 0 e;refine⟨w.heap.size,grownCap w m 0 e,w',by rw[hrun,hv,aZ8 U],⟨RowT.b94 hall hcount h2 hv,h3, .inr (.inr (aI _))⟩⟩
  .obtain⟨cur,r1,r3,r4,r5⟩:=h.row hc;by_cases hroom:l.length+m<=c
   .have hfit:l.length*i.size+ns.flatten.length<=cur.size:=by
     rw[hlm,r3,hsz,<-Nat.add_mul];exact Nat.mul_le_mul_right _ hroom
    have hr:=run_append_room (P:=P) w t ty e i ht hi g l.length c cur r1 ad m k ns.flatten hlm hcells (b74 hk) hroom hfit;rw[aZ8 hc]at hrun ⊢;have hv:=aj0 hrun hr;exact⟨g,c,w',by rw[hrun,hv,aZ8 hc],⟨RowT.b94 hall hcount h2 hv,h3, .inr (.inl ⟨hc,rfl⟩)⟩⟩
   .have hcell:∀ j u,l.flatten[j]? =some u->w.cell? ((⟨g,0,none⟩:Addr).add j)=some u:=(h.eJ0 rfl).cells (g:=g) (by rw[b31];unfold ab6;rw[if_neg hc]);have hr:=run_append_grow (P:=P) w t ty e i z ht hi hz ⟨g,0,none⟩ l.length c l.flatten (by rw[h.eJ2,hsz]) hcell ad m k ns.flatten hlm hcells U U (growslice_fits U hb);rw[aZ8 hc]at hrun ⊢;have hv:=aj0 hrun hr;have hge:=grownCap_ge w (l.length+m) c e;exact⟨w.heap.size,_,w',by rw[hrun,hv,aZ8 U],⟨RowT.b94 hall hcount h2 hv,h3, .inr (.inr (aI _))⟩⟩
end
def kdC:C->Option Kd
 | .int k _=>some (.int k)
 | .bool _=>some .bool
 | .str _=>some .str
 | .nslc=>some .sls
 | _=>none
def eG8:List C->Option (List Kd)
 | []=>some []
 | x::l=>match kdC x,eG8 l with
   | some k,some ks=>some (k::ks)
   | _,_=>none
def bL6(P:Program)(e:TypeId):Option (List Kd):=(ae4 P e).bind eG8
def bG2(c:Cx)(lv:List Kd):Nat->List C->Option (List Tm × Tm)
 | 0,_=>some ([],tn)
 | n+1,cs=>match ab5 c (cs.take lv.length) lv,bG2 c lv n (cs.drop lv.length)with
   | some (m1,r),some (m2,t)=>some (m1++m2,bG8 r t)
   | _,_=>none
theorem bG1{J:Env}{N:Bn}{c:Cx}(hc:c.ok J){lv:List Kd}:∀{n:Nat} {cs:List C} {m:List Tm} {t:Tm},bG2 c lv n cs=some (m,t)->Met J m->(u9 J t).c.length=n/\(∀ r∈(u9 J t).c,S1 lv r)/\(u9 J t).c.flatten=(A5 J N cs).take (n*lv.length)
 | 0,cs,m,t,h,_=>by
   injection h with h;injection h with h1 h2;subst h1 h2;exact⟨rfl,fun _ h=>bF,by rw[Nat.zero_mul,List.take_zero];rfl⟩
 | n+1,cs,m,t,h,hm=>by
   simp only[bG2]at h;split at h
   .rename_i m1 r m2 t' h1 h2;injection h with h;injection h with e1 e2;subst e1 e2;obtain⟨a1,a2⟩:=aw6 (N:=N) hc h1 hm.l;obtain⟨b1,b2,b3⟩:=bG1 (N:=N) hc h2 hm.r;rw[bj6,a1];refine⟨by simp[b1,Nat.add_comm],fun r hr=>?_,?_⟩
    .rcases aC.1 hr with hr|hr
     .simp at hr;rw[hr];exact a2
     .exact b2 r hr
    .have hl:=aA7 a2;rw[List.flatten_append,b3,aR4,aO1];simp only[List.flatten_cons,List.flatten_nil,ao];rw[Nat.succ_mul,Nat.add_comm,List.take_add]
   .cases h
def eb5(P:Program)(e:TypeId):Bool:=
 match P.underlying e with
 | some (.int .u8)=>true
 | _=>false
def dR3(P:Program)(c:Cx)(hp:List Bk)(e:TypeId):SV->Option (List Tm × Option Nat × List Kd × Tm)
 | .one (.c .nslc)=>(bL6 P e).map fun lv=>([],none,lv,tn)
 | .one (.c (.slt l m off len an))=>match aD0 l hp with
   | some b=>match b.str,b.x with
     | none, .tab lv t=>if b.rw&&(Nat.beq b.ty e&&(Nat.beq m lv.length&&(E7 off i9&&E7 an i9)))then some (F9 c (.le len (aB4 c t))++F9 c (.le (aB4 c t) len),some l,lv,t)else none
     | _,_=>none
   | none=>none
 | .one (.c (.slc l 0 len cap))=>match aD0 l hp,aC4 len,aC4 cap,bL6 P e with
   | some b,some n,some k,some lv=>match b.str,b.x with
     | none, .no=>if b.rw&&(Nat.beq b.ty e&&(Nat.beq n.toNat k.toNat&&(Nat.blt 0 n.toNat&&(Nat.ble n.toNat 100000&&Nat.beq b.cs.length (n.toNat*lv.length)))))then(bG2 c lv n.toNat b.cs).map fun x=>(x.1,some l,lv,x.2)else none
     | _,_=>none
   | _,_,_,_=>none
 | _=>none
def eF6(c:Cx)(hp:List Bk)(lv:List Kd):SV->Option (List Tm × Tm)
 | .one (.c .nslc)=>some ([],tn)
 | .one (.c (.slc l off len cap))=>match aD0 l hp,aC4 len with
   | some b,some n=>match b.str with
     | none=>if Nat.ble (off+n.toNat*lv.length) b.cs.length&&b.x.bl3 then bG2 c lv n.toNat (b.cs.drop off)else none
     | some _=>none
   | _,_=>none
 | .one (.c (.slt l m off len an))=>match au4 hp l with
   | some (lv',s)=>if aa0 lv lv'&&Nat.beq m lv.length then some (bc7 c s off len,bA7 c s off (U0 off len))else none
   | none=>none
 | _=>none
def cW2(P:Program)(c:Cx)(hp:List Bk)(ev:Operand->Option SV)(k:Call):Option (List Tm × Option Nat × TypeId × List Kd × Tm):=
 match k.callee,k.args.toList,k.argTypes.toList with
 | .builtin .append,[x,y],[t,u]=>
   match ev x,ev y,P.underlying t with
   | some xv,some yv,some (.slice e)=>
     if Nat.beq t u&& !(eb5 P e)then
     match P.info? e with
     | some i=>
       match i.zero with
       | some z=>
         match dR3 P c hp e xv with
         | some (m1,old,lv,s)=>
           match eF6 c hp lv yv with
           | some (m2,r)=>if Nat.beq lv.length i.size&&(Nat.beq z.cells.size i.size&&(Nat.blt 0 i.size&&Nat.blt 0 i.bytes))then
              some (m1++(m2++F9 c (.le (bb5 (aB4 c (bG8 s r)) (.il i.bytes)) qcb)),old,e,lv,bG8 s r)else none
           | none=>none
         | none=>none
       | none=>none
     | none=>none
     else none
   | _,_,_=>none
 | _,_,_=>none
def St.ae7(s:St)(n:Nat)(e:TypeId)(old:Option Nat)(lv:List Kd)(t:Tm):St:=
 { s with hp:=ae5 ⟨n,e,[],true,none, .tab lv t⟩ (match old with|some l=>s.hp.filter fun b=> !(Nat.beq b.l l)|none=>s.hp),nx:=max s.nx (n+2) }
theorem a00{s:St}{n:Nat}{e:TypeId}{old:Option Nat}{lv:List Kd}{t:Tm}{x:Bk}(h:x∈(s.ae7 n e old lv t).hp):x=⟨n,e,[],true,none, .tab lv t⟩\/(x∈s.hp/\old≠some x.l):=by
 rcases aI7 h with h|h
 .exact .inl h
 .refine .inr ?_;cases old with
  | none=>exact⟨h,by simp⟩
  | some l=>
    have:=List.mem_filter.1 h;refine⟨this.1,fun e=>?_⟩;injection e with e;rw[e,Nat.beq_refl]at this;simp at this
theorem Md.cZ3{J:Env}{N:Bn}{S:Nat->Prop}{w0 w w':World}{N0:Bn}{n0:Nat}{s:St}{a:Act}(hM:Md J S w0 N0 n0 s N a w)(n:Nat)(hn:n0<=n)(hf:s.T8 n=true)(hf1:s.T8 (n+1)=true)
 {g c g' c':Nat} {e:TypeId} {lv:List Kd} {bs:List (List Value)} (hG:GrownT w w' g c e lv bs g' c') {old:Option Nat} {t:Tm} (hstr:(u9 J t).c=bs)
 (ho:c=0\/∃ b∈s.hp,old=some b.l/\b.rw=true/\b.G0 N/\g=N b.l):Md J S w0 N0 n0 (s.ae7 n e old lv t) (E8 (E8 N n g') (n+1) c') a w':=by
 unfold St.T8 at hf hf1;simp only[m5,av,aN]at hf hf1;have old2:∀ b∈s.hp,(E8 (E8 N n g') (n+1) c') b.l=N b.l/\(E8 (E8 N n g') (n+1) c') (b.l+1)=N (b.l+1)/\A5 J (E8 (E8 N n g') (n+1) c') b.cs=A5 J N b.cs:=fun b hb=>
  ⟨(B3 (T3 (hf1.2 b hb).1)).trans (B3 (T3 (hf.2 b hb).1)),(B3 (T3 (hf1.2 b hb).2.2)).trans (B3 (T3 (hf.2 b hb).2.2)),(aA2 J (hf1.2 b hb).2.1).trans (aA2 J (hf.2 b hb).2.1)⟩
 have oldr:∀ b∈s.hp,b.G0 (E8 (E8 N n g') (n+1) c')->b.G0 N:=fun b hb hr=>hr.imp id (fun h=>by rw[<-(old2 b hb).2.1];exact h)
 have e1:(E8 (E8 N n g') (n+1) c') n=g':=(B3 U).trans (K7 ..);have e2:(E8 (E8 N n g') (n+1) c') (n+1)=c':=K7 ..;have apart:∀ y∈s.hp,old≠some y.l->y.G0 N->c'≠0->∀ i,fp N y i->g'≠i:=by
  intro y hy hne hry hc' i hi;have hlt:=(hM.hp y hy).ax9 hry hi;rcases hG.at_ with h|⟨h1,h2⟩|h
  .exact absurd h hc'
  .rcases ho with h|⟨b,hb,hob,_,hbr,hgb⟩
   .exact absurd h h1
   .rw[h2,hgb];exact fun e=>hM.ne b hb y hy (fun e=>hne (by rw[hob,e])) hbr hry i (e ▸ I4 N b) hi
  .omega
 refine⟨?_,?_,?_,?_,hM.cx,?_,?_⟩
 .rw[hM.act];congr 2;apply aG;intro x hx;exact((SV.aY5 J (hf1.1 x hx)).trans (SV.aY5 J (hf.1 x hx))).symm
 .intro x hx;rcases a00 hx with rfl|⟨hx,hne⟩
  .show RowT w' ((E8 (E8 N n g') (n+1) c') n) ((E8 (E8 N n g') (n+1) c') (n+1)) e lv (u9 J t).c;rw[e1,e2,hstr];exact hG.row
  .refine BkOk.at7 ((hM.hp x hx).bD0 fun hr i hi hlt=>hG.by_.block _ hlt ?_) (old2 x hx).1 (fun _=>(old2 x hx).2.1) (old2 x hx).2.2;unfold ab6;rcases ho with h|⟨b,hb,hob,_,hbr,hgb⟩
   .rw[if_pos h];simp
   .split
    .simp
    .intro he;injection he with he;exact hM.ne x hx b hb (fun e=>hne (by rw[hob,e])) hr hbr i hi (by rw[he,hgb];exact I4 N b)
 .intro x hx y hy hne hrx hry;rcases a00 hx with rfl|⟨hx,hnx⟩<;>rcases a00 hy with rfl|⟨hy,hny⟩
  .exact absurd rfl hne
  .intro i ix iy;have e:=Q9 rfl ix;rw[show i=g' from e.trans e1]at iy;refine apart y hy hny (oldr y hy hry) ?_ g' ((Z9 (old2 y hy).1 (old2 y hy).2.2 g').1 iy) rfl;rcases hrx with h|h
   .cases h
   .exact fun q=>h (e2.trans q)
  .intro i ix iy;have e:=Q9 rfl iy;rw[show i=g' from e.trans e1]at ix;refine apart x hx hnx (oldr x hx hrx) ?_ g' ((Z9 (old2 x hx).1 (old2 x hx).2.2 g').1 ix) rfl;rcases hry with h|h
   .cases h
   .exact fun q=>h (e2.trans q)
  .exact(hM.ne x hx y hy hne (oldr x hx hrx) (oldr y hy hry)).bM1 (old2 x hx).1 (old2 x hx).2.2 (old2 y hy).1 (old2 y hy).2.2
 .intro x hx hw hr i hi;rcases a00 hx with rfl|⟨hx,hnx⟩
  .have e:=Q9 rfl hi;rw[show i=g' from e.trans e1];rcases hr with h|h
   .cases h
   .have h:c'≠0:=fun q=>h (e2.trans q)
    rcases hG.at_ with h'|⟨h1,h2⟩|h'
    .exact absurd h' h
    .rcases ho with h3|⟨b,hb,hob,hbw,hbr,hgb⟩
     .exact absurd h3 h1
     .rw[h2,hgb];exact hM.ar5 b hb hbw hbr
    .exact .inr (bu hM.only.size h')
  .exact hM.may x hx hw (oldr x hx hr) i ((Z9 (old2 x hx).1 (old2 x hx).2.2 i).1 hi)
 .have hb:=hG.by_;refine⟨hb.os.trans hM.only.os,hb.tape.trans hM.only.tape,hb.output.trans hM.only.output,bu hM.only.size hb.size,fun k hk hS=>?_⟩;refine(hb.block k (br hk hM.only.size) ?_).trans (hM.only.block k hk hS);unfold ab6;split
  .simp
  .rename_i hc;intro he;injection he with he;rcases ho with h3|⟨b,hb,hob,hbw,hbr,hgb⟩
   .exact absurd h3 hc
   .rcases hM.ar5 b hb hbw hbr with h|h
    .rw[<-hgb,<-he]at h;exact hS h
    .rw[<-hgb,<-he]at h;omega
 .intro l hl;exact((B3 U).trans (B3 U)).trans (hM.old l hl)
theorem dF0{J:Env}{N:Bn}{P:Program}{S:Nat->Prop}{w0 w:World}{N0:Bn}{n0:Nat}{s:St}{a:Act}(hM:Md J S w0 N0 n0 s N a w){c:Cx}(hc:c.ok J){ev:Operand->Option SV}(hev:∀ x v,ev x=some v->a.eval x=v.A1 J N)
 {o:Oper} {k:Call} (ho:o.op= .call k) {m:List Tm} {old:Option Nat} {e:TypeId} {lv:List Kd} {tt:Tm} (h:cW2 P c s.hp ev k=some (m,old,e,lv,tt)) (hm:Met J m) (n:Nat) (hn:n0<=n) (hf:s.T8 n=true) (hf1:s.T8 (n+1)=true):
 ∃ N' w',(execOp a.eval o).run P w= .ok (.value (C.G2 J N' (.slt n lv.length i9 (aB4 c tt) i9))) w'/\Md J S w0 N0 n0 (s.ae7 n e old lv tt) N' a w':=by
 unfold cW2 at h;split at h
 .rename_i x y t u hcal hargs hats;split at h
  .rename_i xv yv e' hx hy ht;split at h
   .rename_i qtu;simp only[m5]at qtu;have qtu:=af qtu.1;subst qtu;split at h
    .rename_i i hi;split at h
     .rename_i z hz;split at h
      .rename_i m1 old' lv' s1 hbase;split at h
       .rename_i m2 r hsrc;split at h
        .rename_i q;simp only[m5]at q;have q1:=af q.1;have q2:=af q.2.1;have q3:0<i.size:=au q.2.2.1;have q4:0<i.bytes:=au q.2.2.2;injection h with h;injection h with h1 h;injection h with h2 h;injection h with h3 h;injection h with h4 h5;subst h1 h2 h3 h4 h5;have htot:=B2 (z0 hc hm.r.r);rw[bS2,aH1 hc,bj6]at htot;change _*(i.bytes:Int)<=(140737488355328:Int)at htot;have hb:∃ g cap,RowT w g cap e' lv' (u9 J s1).c/\xv.A1 J N=aC9 g cap (u9 J s1).c.length/\(cap=0\/∃ b∈s.hp,old'=some b.l/\b.rw=true/\b.G0 N/\g=N b.l):=by
          unfold dR3 at hbase;split at hbase
          .obtain⟨lv0,hk0,e0⟩:=aw.1 hbase;injection e0 with b1 b2;injection b2 with b2 b3;injection b3 with b3 b4;subst b1 b2 b3 b4;exact⟨0,0,RowT.bC7 ..,rfl, .inl rfl⟩
          .rename_i l mm off len an;split at hbase
           .rename_i b hfb;split at hbase
            .rename_i lvb sb hsb hxb;split at hbase
             .rename_i zz;simp only[m5]at zz;injection hbase with hbase;injection hbase with b1 b2;injection b2 with b2 b3;injection b3 with b3 b4;subst b1 b2 b3 b4;have hmem:=U4 hfb;have hB:=hM.hp b hmem.1;unfold BkOk at hB;rw[hsb,hxb]at hB;have hB:RowT w (N b.l) (N (b.l+1)) b.ty lvb (u9 J sb).c:=hB;rw[hmem.2,af zz.2.1]at hB;have l1:=B2 (z0 hc hm.l.l);have l2:=B2 (z0 hc hm.l.r);rw[aH1 hc]at l1 l2;refine⟨N l,N (l+1),hB,?_,?_⟩
              .show C.G2 J N (.slt l mm off len an)=_;rw[aE6,H9 zz.2.2.2.1,H9 zz.2.2.2.2];show aK5 _ _ _ ((0:Int)).toNat _ ((0:Int)).toNat=_;rw[show((0:Int)).toNat=0 from rfl,aD2];congr 1;omega
              .by_cases h0:N (l+1)=0
               .exact .inl h0
               .exact .inr ⟨b,hmem.1,by rw[hmem.2],zz.1, .inr (by rw[hmem.2];exact h0),by rw[hmem.2]⟩
             .cases hbase
            .cases hbase
           .cases hbase
          .rename_i l len cap;split at hbase
           .rename_i b nn kk lvb hfb hl1 hl2 hkd;split at hbase
            .rename_i hsb hxb;split at hbase
             .rename_i zz;simp only[m5]at zz;obtain⟨⟨mm,rr⟩,hrr,e0⟩:=aw.1 hbase;injection e0 with b1 b2;injection b2 with b2 b3;injection b3 with b3 b4;subst b1 b2 b3 b4;have z3:=af zz.2.2.1;have z4:0<nn.toNat:=au zz.2.2.2.1;have z5:=au zz.2.2.2.2.1;have z6:=af zz.2.2.2.2.2;obtain⟨c1,c2,c3⟩:=bG1 (N:=N) hc hrr hm.l;have hmem:=U4 hfb;have hB:=hM.hp b hmem.1;unfold BkOk at hB;rw[hsb,hxb]at hB;have hB:Blk w (N b.l) b.ty (A5 J N b.cs):=hB;rw[hmem.2,af zz.2.1]at hB;have hdl:(A5 J N b.cs).length=nn.toNat*lvb.length:=by unfold A5;rw[aE];exact z6
              refine⟨N l,nn.toNat,⟨fun _=>⟨(A5 J N b.cs).toArray,hB,by rw[List.size_toArray];exact hdl,bu z5 bA,?_⟩,Nat.le_of_eq c1,c2⟩,?_, .inr ⟨b,hmem.1,by rw[hmem.2],zz.1, .inl (by unfold Bk.L4;rw[hsb,hxb];rfl),by rw[hmem.2]⟩⟩
              .show(A5 J N b.cs).take _=_;rw[c1,c3]
              .show Value.slice (some ⟨N l,0,none⟩) (u9 J len).i.toNat (u9 J cap).i.toNat=_;rw[U8 hl1,U8 hl2,c1];show Value.slice (some ⟨N l,0,none⟩) nn.toNat kk.toNat=_;unfold aC9;rw[if_neg U,<-z3]
             .cases hbase
            .cases hbase
           .cases hbase
          .cases hbase
         obtain⟨g,cap,hrow,hxv,hold⟩:=hb;have htl:(u9 J (bG8 s1 r)).c=(u9 J s1).c++(u9 J r).c:=bj6 ..;have hbd:((u9 J s1).c.length+(u9 J r).c.length)*i.bytes<=140737488355328:=by
          rw[az]at htot;have:(((u9 J s1).c.length+(u9 J r).c.length:Nat):Int)*(i.bytes:Int)<=140737488355328:=htot;rw[<-Int.natCast_mul]at this;exact Int.ofNat_le.1 this
         have hs:∃ A kk,yv.A1 J N= .slice A (u9 J r).c.length kk/\Reads w w.heap.size i.size A (u9 J r).c.length (u9 J r).c.flatten/\∀ x∈(u9 J r).c,S1 lv' x:=by
          unfold eF6 at hsrc;split at hsrc
          .injection hsrc with hsrc;injection hsrc with b1 b2;subst b1 b2;exact⟨none,0,rfl,Reads.bu9,fun _ h=>bF⟩
          .rename_i l off len cp;split at hsrc
           .rename_i b nn hfb hlit;split at hsrc
            .rename_i hsb;split at hsrc
             .rename_i zz;simp only[m5]at zz;have z2:=au zz.1;have hno:=Xt.a56 zz.2;obtain⟨c1,c2,c3⟩:=bG1 (N:=N) hc hsrc hm.r.l;have hmem:=U4 hfb;have hB:=hM.hp b hmem.1;unfold BkOk at hB;rw[hsb,hno]at hB;have hB:Blk w (N b.l) b.ty (A5 J N b.cs):=hB;rw[hmem.2]at hB;have hfl:(u9 J r).c.flatten.length=(u9 J r).c.length*i.size:=by rw[aP2 (m:=lv'.length) fun x hx=>aA7 (c2 x hx),q1]
              refine⟨some ⟨N l,off,none⟩,(u9 J cp).i.toNat,?_,⟨hfl,fun h0=>⟨_,rfl,hB.lt,fun j u hj=>?_⟩⟩,c2⟩
              .rw[U8 hlit,c1];rfl
              .rw[Addr.add_mid,hB.ag8];rw[c3,aO1,aL,aS]at hj;split at hj
               .exact hj
               .cases hj
             .cases hsrc
            .cases hsrc
           .cases hsrc
          .rename_i l mm off len an;split at hsrc
           .rename_i lvr sr hfr;split at hsrc
            .rename_i zz;simp only[m5]at zz;have zlv:=aZ9 zz.1;have zm:=af zz.2;subst zlv zm;injection hsrc with hsrc;injection hsrc with b1 b2;subst b1 b2;obtain⟨ty',hB⟩:=as7 hfr hM.hp;obtain⟨r1,r2,r3⟩:=bB6 hc hm.r.l;have hcap:=hB.len;have hx:=dn8 hc sr off (U0 off len);rw[X2]at hx;have hcl:(u9 J (bA7 c sr off (U0 off len))).c=((u9 J sr).c.drop (u9 J off).i.toNat).take (u9 J len).i.toNat:=by
              rw[hx];unfold bk7;congr 1;omega
             have hln:(u9 J (bA7 c sr off (U0 off len))).c.length=(u9 J len).i.toNat:=by
              rw[hcl,aU,bo];omega
             have hk:∀ x∈(u9 J (bA7 c sr off (U0 off len))).c,S1 lv' x:=fun x hx=>by
              rw[hcl]at hx;exact hB.ok x (List.mem_of_mem_drop (List.mem_of_mem_take hx))
             have hfl:(u9 J (bA7 c sr off (U0 off len))).c.flatten.length=(u9 J (bA7 c sr off (U0 off len))).c.length*i.size:=by rw[aP2 (m:=lv'.length) fun x hx=>aA7 (hk x hx),q1]
             by_cases h0:N (l+1)=0
             .have e0:(u9 J (bA7 c sr off (U0 off len))).c=[]:=ay U;refine⟨none,0,?_,?_,hk⟩
              .show C.G2 J N (.slt l lv'.length off len an)=_;rw[aE6,hln];unfold aK5;rw[if_pos h0];congr 1;omega
              .rw[e0];exact Reads.bu9
             .refine⟨some ⟨N l,(if N (l+1)=(u9 J off).i.toNat then(u9 J an).i.toNat else(u9 J off).i.toNat)*lv'.length,none⟩,N (l+1) - (u9 J off).i.toNat,?_,⟨hfl,fun hpos=>⟨_,rfl,?_,fun j u hj=>?_⟩⟩,hk⟩
              .show C.G2 J N (.slt l lv'.length off len an)=_;rw[aE6,hln];unfold aK5;rw[if_neg h0]
              .obtain⟨cur,hh,_⟩:=hB.row h0;exact(aP.1 hh).1
              .have hjl:=(List.getElem?_eq_some_iff.1 hj).1;rw[hfl,hln,<-q1]at hjl;have hL:0<lv'.length:=by omega
               have hdm:=Nat.div_add_mod j lv'.length;have hmod:=Nat.mod_lt j hL;have hdiv:j /lv'.length<(u9 J len).i.toNat:=Nat.div_lt_of_lt_mul (by rw[Nat.mul_comm];exact hjl);have hj':j=j /lv'.length*lv'.length+j % lv'.length:=by rw[Nat.mul_comm];omega
               rw[hj',ax3 (m:=lv'.length) (fun x hx=>aA7 (hk x hx)) U hmod,hcl]at hj;rw[show(((u9 J sr).c.drop (u9 J off).i.toNat).take (u9 J len).i.toNat).getD (j /lv'.length) []=(u9 J sr).c.getD ((u9 J off).i.toNat+j /lv'.length) []from by
                rw[List.getD,aL,if_pos hdiv,aS];rfl]at hj
               have:=hB.eJ3 U hj;rw[if_neg U,Addr.add_mid];rw[show(u9 J off).i.toNat*lv'.length+j=((u9 J off).i.toNat+j /lv'.length)*lv'.length+j % lv'.length from by rw[Nat.add_mul];omega];exact this
            .cases hsrc
           .cases hsrc
          .cases hsrc
         obtain⟨A,kk,hyv,hreads,hrk⟩:=hs;obtain⟨g',c',w',hrun,hG⟩:=dq5 (ty:=o.type) ht hi hz q2 q1 q3 q4 hrow hreads rfl hrk hbd;refine⟨E8 (E8 N n g') (n+1) c',w',?_,hM.cZ3 n hn hf hf1 hG htl hold⟩;obtain⟨callee,args,ats⟩:=k;simp only[]at hcal hargs hats;subst hcal;have e1:args=#[x,y]:=by cases args;simp at hargs;rw[hargs]
         have e2:ats=#[t,t]:=by cases ats;simp at hats;rw[hats]
         subst e1 e2;have hval:C.G2 J (E8 (E8 N n g') (n+1) c') (.slt n lv'.length i9 (aB4 c (bG8 s1 r)) i9)=aC9 g' c' ((u9 J s1).c.length+(u9 J r).c.length):=by
          rw[aE6,K7,B3 (show n≠n+1 from by omega),K7,aH1 hc,htl,az];exact aD2 _ _ _ _
         rw[hval];unfold execOp;rw[<-hxv,<-hyv]at hrun;simp only[ho,resolve,invoke,builtin,am,aq,ai,List.map_toArray,aW,List.map_nil,hev _ _ hx,hev _ _ hy,hrun]
        .cases h
       .cases h
      .cases h
     .cases h
    .cases h
   .cases h
  .cases h
 .cases h
def ai6:Kd->Value
 | .int k=> .int k 0
 | .bool=> .bool false
 | .str=> .string K4
 | .ptr=> .pointer none
 | .sls=> .slice none 0 0
def cR6:Kd->Option C
 | .int k=>some (.int k i9)
 | .bool=>some (.bool l4)
 | .str=>some (.str p9)
 | .ptr=>none
 | .sls=>none
def bK5:List Kd->List C->Bool
 | [],[]=>true
 | k::lv,x::cs=>(match cR6 k with|some y=>bL0 y x|none=>false)&&bK5 lv cs
 | _,_=>false
theorem bZ7{J:Env}{N:Bn}:∀{lv:List Kd} {cs:List C},bK5 lv cs=true->A5 J N cs=lv.map ai6/\∀ r,S1 lv r->an1 r=lv.map ai6/\S1 lv (lv.map ai6)
 | [],[],_=>⟨rfl,fun r hr=>by
   rw[ay (aA7 hr)];exact⟨rfl,trivial⟩⟩
 | k::lv,x::cs,h=>by
   simp only[bK5,m5]at h;obtain⟨i1,i2⟩:=bZ7 (J:=J) (N:=N) h.2;have h1:=h.1;split at h1
   .rename_i y hy;have hx:=a99 h1;subst hx;refine⟨?_,fun r hr=>?_⟩
    .rw[aW,<-i1];show C.G2 J N y::A5 J N cs=_;congr 1;cases k<;>simp only[cR6]at hy<;>first
      | (injection hy with hy;subst hy;rfl)
      | cases hy
    .cases r with
     | nil=>exact hr.elim
     | cons v r=>
       obtain⟨j1,j2⟩:=i2 r hr.2;refine⟨?_,?_,j2⟩
       .show dQ5 v::an1 r=ai6 k::_;rw[j1];congr 1;cases k with
        | int k=>obtain⟨n,rfl,_⟩:=hr.1;rfl
        | bool=>obtain⟨n,rfl⟩:=hr.1;rfl
        | str=>obtain⟨n,rfl,_⟩:=hr.1;rfl
        | ptr=>cases hy
        | sls=>cases hy
       .cases k with
        | int k=>exact⟨0,rfl,by cases k<;>decide⟩
        | bool=>exact⟨false,rfl⟩
        | str=>exact⟨K4,rfl,bf _⟩
        | ptr=>cases hy
        | sls=>cases hy
   .cases h1
 | [],_::_,h=>by cases h
 | _::_,[],h=>by cases h
theorem bi5(z:Array Value)(n:Nat):(Builtin.zeroCells z n).toList=(List.replicate n z.toList).flatten:=by
 rcases Nat.eq_zero_or_pos z.size with h0|h0
 .have:z=#[]:=Array.eq_empty_of_size_eq_zero h0;subst this;simp[Builtin.zeroCells]
 .have hr:∀ x∈List.replicate n z.toList,x.length=z.size:=fun x hx=>by rw[List.eq_of_mem_replicate hx];simp
  have hl:=aP2 hr;rw[bj]at hl;apply List.ext_getElem
  .rw[hl];simp[Builtin.zeroCells]
  .intro j h1 h2;have hj:j<n*z.size:=by rw[<-hl];exact h2
   have hd:=Nat.div_add_mod j z.size;have hm:=Nat.mod_lt j h0;have hdiv:j /z.size<n:=Nat.div_lt_of_lt_mul (by rw[Nat.mul_comm];exact hj);have hj':j=j /z.size*z.size+j % z.size:=by rw[Nat.mul_comm];omega
   have:=ax3 (m:=z.size) hr (i:=j /z.size) (f:=j % z.size) (by rw[bj];exact hdiv) hm;rw[<-hj']at this;have e1:((List.replicate n z.toList).getD (j /z.size) [])=z.toList:=by
    rw[List.getD,List.getElem?_replicate,if_pos hdiv];rfl
   rw[e1,ar h2]at this;have e2:z.toList[j % z.size]? =some z[j % z.size]:=by simp[hm]
   rw[e2]at this;injection this with this;rw[this];simp[Builtin.zeroCells,hm]
theorem bj2{P:Program}(w:World)(t e ty:TypeId)(z:Value)(ht:P.underlying t=some (.slice e))(hv:∀ w,(zeroValue e).run P w= .ok z w)(h1:∀ v∈z.cells.toList,v.oneCell'=true)(b o n c:Nat)(hn:0<n)
 (hc:∀ j,j<n*z.cells.size->(w.cell? ⟨b,o+j,none⟩).isSome=true) (hf:∀ j,j<n*z.cells.size->w.frozen? ⟨b,o+j,none⟩=false):
 (Builtin.clear_ #[t] ty #[.slice (some ⟨b,o,none⟩) n c]).run P w= .ok (.tuple #[]) (w.setCells b o (List.replicate n z.cells.toList).flatten):=by
 have hzc:=bi5 z.cells n;have hlen:(List.replicate n z.cells.toList).flatten.length=n*z.cells.size:=by
  rw[aP2 (m:=z.cells.size) fun x hx=>by rw[List.eq_of_mem_replicate hx];simp,bj]
 have hst:=run_storeCells_cells (P:=P) b o (List.replicate n z.cells.toList).flatten 0 w (by rw[hlen];simpa using hc) (by rw[hlen];simpa using hf) (by
  intro v hv';obtain⟨r,hr,hu⟩:=List.mem_flatten.1 hv';rw[List.eq_of_mem_replicate hr]at hu;exact h1 v hu)
 simp only[Nat.add_zero]at hst;obtain⟨m,rfl⟩:∃ m,n=m+1:=⟨n - 1,by omega⟩;simp[Builtin.clear_,run_underlying ht,hv,hzc,hst]
def b83(P:Program)(c:Cx)(hp:List Bk)(ev:Operand->Option SV)(k:Call):Option (List Tm × List Bk):=
 match k.callee,k.args.toList,k.argTypes.toList with
 | .builtin .clear,[x],[t]=>
   match ev x,P.underlying t with
   | some (.one (.c (.slt l m off len an))),some (.slice e)=>
     match aD0 l hp,ae4 P e with
     | some b,some cs=>
       match b.str,b.x with
       | none, .tab lv s=>if b.rw&&(Nat.beq m lv.length&&bK5 lv cs)then some (F9 c (.le i9 off)++(F9 c (.le i9 len)++(F9 c (.le (U0 off len) (aB4 c s))++F9 c (.le (aB4 c s) (U0 off len)))),aV0 { b with x:= .tab lv (.tb .clr s off i9) } hp)else none
       | _,_=>none
     | _,_=>none
   | _,_=>none
 | _,_,_=>none
theorem cm9{J:Env}{N:Bn}{P:Program}{t:TypeId}{cs:List C}(h:ae4 P t=some cs):∃ z:Value,z.cells.toList=A5 J N cs/\∀ w,(zeroValue t).run P w= .ok z w:=by
 unfold ae4 at h;split at h
 .rename_i i hi;split at h
  .rename_i z hz;refine⟨z,(al5 (J:=J) (N:=N) h).symm,fun w=>?_⟩;simp only[zeroValue,typeInfo,am,run_program,ai,hi,hz,aq]
  .cases h
 .cases h
theorem dG8{l:List (List Value)}{zs:List Value}{m o:Nat}(hl:∀ r∈l,r.length=m)(hz:∀ r∈l,an1 r=zs)(hzl:zs.length=m)(ho:o<=l.length):(l.take o++(l.drop o).map an1).flatten=aA9 l.flatten (o*m) (List.replicate (l.length - o) zs).flatten:=by
 have e1:(l.drop o).map an1=List.replicate (l.length - o) zs:=by
  rw[<-bo];generalize hd:l.drop o=d;have hm:∀ r∈d,an1 r=zs:=fun r hr=>hz r (List.mem_of_mem_drop (by rw[hd];exact hr))
  clear hd
  induction d with
  | nil=>rfl
  | cons r d ih=>
    rw[aW,List.length_cons,List.replicate_succ,hm r (ae ..),ih fun x hx=>hm x (aj _ hx)]
 have e2:(List.replicate (l.length - o) zs).flatten.length=(l.length - o)*m:=by
  rw[aP2 (m:=m) fun x hx=>by rw[List.eq_of_mem_replicate hx];exact hzl,bj]
 have e3:l.flatten.length=l.length*m:=aP2 hl;have e4:(l.take o).flatten=l.flatten.take (o*m):=by
  have h1:(l.take o).flatten.length=o*m:=by
   rw[aP2 (m:=m) fun x hx=>hl x (List.mem_of_mem_take hx),aU,Nat.min_eq_left ho]
  have h2:l.flatten=(l.take o).flatten++(l.drop o).flatten:=by rw[<-List.flatten_append,List.take_append_drop]
  rw[h2,List.take_append_of_le_length U];exact(bh U).symm
 rw[List.flatten_append,e1,e4];unfold aA9;rw[e2];have h5:o*m+(l.length - o)*m=l.length*m:=by
  rw[<-Nat.add_mul];congr 1;omega
 rw[h5,List.drop_of_length_le U,ao]
theorem cr1{J:Env}(hJ:J.R8){N:Bn}{P:Program}{S:Nat->Prop}{w0 w:World}{N0:Bn}{n0:Nat}{s:St}{a:Act}(hM:Md J S w0 N0 n0 s N a w){c:Cx}(hc:c.ok J){ev:Operand->Option SV}(hev:∀ x v,ev x=some v->a.eval x=v.A1 J N)
 {o:Oper} {k:Call} (ho:o.op= .call k) {m:List Tm} {hp':List Bk} (h:b83 P c s.hp ev k=some (m,hp')) (hm:Met J m):
 ∃ w',(execOp a.eval o).run P w= .ok (.value (.tuple #[])) w'/\Md J S w0 N0 n0 { s with hp:=hp' } N a w':=by
 unfold b83 at h;split at h
 .rename_i x t hcal hargs hats;split at h
  .rename_i l mm off len an e hx ht;split at h
   .rename_i b cs hf hz;split at h
    .rename_i lv tt hs hxx;split at h
     .rename_i q;simp only[m5]at q;have q1:=af q.2.1;injection h with h;injection h with e1 e2;subst e1 e2 q1;obtain⟨z,hzc,hzv⟩:=cm9 (J:=J) (N:=N) hz;obtain⟨k1,k2⟩:=bZ7 (J:=J) (N:=N) q.2.2;have m1:=B2 (z0 hc hm.l);have m2:=B2 (z0 hc hm.r.l);have m3:=B2 (z0 hc hm.r.r.l);have m4:=B2 (z0 hc hm.r.r.r);rw[aH1 hc,X2]at m3 m4;change(0:Int)<=_ at m1;change(0:Int)<=_ at m2;have hmem:=U4 hf;have hB0:=hM.hp b hmem.1;unfold BkOk at hB0;rw[hs,hxx]at hB0;have hB:RowT w (N b.l) (N (b.l+1)) b.ty lv (u9 J tt).c:=hB0;have hlen:=hB.len;have hoth:∀ w',(∀ x∈s.hp,x.l≠b.l->BkOk J N w' x)->Only S w0 w'->RowT w' (N b.l) (N (b.l+1)) b.ty lv (u9 J (.tb .clr tt off i9)).c->Md J S w0 N0 n0 { s with hp:=aV0 { b with x:= .tab lv (.tb .clr tt off i9) } s.hp } N a w':=fun w' h1 h2 h3=>
       hM.bT7 (b:=b) (nb:= { b with x:= .tab lv (.tb .clr tt off i9) }) hmem.1 rfl (fun hr=>by
        refine hr.imp (fun h=>?_) id;unfold Bk.L4 at h ⊢;rw[hs]at h ⊢;cases h) (fun h=>h) h2 (by
        unfold BkOk;rw[hs];exact h3) h1
      have hrun:∃ w',(Builtin.clear_ #[t] o.type #[C.G2 J N (.slt l lv.length off len an)]).run P w= .ok (.tuple #[]) w'/\(∀ x∈s.hp,x.l≠b.l->BkOk J N w' x)/\Only S w0 w'/\RowT w' (N b.l) (N (b.l+1)) b.ty lv (u9 J (.tb .clr tt off i9)).c:=by
       have hnew:(u9 J (.tb .clr tt off i9)).c=(u9 J tt).c.take (u9 J off).i.toNat++((u9 J tt).c.drop (u9 J off).i.toNat).map an1:=rfl;rw[hnew];by_cases h0:(u9 J len).i.toNat=0
       .have hdrop:(u9 J tt).c.drop (u9 J off).i.toNat=[]:=List.drop_of_length_le U;refine⟨w,?_,fun x hx _=>hM.hp x hx,hM.only,?_⟩
        .rw[aE6,h0];unfold aK5;split<;>simp[Builtin.clear_,run_underlying ht]
        .rw[hdrop,List.map_nil,ao,bh U];exact hB
       .have hc0:N (b.l+1)≠0:=by omega
        have hreal:b.G0 N:= .inr hc0;have hmay:=hM.ar5 b hmem.1 q.1 hreal;obtain⟨cur,c1,c2,c3,c4⟩:=hB.blk hc0;have hzl:z.cells.size=lv.length:=by
         have:=congrArg List.length hzc;rw[k1,aE]at this;simpa using this
        have hzl':(lv.map ai6).length=lv.length:=aE ..;have hcl2:(u9 J tt).c.length*lv.length<=cur.length:=by rw[c2];exact Nat.mul_le_mul_right _ hlen
        have hin:(u9 J off).i.toNat*lv.length+(u9 J len).i.toNat*lv.length=(u9 J tt).c.length*lv.length:=by
         rw[<-Nat.add_mul];congr 1;omega
        have hlo:(u9 J len).i.toNat=(u9 J tt).c.length - (u9 J off).i.toNat:=by omega
        have hfl:(List.replicate (u9 J len).i.toNat (lv.map ai6)).flatten.length=(u9 J len).i.toNat*lv.length:=by
         rw[aP2 (m:=lv.length) fun x hx=>by rw[List.eq_of_mem_replicate hx];exact hzl',bj]
        have hrun:=bj2 (P:=P) w t e o.type z ht hzv (fun v hv=>by
         rw[hzc]at hv;exact al8 hJ N cs v hv) (N b.l) ((u9 J off).i.toNat*lv.length) (u9 J len).i.toNat (N (b.l+1) - (u9 J off).i.toNat) U (fun j hj=>by
         rw[hzl]at hj;rw[c1.ag8,ar U];rfl) (fun j hj=>c1.Z5 _)
        rw[hzc,k1]at hrun;refine⟨w.setCells (N b.l) ((u9 J off).i.toNat*lv.length) (List.replicate (u9 J len).i.toNat (lv.map ai6)).flatten,?_,fun x hx hne=>hM.a58 (b:=b) hmem.1 hreal (fun g hg=>aQ4 (w:=w) hg _ _ _) x hx hne,aQ3 hmay _ _ hM.only,?_⟩
        .rw[aE6,<-hmem.2];unfold aK5;rw[if_neg hc0,if_neg (show ¬N (b.l+1)=(u9 J off).i.toNat by omega)];exact hrun
        .have hst:=aQ2 (List.replicate (u9 J len).i.toNat (lv.map ai6)).flatten ((u9 J off).i.toNat*lv.length) c1 (by rw[hfl];omega);have hrows:=hB.dI3;have hflat:=dG8 (l:=(u9 J tt).c) (zs:=lv.map ai6) (m:=lv.length) (o:=(u9 J off).i.toNat) hrows (fun r hr=>(k2 r (hB.ok r hr)).1) hzl' U;have hlen2:((u9 J tt).c.take (u9 J off).i.toNat++((u9 J tt).c.drop (u9 J off).i.toNat).map an1).length=(u9 J tt).c.length:=by
          rw[az,aE,<-az,List.take_append_drop]
         refine RowT.cr9 hst ?_ c3 ?_ (by rw[hlen2];exact hlen) ?_
         .have:=az7 (cs:=cur) (o:=(u9 J off).i.toNat*lv.length) (vs:=(List.replicate (u9 J len).i.toNat (lv.map ai6)).flatten) (by rw[hfl];omega);exact this.trans c2
         .rw[hlen2,hflat,<-hlo];exact a52 (o:=(u9 J off).i.toNat*lv.length) (vs:=(List.replicate (u9 J len).i.toNat (lv.map ai6)).flatten) c4 hcl2 (by rw[hfl];omega)
         .intro r hr;rcases aC.1 hr with hr|hr
          .exact hB.ok r (List.mem_of_mem_take hr)
          .obtain⟨r',hr',rfl⟩:=aZ.1 hr;have:=k2 r' (hB.ok r' (List.mem_of_mem_drop hr'));rw[this.1];exact this.2
      obtain⟨w',hrun,h1,h2,h3⟩:=hrun;refine⟨w',?_,hoth w' h1 h2 h3⟩;obtain⟨callee,args,ats⟩:=k;simp only[]at hcal hargs hats;subst hcal;have e1:args=#[x]:=by cases args;simp at hargs;rw[hargs]
      have e2:ats=#[t]:=by cases ats;simp at hats;rw[hats]
      subst e1 e2;have hxv:=hev _ _ hx;change a.eval x=C.G2 J N (.slt l lv.length off len an)at hxv;unfold execOp;simp only[ho,resolve,invoke,builtin,am,aq,ai,List.map_toArray,aW,List.map_nil,hxv,hrun]
     .cases h
    .cases h
   .cases h
  .cases h
 .cases h
def c97(P:Program)(n0:Nat)(s:St)(o:Oper)(n:Nat):Option (List Tm × List Bk × Nat × SV):=
 match o.op with
 | .store t x y=>match opd s.tm x,opd s.tm y with
   | some x,some y=>(b27 P s.cx s.hp t x y).map fun r=>(r.1,r.2,s.nx,aE3)
   | _,_=>none
 | .call k=>match cW2 P s.cx s.hp (opd s.tm) k with
   | some (m,old,e,lv,t)=>if Nat.ble n0 n&&(s.T8 n&&s.T8 (n+1))then some (m,(s.ae7 n e old lv t).hp,max s.nx (n+2), .one (.c (.slt n lv.length i9 (aB4 s.cx t) i9)))else none
   | none=>match b83 P s.cx s.hp (opd s.tm) k with
     | some (m,hp)=>some (m,hp,s.nx,aE3)
     | none=>none
 | _=>none
theorem dl8{J:Env}(hJ:J.R8){N:Bn}{P:Program}{S:Nat->Prop}{w0 w:World}{N0:Bn}{n0:Nat}{s s1:St}{a:Act}(hM:Md J S w0 N0 n0 s1 N a w)(ehp:s1.hp=s.hp)(etm:s1.tm=s.tm)(hc:s.cx.ok J){o:Oper}{n:Nat}{m:List Tm}{hp':List Bk}{nx':Nat}{v:SV}
 (h:c97 P n0 s o n=some (m,hp',nx',v)) (hm:Met J m):∃ N' w' r,(execOp a.eval o).run P w= .ok r w'/\(r= .value (v.A1 J N')\/r= .skip/\v=aE3)/\Md J S w0 N0 n0 { s1 with hp:=hp',nx:=nx' } N' a w':=by
 have hev:∀ x v,opd s.tm x=some v->a.eval x=v.A1 J N:=fun x v hx=>Sy.Md.opd hM (by rw[etm];exact hx)
 unfold c97 at h;split at h
 .rename_i t x y ho;split at h
  .rename_i x' y' hx hy;obtain⟨r,hst,e⟩:=aw.1 h;injection e with e1 e;injection e with e2 e;injection e with e3 e4;subst e1 e2 e3 e4;obtain⟨w',hrun,hM'⟩:=cn3 hJ hM hc (by rw[ehp];exact hst) hm;refine⟨N,w', .skip,?_, .inr ⟨rfl,rfl⟩,⟨hM'.act,hM'.hp,hM'.ne,hM'.may,hM'.cx,hM'.only,hM'.old⟩⟩;unfold execOp;simp only[ho,hev _ _ hx,hev _ _ hy,am,hrun,ai,aq]
  .cases h
 .rename_i k ho;split at h
  .rename_i m' old e lv t hg;split at h
   .rename_i q;simp only[m5]at q;injection h with h;injection h with e1 h;injection h with e2 h;injection h with e3 e4;subst e1 e2 e3 e4;have efr:∀ j,s1.T8 j=s.T8 j:=fun j=>by unfold St.T8;rw[ehp,etm]
    obtain⟨N',w',hrun,hM'⟩:=dF0 hM hc hev ho (by rw[ehp];exact hg) hm n (au q.1) (by rw[efr];exact q.2.1) (by rw[efr];exact q.2.2);refine⟨N',w',_,hrun, .inl rfl,⟨hM'.act,?_,?_,?_,hM'.cx,hM'.only,hM'.old⟩⟩
    .have:=hM'.hp;unfold St.ae7 at this ⊢;rw[ehp]at this;exact this
    .have:=hM'.ne;unfold St.ae7 at this ⊢;rw[ehp]at this;exact this
    .have:=hM'.may;unfold St.ae7 at this ⊢;rw[ehp]at this;exact this
   .cases h
  .split at h
   .rename_i m' hp2 hcl;injection h with h;injection h with e1 h;injection h with e2 h;injection h with e3 e4;subst e1 e2 e3 e4;obtain⟨w',hrun,hM'⟩:=cr1 hJ hM hc hev ho (by rw[ehp];exact hcl) hm;exact⟨N,w',_,hrun, .inl rfl,⟨hM'.act,hM'.hp,hM'.ne,hM'.may,hM'.cx,hM'.only,hM'.old⟩⟩
   .cases h
 .cases h
end Sy
end Go.Proofs.YtnlcpcmdlcakgaaGreat
