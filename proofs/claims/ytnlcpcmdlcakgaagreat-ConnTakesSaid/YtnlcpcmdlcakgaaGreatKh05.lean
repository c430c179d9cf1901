/- A part of the proof that a connection answers as the document says: SyR SyI Own. -/
import Derived.Laws.IdiomStrings
import Derived.Laws.BytesArg
import Derived.Deep.RegionHeld3
import Derived.Maps.AppendAt
import Derived.Deep.AppendLies
import Derived.RegionTactic
import Derived.Test.YtnlcpcmdlcakgaaGreatKh04
set_option maxRecDepth 100000
set_option maxHeartbeats 4000000
set_option linter.unusedVariables false
set_option linter.unusedSimpArgs false
set_option linter.unusedSectionVars false
namespace Go.Proofs.YtnlcpcmdlcakgaaGreat
namespace Sy
open Go Go.RowKit Go.BigFrame
def al3(hp:List Bk)(l:Nat):Option Tm:=
 match aD0 l hp with
 | some b=>b.str
 | none=>none
theorem ai9{J:Env}{N:Bn}{w:World}{hp:List Bk}{l:Nat}{s:Tm}(h:al3 hp l=some s)(hb:∀ b∈hp,BkOk J N w b):∃ ty own,RowB w (N l) (N (l+1)) ty own (u9 J s).s.data.toList:=by
 unfold al3 at h;split at h
 .rename_i b hf;have hm:=U4 hf;have hB:=hb b hm.1;unfold BkOk at hB;rw[h]at hB;rw[hm.2]at hB;exact⟨_,_,hB⟩
 .cases h
def bL8(c:Cx)(s off len:Tm):List Tm:=F9 c (.le i9 off)++(F9 c (.le i9 len)++F9 c (.le (U0 off len) (Q6 c s)))
theorem ax1{J:Env}{c:Cx}(hc:c.ok J){s off len:Tm}(h:Met J (bL8 c s off len)):0<=(u9 J off).i/\0<=(u9 J len).i/\(u9 J off).i+(u9 J len).i<=((u9 J s).s.data.toList.length:Int):=by
 have h1:=B2 (z0 hc h.l);have h2:=B2 (z0 hc h.r.l);have h3:=B2 (z0 hc h.r.r);rw[X2,Q8 hc]at h3;refine⟨h1,h2,?_⟩;simp;exact h3
def aO9(g c o n:Nat):Value:=if c=0 then .slice none 0 0 else .slice (some ⟨g,if c=o then 0 else o,none⟩) n (c - o)
def ac9(g c o n z:Nat):Value:=if c=0 then .slice none 0 0 else .slice (some ⟨g,if c=o then z else o,none⟩) n (c - o)
theorem bF8(g c n z:Nat):ac9 g c 0 n z=aO9 g c 0 n:=by
 unfold ac9 aO9;by_cases h:c=0
 .rw[if_pos h,if_pos h]
 .rw[if_neg h,if_neg h,if_neg h,if_neg h]
theorem aY2(J:Env)(N:Bn)(l:Nat)(off len an:Tm):C.G2 J N (.slr l off len an)=ac9 (N l) (N (l+1)) (u9 J off).i.toNat (u9 J len).i.toNat (u9 J an).i.toNat:=rfl
def aj1:Option (IntKind × Tm)->Tm
 | some (_,x)=>x
 | none=> .il 0
def a19(len:Tm):Option (IntKind × Tm)->Tm
 | some (_,x)=>x
 | none=>len
def cY9(c:Cx)(off len an lo:Tm):Option Tm:=
 if E7 lo i9 then some an
 else if E7 off i9||X1 c (.lt lo len)then some i9
 else if X1 c (.lt i9 lo)then some off
 else none
def b47(P:Program)(c:Cx)(hp:List Bk)(t:TypeId)(l:Nat)(off len an:Tm)(lo hi:Option (IntKind × Tm)):PR:=
 match al3 hp l,P.underlying t with
 | some s,some (.slice e)=>
   match P.info? e,cY9 c off len an (aj1 lo)with
   | some i,some z=>
     if Nat.beq i.size 1 then
      some (bL8 c s off len++(F9 c (.le i9 (aj1 lo))++(F9 c (.le (aj1 lo) (a19 len hi))++F9 c (.le (a19 len hi) len))), .one (.c (.slr l (U0 off (aj1 lo)) (aB0 (a19 len hi) (aj1 lo)) z)))
     else none
   | _,_=>none
 | _,_=>none
theorem dA8{g c o n L H z z':Nat}(h1:o+n<=c)(h2:L<=H)(h3:H<=n)(hs:(L=0/\z'=z)\/(o=0/\z'=0)\/L<n\/(0<L/\z'=o)):
 ∃(a:Option Addr) (cap:Nat),ac9 g c o n z= .slice a n cap/\n<=cap/\sliced a L H cap 1=ac9 g c (o+L) (H - L) z':=by
 unfold ac9;by_cases hc:c=0
 .rw[if_pos hc,if_pos hc];have:n=0:=by omega
  have hL:L=0:=by omega
  have hH:H=0:=by omega
  subst this hL hH;exact⟨none,0,rfl,aI _,rfl⟩
 .rw[if_neg hc,if_neg hc];refine⟨_,_,rfl,by omega,?_⟩;unfold sliced;by_cases hL:L=0
  .subst hL;simp only[Nat.add_zero,Nat.zero_mul,Nat.sub_zero,ba,Go.Addr.add_zero'];by_cases ho:c=o
   .have hz:z'=z:=by
     rcases hs with h|h|h|h<;>omega
    rw[if_pos ho,if_pos ho,hz];split<;>rfl
   .rw[if_neg ho,if_neg ho];split<;>rfl
  .have ho:c≠o:=by omega
   rw[if_neg ho];by_cases hcl:c - o=L
   .have hz:z'=o:=by
     rcases hs with h|h|h|h<;>omega
    subst hz;rw[if_pos hcl,if_pos U];congr 1;omega
   .rw[if_neg hcl,if_neg U,ba,Nat.mul_one,Addr.add_mid];congr 1;omega
theorem co7{J:Env}{N:Bn}{P:Program}{c:Cx}(hc:c.ok J){hp:List Bk}{w:World}(hb:∀ b∈hp,BkOk J N w b){t:TypeId}{l:Nat}{off len an:Tm}{lo hi:Option (IntKind × Tm)}{m:List Tm}{r:SV}
 (h:b47 P c hp t l off len an lo hi=some (m,r)) (hm:Met J m):
 (Instr.sliceAt t (C.G2 J N (.slr l off len an)) (lo.map fun p=>Value.int p.1 (u9 J p.2).i) (hi.map fun p=>Value.int p.1 (u9 J p.2).i) none).run P w= .ok (r.A1 J N) w:=by
 unfold b47 at h;split at h
 .rename_i s e hf ht;obtain⟨ty,own,hB⟩:=ai9 hf hb;split at h
  .rename_i i z hi' hz;split at h
   .rename_i q;have q1:=af q;injection h with h;injection h with e1 e2;subst e1 e2;obtain⟨b1,b2,b3⟩:=ax1 hc hm.l;have m1:=B2 (z0 hc hm.r.l);have m2:=B2 (z0 hc hm.r.r.l);have m3:=B2 (z0 hc hm.r.r.r);have hcap:=hB.len;have hE:P.elem t=e:=by simp[Program.elem,ht]
    have ht':P.underlying t=some (.slice (P.elem t)):=by rw[hE];exact ht
    generalize hlo:aj1 lo=loT at*;generalize hhi:a19 len hi=hiT at*;change(0:Int)<=_ at m1;have hst:((u9 J loT).i.toNat=0/\(u9 J z).i.toNat=(u9 J an).i.toNat)\/((u9 J off).i.toNat=0/\(u9 J z).i.toNat=0)\/(u9 J loT).i.toNat<(u9 J len).i.toNat\/(0<(u9 J loT).i.toNat/\(u9 J z).i.toNat=(u9 J off).i.toNat):=by
     unfold cY9 at hz;split at hz
     .rename_i q;injection hz with hz;subst hz;rw[H9 q];exact .inl ⟨rfl,rfl⟩
     .split at hz
      .rename_i q;injection hz with hz;subst hz;simp only[bp]at q;rcases q with q|q
       .rw[H9 q];exact .inr (.inl ⟨rfl,rfl⟩)
       .have:=aL4 (L0 hc q);exact .inr (.inr (.inl U))
      .split at hz
       .rename_i q;injection hz with hz;subst hz;have:=aL4 (L0 hc q);change(0:Int)<_ at this;exact .inr (.inr (.inr ⟨by omega,rfl⟩))
       .cases hz
    obtain⟨a,cap,hv,hle,hres⟩:=dA8 (z:=(u9 J an).i.toNat) (z':=(u9 J z).i.toNat) (g:=N l) (c:=N (l+1)) (o:=(u9 J off).i.toNat) (n:=(u9 J len).i.toNat) (L:=(u9 J loT).i.toNat) (H:=(u9 J hiT).i.toNat) U U U hst;rw[aY2,hv,run_sliceAt_slice w t _ _ _ _ ht',run_slice_any w t _ _ _ ht'];have hsz:(sizeOf (P.elem t)).run P w= .ok 1 w:=by rw[hE];simp[sizeOf,typeInfo,hi',q1]
    have hib:∀(k:IntKind) (n:Int) (y:Nat) (code:BoundsCode),0<=n->n<=y->(Instr.sliceBound (.int k n) y code).run P w= .ok n.toNat w:=fun k n y code h1 h2=>by
     simp[Instr.sliceBound,asIntOf,h1,h2]
    have hbd:(Instr.sliceBounds true (u9 J len).i.toNat cap (lo.map fun p=>Value.int p.1 (u9 J p.2).i) (hi.map fun p=>Value.int p.1 (u9 J p.2).i) none).run P w= .ok ((u9 J loT).i.toNat,(u9 J hiT).i.toNat,cap) w:=by
     rcases lo with _|⟨k,x⟩<;>rcases hi with _|⟨k',y⟩<;>simp only[aj1,a19]at hlo hhi<;>subst hlo hhi
     .simp only[Option.map_none,Instr.sliceBounds,am,aq,ai];rfl
     .have:=hib k' (u9 J y).i cap .sliceAcap U U;simp only[Option.map_none,ba,Instr.sliceBounds,am,aq,ai,if_true,this];rfl
     .have:=hib k (u9 J x).i (u9 J len).i.toNat .sliceB U U;simp only[Option.map_none,ba,Instr.sliceBounds,am,aq,ai,Option.isSome_none,ax,if_false,this]
     .have h1:=hib k' (u9 J y).i cap .sliceAcap U U;have h2:=hib k (u9 J x).i (u9 J y).i.toNat .sliceB U U;simp only[ba,Instr.sliceBounds,am,aq,ai,Option.isSome_none,ax,if_false,if_true,h1,h2]
    simp only[hbd,ai,hsz];rw[hres];show _=Result.ok (C.G2 J N (.slr l (U0 off loT) (aB0 hiT loT) z)) w;rw[aY2,X2,aA6];congr 2
    .omega
    .omega
   .cases h
  .cases h
 .cases h
def ba7(l:Nat)(off n:Tm):C:=
 match aC4 off,aC4 n with
 | some o,some n=> .ptr l (o.toNat+n.toNat)
 | _,_=> .ptx l (U0 off n)
theorem cT2{J:Env}{N:Bn}{l:Nat}{off n:Tm}(h1:0<=(u9 J off).i)(h2:0<=(u9 J n).i):(ba7 l off n).G2 J N= .pointer (some ⟨N l,(u9 J off).i.toNat+(u9 J n).i.toNat,none⟩):=by
 unfold ba7;split
 .rename_i a b ha hb;rw[U8 ha,U8 hb];rfl
 .show Value.pointer (some ⟨N l,(u9 J (U0 off n)).i.toNat,none⟩)=_;rw[X2,show((u9 J off).i+(u9 J n).i).toNat=(u9 J off).i.toNat+(u9 J n).i.toNat from by omega]
def cT4(P:Program)(c:Cx)(hp:List Bk)(t:TypeId)(l:Nat)(off len:Tm)(ix:SV):PR:=
 match al3 hp l,P.underlying t,ix with
 | some s,some (.slice e), .one (.c (.int k n))=>
   match P.info? e with
   | some i=>if Nat.beq i.size 1 then some (bL8 c s off len++(F9 c (.le i9 n)++(F9 c (.lt n len)++(F9 c (.le i9 (U0 off n))++F9 c (.lt (U0 off n) (Q6 c s))))), .one (.c (ba7 l off n)))else none
   | none=>none
 | _,_,_=>none
theorem dB5{J:Env}{N:Bn}{P:Program}{c:Cx}(hc:c.ok J){hp:List Bk}{w:World}(hb:∀ b∈hp,BkOk J N w b){t:TypeId}{l:Nat}{off len an:Tm}{ix:SV}{m:List Tm}{r:SV}
 (h:cT4 P c hp t l off len ix=some (m,r)) (hm:Met J m):(Instr.indexAt t (C.G2 J N (.slr l off len an)) (ix.A1 J N)).run P w= .ok (r.A1 J N) w:=by
 unfold cT4 at h;split at h
 .rename_i s e k n hf ht;obtain⟨ty,own,hB⟩:=ai9 hf hb;split at h
  .rename_i i hi;split at h
   .rename_i q;have q1:=af q;injection h with h;injection h with e1 e2;subst e1 e2;obtain⟨b1,b2,b3⟩:=ax1 hc hm.l;have m1:=B2 (z0 hc hm.r.l);have m2:=aL4 (z0 hc hm.r.r.l);change(0:Int)<=_ at m1;have hcap:=hB.len;have hE:P.elem t=e:=by simp[Program.elem,ht]
    show(Instr.indexAt t (C.G2 J N (.slr l off len an)) (.int k (u9 J n).i)).run P w=Result.ok ((ba7 l off n).G2 J N) w;rw[cT2 b1 m1,aY2];unfold ac9;rw[if_neg U,if_neg U,run_indexAt_slice w t _ _ _ k _ (by rw[hE];exact ht),hE,if_pos ⟨m1,by omega⟩];simp only[sizeOf,typeInfo,am,run_program,ai,hi,aq,q1,Nat.mul_one,Addr.add_mid]
   .cases h
  .cases h
 .cases h
def b45(P:Program)(c:Cx)(hp:List Bk)(src dst:TypeId)(l:Nat)(off len:Tm):PR:=
 match al3 hp l,P.underlying src,P.underlying dst with
 | some s,some (.slice e),some .string=>
   match P.underlying e with
   | some (.int .u8)=>sS (bL8 c s off len) (aP8 c s off (U0 off len))
   | _=>none
 | _,_,_=>none
theorem bO1(s:ByteArray)(o n:Nat)(h:o+n<=s.data.toList.length):(s.extract o (o+n)).data.toList=(s.data.toList.drop o).take n:=by
 simp only[ByteArray.data_extract,Array.toList_extract,List.extract_eq_take_drop];congr 1;omega
theorem co5{J:Env}{N:Bn}{P:Program}{c:Cx}(hc:c.ok J){hp:List Bk}{w:World}(hb:∀ b∈hp,BkOk J N w b){src dst:TypeId}{l:Nat}{off len an:Tm}{m:List Tm}{r:SV}
 (h:b45 P c hp src dst l off len=some (m,r)) (hm:Met J m):(convert src dst (C.G2 J N (.slr l off len an))).run P w= .ok (r.A1 J N) w:=by
 unfold b45 at h;split at h
 .rename_i s e hf hs hd;obtain⟨ty,own,hB⟩:=ai9 hf hb;split at h
  .rename_i he;injection h with h;injection h with e1 e2;subst e1 e2;obtain⟨b1,b2,b3⟩:=ax1 hc hm;have hcap:=hB.len;have hx:=bO1 (u9 J s).s (u9 J off).i.toNat (u9 J len).i.toNat U;have hfin:(u9 J (aP8 c s off (U0 off len))).s=⟨(((u9 J s).s.data.toList.drop (u9 J off).i.toNat).take (u9 J len).i.toNat).toArray⟩:=by
    rw[ag3 hc,X2,show((u9 J off).i+(u9 J len).i).toNat=(u9 J off).i.toNat+(u9 J len).i.toNat from by omega];apply ByteArray.ext;apply Array.ext';rw[hx]
   show _=Result.ok (Value.string (u9 J (aP8 c s off (U0 off len))).s) w;rw[hfin,aY2];unfold ac9;generalize hbs:((u9 J s).s.data.toList.drop (u9 J off).i.toNat).take (u9 J len).i.toNat=bs;have hlen:bs.length=(u9 J len).i.toNat:=by rw[<-hbs];simp;simp at b3;omega
   by_cases hz:N (l+1)=0
   .rw[if_pos hz,run_convert_bytes_nil w src e hs he 0 0 dst hd];have:bs=[]:=ay U;rw[this];rfl
   .rw[if_neg hz,<-hlen];refine run_convert_bytes_back w src dst e _ _ bs hs he hd ?_;intro j hj;have hj':(u9 J off).i.toNat+j<(u9 J s).s.data.toList.length:=by omega
    rw[if_neg U,Addr.add_mid,(hB.b96 hj').1];congr 3;subst hbs;simp
  .cases h
 .cases h
def b46(P:Program)(c:Cx)(hp:List Bk)(t:TypeId)(l:Nat)(off len:Tm):PR:=
 match al3 hp l,P.underlying t with
 | some s,some (.slice _)=>sI (bL8 c s off len) .i64 len
 | _,_=>none
theorem co6{J:Env}{N:Bn}{P:Program}{c:Cx}(hc:c.ok J){hp:List Bk}{w:World}(hb:∀ b∈hp,BkOk J N w b){t ty:TypeId}{l:Nat}{off len an:Tm}{m:List Tm}{r:SV}
 (h:b46 P c hp t l off len=some (m,r)) (hm:Met J m):(Builtin.len_ #[t] ty #[C.G2 J N (.slr l off len an)]).run P w= .ok (r.A1 J N) w:=by
 unfold b46 at h;split at h
 .rename_i s e hf ht;obtain⟨ty',own,hB⟩:=ai9 hf hb;injection h with h;injection h with e1 e2;subst e1 e2;obtain⟨b1,b2,b3⟩:=ax1 hc hm;have hcap:=hB.len;rw[aY2];unfold ac9;split
  .simp only[Builtin.len_,bi,be,am,run_underlying ht,ai,aq];exact aB9 (show(u9 J len).i=((0:Nat):Int)by omega)
  .simp only[Builtin.len_,bi,be,am,run_underlying ht,ai,aq];exact aB9 (show(u9 J len).i=((u9 J len).i.toNat:Int)by omega)
 .cases h
theorem cells8'_len(l:List UInt8):(W4 l).length=l.length:=by simp[W4]
theorem cells8'_app(a b:List UInt8):W4 (a++b)=W4 a++W4 b:=by simp[W4]
def aV4(c:Cx):List C->Option Tm
 | []=>some p9
 | .int .u8 x::l=>if X1 c (.le (.il 0) x)&&X1 c (.le x (.il 255))then(aV4 c l).map fun s=>aK3 (match aC4 x with|some n=> .sl [UInt8.ofNat n.toNat] |none=> .chr x) s else none
 | _=>none
theorem ax4{J:Env}{N:Bn}{c:Cx}(hc:c.ok J):∀{l:List C} {s:Tm},aV4 c l=some s->A5 J N l=W4 (u9 J s).s.data.toList
 | [],s,h=>by injection h with h;subst h;rfl
 | x::l,s,h=>by
   unfold aV4 at h;split at h
   .injection h with h;subst h;rename_i e;cases e
   .rename_i y l' e;injection e with e1 e2;subst e1 e2;split at h
    .rename_i q;simp only[m5]at q;have x0:=B2 (L0 hc q.1);have x1:=B2 (L0 hc q.2);change(0:Int)<=_ at x0;change _<=(255:Int)at x1;cases hs:aV4 c l with
     | none=>rw[hs]at h;cases h
     | some r=>
       rw[hs]at h;injection h with h;subst h;have ih:=ax4 (N:=N) hc hs;have hx:(u9 J (match aC4 y with|some n=> .sl [UInt8.ofNat n.toNat] |none=> .chr y)).s.data.toList=[UInt8.ofNat (u9 J y).i.toNat]:=by
        split
        .rename_i n hn;rw[U8 hn];rfl
        .exact bT2 x0 x1
       rw[bB0];have e3:∀ a b:ByteArray,(a++b).data.toList=a.data.toList++b.data.toList:=fun a b=>by simp
       rw[e3,hx,cells8'_app,<-ih];show _::_=_::_;congr 1;show Value.int .u8 _= .int .u8 _;congr 1;rw[UInt8.toNat_ofNat'];omega
    .cases h
   .cases h
def b33(P:Program)(c:Cx)(hp:List Bk)(src dst:TypeId)(l off:Nat)(len:Tm):PR:=
 match aD0 l hp,aC4 len,P.underlying src,P.underlying dst with
 | some b,some n,some (.slice e),some .string=>
   match b.str,P.underlying e with
   | none,some (.int .u8)=>if Nat.ble (off+n.toNat) b.cs.length&&b.x.bl3 then(aV4 c ((b.cs.drop off).take n.toNat)).map fun s=>([], .one (.c (.str s)))else none
   | _,_=>none
 | _,_,_,_=>none
theorem cn7{J:Env}{N:Bn}{P:Program}{c:Cx}(hc:c.ok J){hp:List Bk}{w:World}(hb:∀ b∈hp,BkOk J N w b){src dst:TypeId}{l off:Nat}{len cap:Tm}{m:List Tm}{r:SV}
 (h:b33 P c hp src dst l off len=some (m,r)):(convert src dst (C.G2 J N (.slc l off len cap))).run P w= .ok (r.A1 J N) w:=by
 unfold b33 at h;split at h
 .rename_i b n e hf hlit hs hd;split at h
  .rename_i hsb he;split at h
   .rename_i z;simp only[m5]at z;have hno:=Xt.a56 z.2;have z:=au z.1;cases hcb:aV4 c ((b.cs.drop off).take n.toNat)with
    | none=>rw[hcb]at h;cases h
    | some s=>
      rw[hcb]at h;injection h with h;injection h with e1 e2;subst e1 e2;have hcells:=ax4 (N:=N) hc hcb;have hm:=U4 hf;have hB:=hb b hm.1;unfold BkOk at hB;rw[hsb,hno]at hB;have hB:Blk w (N b.l) b.ty (A5 J N b.cs):=hB;rw[hm.2]at hB;have hlen:=congrArg List.length hcells;rw[U5,cells8'_len,aU,bo]at hlen;have hcv:C.G2 J N (.slc l off len cap)= .slice (some ⟨N l,off,none⟩) (u9 J s).s.data.toList.length (u9 J cap).i.toNat:=by
       rw[U8 hlit];show Value.slice _ n.toNat _=_;congr 1;omega
      rw[hcv];show _=Result.ok (Value.string (u9 J s).s) w;have hfin:(u9 J s).s=⟨(u9 J s).s.data.toList.toArray⟩:=by
       apply ByteArray.ext;simp
      rw[hfin];refine run_convert_bytes_back w src dst e _ _ (u9 J s).s.data.toList hs he hd ?_;intro j hj;rw[Addr.add_mid,hB.ag8];have hg:(A5 J N ((b.cs.drop off).take n.toNat))[j]? =(W4 (u9 J s).s.data.toList)[j]? :=by rw[hcells]
      rw[aR4,aO1,aL,aS,if_pos U]at hg;rw[hg];unfold W4;rw[bn,ar hj];rfl
   .cases h
  .cases h
 .cases h
def dD5(P:Program)(c:Cx)(hp:List Bk)(ev:Operand->Option SV):Op->PR
 | .load t x=>match ev x with
   | some x=>(az9 P c hp t x).map fun v=>([], .one v)
   | none=>none
 | .slice t x lo hi mx=>match ev x,at4 ev lo,at4 ev hi,mx with
   | some (.one (.c (.slr l off len an))),some lo,some hi,none=>match a17 lo,a17 hi with
     | some lo,some hi=>b47 P c hp t l off len an lo hi
     | _,_=>none
   | _,_,_,_=>none
 | .indexAddr t x i=>match ev x,ev i with
   | some (.one (.c (.slr l off len an))),some i=>cT4 P c hp t l off len i
   | _,_=>none
 | .convert s d x=>match ev x with
   | some (.one (.c (.slr l off len an)))=>b45 P c hp s d l off len
   | some (.one (.c (.slc l off len cap)))=>b33 P c hp s d l off len
   | _=>none
 | .call k=>match k.callee,k.args.toList,k.argTypes.toList with
   | .builtin .len,[x],[t]=>match ev x with
     | some (.one (.c (.slr l off len an)))=>b46 P c hp t l off len
     | _=>none
   | _,_,_=>none
 | _=>none
theorem do0{J:Env}{N:Bn}{P:Program}{c:Cx}(hc:c.ok J){hp:List Bk}{w:World}(hb:∀ b∈hp,BkOk J N w b){ev:Operand->Option SV}{a:Act}(hev:∀ x v,ev x=some v->a.eval x=v.A1 J N){o:Oper}{m:List Tm}{r:SV}
 (h:dD5 P c hp ev o.op=some (m,r)) (hm:Met J m):(execOp a.eval o).run P w= .ok (.value (r.A1 J N)) w:=by
 obtain⟨dst,op,ty,pos,after,guard⟩:=o;simp only[]at h;cases op<;>simp only[dD5]at h<;>try(cases h;done)
 case load t x=>
  split at h
  .rename_i x' hx;cases hl:az9 P c hp t x' with
   | none=>rw[hl]at h;cases h
   | some v=>
     rw[hl]at h;injection h with h;injection h with h1 h2;subst h1 h2;refine aG0 ?_;rw[hev _ _ hx];exact b64 hc hl hb
  .cases h
 case slice t x lo hi mx=>
  split at h
  .rename_i l off len an lo' hi' h1 h2 h3;split at h
   .rename_i lo'' hi'' h4 h5;refine aG0 ?_;rw[hev _ _ h1,aW3 hev h2,aW3 hev h3,ah0 h4,ah0 h5];exact co7 hc hb h hm
   .cases h
  .cases h
 case indexAddr t x i=>
  split at h
  .rename_i l off len an i' h1 h2;refine aG0 ?_;rw[hev _ _ h1,hev _ _ h2];exact dB5 hc hb h hm
  .cases h
 case convert s d x=>
  split at h
  .rename_i l off len an h1;refine aG0 ?_;rw[hev _ _ h1];exact co5 hc hb h hm
  .rename_i l off len cap h1;refine aG0 ?_;rw[hev _ _ h1];exact cn7 hc hb h
  .cases h
 case call k=>
  obtain⟨callee,args,ats⟩:=k;simp only[]at h;split at h
  .rename_i x t hargs hats;split at h
   .rename_i l off len an h1;rw[execOp_builtin,builtin_len];have e1:args=#[x]:=by cases args;simp at hargs;rw[hargs]
    have e2:ats=#[t]:=by cases ats;simp at hats;rw[hats]
    subst e1 e2;have e3:a.eval x=C.G2 J N (.slr l off len an):=hev _ _ h1;have:=co6 (ty:=ty) (an:=an) hc hb h hm;refine aG0 ?_;simpa[e3]using this
   .cases h
  .cases h
end Sy
end Go.Proofs.YtnlcpcmdlcakgaaGreat
namespace Go.Proofs.YtnlcpcmdlcakgaaGreat
namespace Sy
open Go Go.RowKit
def bK8:List Nat->List Nat->Bool
 | [],[]=>true
 | a::x,b::y=>Nat.beq a b&&bK8 x y
 | _,_=>false
theorem b40:∀{a b:List Nat},bK8 a b=true->a=b
 | [],[],_=>rfl
 | a::x,b::y,h=>by
   simp only[bK8,m5]at h;rw[af h.1,b40 h.2]
 | [],_::_,h=>by simp[bK8]at h
 | _::_,[],h=>by simp[bK8]at h
def bL0:C->C->Bool
 | .int k s, .int l t=>Nat.beq (kNo k) (kNo l)&&E7 s t
 | .bool s, .bool t=>E7 s t
 | .str s, .str t=>E7 s t
 | .ptr a b, .ptr c d=>Nat.beq a c&&Nat.beq b d
 | .nptr, .nptr=>true
 | .slc a b s t, .slc c d u v=>Nat.beq a c&&(Nat.beq b d&&(E7 s u&&E7 t v))
 | .nslc, .nslc=>true
 | .slr a s t x, .slr b u v y=>Nat.beq a b&&(E7 s u&&(E7 t v&&E7 x y))
 | .ptx a s, .ptx b t=>Nat.beq a b&&E7 s t
 | .fn f l, .fn g m=>Nat.beq f g&&bK8 l m
 | .nmap, .nmap=>true
 | .map a, .map b=>Nat.beq a b
 | .opq a, .opq b=>Nat.beq a b
 | .slt a m s t x, .slt b n u v y=>Nat.beq a b&&(Nat.beq m n&&(E7 s u&&(E7 t v&&E7 x y)))
 | .pta a b m s f, .pta c d n t g=>Nat.beq a c&&(Nat.beq b d&&(Nat.beq m n&&(E7 s t&&Nat.beq f g)))
 | .ptv s, .ptv t=>E7 s t
 | .vls s, .vls t=>E7 s t
 | .slz a m s, .slz b n t=>Nat.beq a b&&(Nat.beq m n&&E7 s t)
 | _,_=>false
theorem a99{x y:C}(h:bL0 x y=true):x=y:=by
 cases x<;>cases y<;>simp only[bL0,m5]at h<;>first
  | rfl
  | (cases h;done)
  | skip
 .rw[ac1 (af h.1),H9 h.2]
 .rw[H9 h]
 .rw[H9 h]
 .rw[af h.1,af h.2]
 .rw[af h.1,af h.2.1,H9 h.2.2.1,H9 h.2.2.2]
 .rw[af h.1,H9 h.2.1,H9 h.2.2.1,H9 h.2.2.2]
 .rw[af h.1,H9 h.2]
 .rw[af h.1,b40 h.2]
 .rw[af h]
 .rw[af h]
 .rw[af h.1,af h.2.1,H9 h.2.2.1,H9 h.2.2.2.1,H9 h.2.2.2.2]
 .rw[af h.1,af h.2.1,af h.2.2.1,H9 h.2.2.2.1,af h.2.2.2.2]
 .rw[H9 h]
 .rw[af h.1,af h.2.1,H9 h.2.2]
 .rw[H9 h]
def ap1:List C->List C->Bool
 | [],[]=>true
 | a::x,b::y=>bL0 a b&&ap1 x y
 | _,_=>false
theorem az5:∀{a b:List C},ap1 a b=true->a=b
 | [],[],_=>rfl
 | a::x,b::y,h=>by
   simp only[ap1,m5]at h;rw[a99 h.1,az5 h.2]
 | [],_::_,h=>by simp[ap1]at h
 | _::_,[],h=>by simp[ap1]at h
def bt8:V1->V1->Bool
 | .c x, .c y=>bL0 x y
 | .agg x, .agg y=>ap1 x y
 | _,_=>false
theorem b39{x y:V1}(h:bt8 x y=true):x=y:=by
 cases x<;>cases y<;>simp only[bt8]at h<;>first
  | rw[a99 h]
  | rw[az5 h]
  | cases h
def a46:List V1->List V1->Bool
 | [],[]=>true
 | a::x,b::y=>bt8 a b&&a46 x y
 | _,_=>false
theorem bo1:∀{a b:List V1},a46 a b=true->a=b
 | [],[],_=>rfl
 | a::x,b::y,h=>by
   simp only[a46,m5]at h;rw[b39 h.1,bo1 h.2]
 | [],_::_,h=>by simp[a46]at h
 | _::_,[],h=>by simp[a46]at h
def ba3:SV->SV->Bool
 | .one x, .one y=>bt8 x y
 | .tup x, .tup y=>a46 x y
 | .any a, .any b=>Nat.beq a b
 | _,_=>false
theorem bR6{x y:SV}(h:ba3 x y=true):x=y:=by
 cases x<;>cases y<;>simp only[ba3]at h<;>first
  | rw[b39 h]
  | rw[bo1 h]
  | rw[af h]
  | cases h
def as8:List SV->List SV->Bool
 | [],[]=>true
 | a::x,b::y=>ba3 a b&&as8 x y
 | _,_=>false
theorem aw4:∀{a b:List SV},as8 a b=true->a=b
 | [],[],_=>rfl
 | a::x,b::y,h=>by
   simp only[as8,m5]at h;rw[bR6 h.1,aw4 h.2]
 | [],_::_,h=>by simp[as8]at h
 | _::_,[],h=>by simp[as8]at h
def aa0:List Kd->List Kd->Bool
 | [],[]=>true
 | a::x,b::y=>ab4 a b&&aa0 x y
 | _,_=>false
theorem aZ9:∀{a b:List Kd},aa0 a b=true->a=b
 | [],[],_=>rfl
 | a::x,b::y,h=>by
   simp only[aa0,m5]at h;rw[aw5 h.1,aZ9 h.2]
 | [],_::_,h=>by simp[aa0]at h
 | _::_,[],h=>by simp[aa0]at h
def au5:List Ins->List Ins->Bool
 | [],[]=>true
 | a::x,b::y=>Nat.beq a.pos b.pos&&(aa0 a.lv b.lv&&(Nat.beq a.n b.n&&(E7 a.t b.t&&au5 x y)))
 | _,_=>false
theorem ba5:∀{a b:List Ins},au5 a b=true->a=b
 | [],[],_=>rfl
 | ⟨p,l,n,t⟩::x,⟨q,k,m,u⟩::y,h=>by
   simp only[au5,m5]at h;rw[af h.1,aZ9 h.2.1,af h.2.2.1,H9 h.2.2.2.1,ba5 h.2.2.2.2]
 | [],_::_,h=>by simp[au5]at h
 | _::_,[],h=>by simp[au5]at h
def cS7:Xt->Xt->Bool
 | .no, .no=>true
 | .tab a s, .tab b t=>aa0 a b&&E7 s t
 | .arr a, .arr b=>au5 a b
 | .mp k a v s, .mp l b w t=>aa0 k l&&((match a,b with|true,true=>true|false,false=>true|_,_=>false)&&(ab4 v w&&E7 s t))
 | .own k s, .own l t=>Nat.beq k l&&E7 s t
 | .al s, .al t=>E7 s t
 | _,_=>false
theorem dB0{a b:Xt}(h:cS7 a b=true):a=b:=by
 cases a<;>cases b<;>simp only[cS7,m5]at h<;>first
  | rfl
  | (cases h;done)
  | rw[aZ9 h.1,H9 h.2]
  | rw[af h.1,H9 h.2]
  | rw[ba5 h]
  | rw[H9 h]
  | (rename_i a _ _ _ b _ _
     rw[aZ9 h.1,aw5 h.2.2.1,H9 h.2.2.2];cases a<;>cases b<;>simp_all)
def ap3(x y:Bk):Bool:=Nat.beq x.l y.l&&(Nat.beq x.ty y.ty&&(ap1 x.cs y.cs&&((match x.rw,y.rw with|true,true=>true|false,false=>true|_,_=>false)&&((match x.str,y.str with|some s,some t=>E7 s t|none,none=>true|_,_=>false)&&cS7 x.x y.x))))
theorem ap2{x y:Bk}(h:ap3 x y=true):x=y:=by
 obtain⟨l,t,c,r,s,x⟩:=x;obtain⟨l',t',c',r',s',x'⟩:=y;simp only[ap3,m5]at h;obtain⟨h1,h2,h3,h4,h5,h6⟩:=h;have e6:=dB0 h6;subst e6;have e5:s=s':=by
  cases s<;>cases s'<;>simp only[]at h5<;>first
   | rfl
   | (cases h5;done)
   | rw[H9 h5]
 rw[af h1,af h2,az5 h3,e5];cases r<;>cases r'<;>simp_all
def bK9:List Bk->List Bk->Bool
 | [],[]=>true
 | a::x,b::y=>ap3 a b&&bK9 x y
 | _,_=>false
theorem b41:∀{a b:List Bk},bK9 a b=true->a=b
 | [],[],_=>rfl
 | a::x,b::y,h=>by
   simp only[bK9,m5]at h;rw[ap2 h.1,b41 h.2]
 | [],_::_,h=>by simp[bK9]at h
 | _::_,[],h=>by simp[bK9]at h
def eT2(a b:List Tm):Bool:=a.all fun t=>aY7 t b
def b43(x y:Bd):Bool:=E7 x.t y.t&&(aP6 x.lo y.lo&&aP6 x.hi y.hi)
theorem co3{x y:Bd}(h:b43 x y=true):x=y:=by
 obtain⟨t,a,b⟩:=x;obtain⟨t',a',b'⟩:=y;simp only[b43,m5]at h;rw[H9 h.1,aF8 h.2.1,aF8 h.2.2]
def eT3(a b:List Bd):Bool:=a.all fun x=>b.any fun y=>b43 x y
def bd1(k d:St):Bool:=as8 k.tm d.tm&&(bK9 k.hp d.hp&&(eT2 k.cx.pc d.cx.pc&&eT3 k.cx.bs d.cx.bs))
section
variable{J:Env}{S:Nat->Prop}{w0 w:World}{N0:Bn}{n0:Nat}{s s':St}{N:Bn}{a:Act}
theorem Md.cs1(h:Md J S w0 N0 n0 s N a w)(hc:bd1 s' s=true):Md J S w0 N0 n0 s' N a w:=by
 simp only[Sy.bd1,m5]at hc;have e1:=aw4 hc.1;have e2:=b41 hc.2.1;refine⟨by rw[e1];exact h.act,by rw[e2];exact h.hp,by rw[e2];exact h.ne,by rw[e2];exact h.may,⟨fun x hx=>?_,fun t ht=>?_⟩,h.only,h.old⟩
 .have:=av.1 hc.2.2.2 x hx;obtain⟨y,hy,e⟩:=List.any_eq_true.1 this;rw[co3 e];exact h.cx.bs y hy
 .have:=av.1 hc.2.2.1 t ht;exact h.cx.pc t (bB5 this)
end
inductive Ex where
 | normal|exit (n:Nat)|ret
 deriving Repr,Inhabited
def Ex.to:Ex->Exit
 | .normal=> .normal
 | .exit n=> .exit n
 | .ret=> .ret
inductive Lf where
 | must (t:Tm) (s:St)
 | out (e:Ex) (s:St)
 deriving Repr,Inhabited
structure Er where
 why:String
 pos:String
abbrev Rs:=Except Er (List Lf)
structure Bs where
 J:Env
 S:Nat->Prop
 w0:World
 N0:Bn
 n0:Nat
abbrev Bs.Md(B:Bs)(s:St)(N:Bn)(a:Act)(w:World):Prop:=Sy.Md B.J B.S B.w0 B.N0 B.n0 s N a w
def Lf.ok(B:Bs)(Q:Exit->Act->World->Prop):Lf->Prop
 | .must t s=>∀ N a w,B.Md s N a w->(u9 B.J t).b=true
 | .out e s=>∀ N a w,B.Md s N a w->Q e.to a w
def LOk(B:Bs)(Q:Exit->Act->World->Prop)(l:List Lf):Prop:=∀ x∈l,x.ok B Q
theorem LOk.nil{B:Bs}{Q:Exit->Act->World->Prop}:LOk B Q []:=fun _ h=>by cases h
theorem LOk.l{B:Bs}{Q:Exit->Act->World->Prop}{a b:List Lf}(h:LOk B Q (a++b)):LOk B Q a:=fun t ht=>h t (aX _ ht)
theorem LOk.r{B:Bs}{Q:Exit->Act->World->Prop}{a b:List Lf}(h:LOk B Q (a++b)):LOk B Q b:=fun t ht=>h t (aV _ ht)
def an4(s:St):List Tm->(St->Rs)->Rs
 | [],k=>k s
 | t::m,k=>match an4 (s.aL6 t) m k with
   | .ok l=> .ok (.must t s::l)
   | .error e=> .error e
def aG9(s:St):List Tm->St
 | []=>s
 | t::m=>aG9 (s.aL6 t) m
theorem aa3{B:Bs}{Q:Exit->Act->World->Prop}{k:St->Rs}:∀{m:List Tm} {s:St} {r:List Lf},an4 s m k= .ok r->LOk B Q r->∀{N:Bn} {a:Act} {w:World},B.Md s N a w->
 Met B.J m/\B.Md (aG9 s m) N a w/\∃ r',k (aG9 s m)= .ok r'/\LOk B Q r'
 | [],s,r,h,hl,N,a,w,hM=>⟨fun _ h=>bF,hM,r,h,hl⟩
 | t::m,s,r,h,hl,N,a,w,hM=>by
   simp only[an4]at h;split at h
   .rename_i l hq;injection h with h;subst h;have ht:(u9 B.J t).b=true:=hl _ (ae ..) N a w hM;have ih:=aa3 (Q:=Q) hq (fun x hx=>hl x (aj _ hx)) (hM.ao2 ht);refine⟨fun u hu=>?_,ih.2.1,ih.2.2⟩;rcases aa.1 hu with rfl|hu
    .exact ht
    .exact ih.1 u hu
   .cases h
def bC6:List Lf->(Ex->St->Rs)->Rs
 | [],_=> .ok []
 | .must t s::l,f=>match bC6 l f with
   | .ok r=> .ok (.must t s::r)
   | .error e=> .error e
 | .out e s::l,f=>match f e s with
   | .ok a=>match bC6 l f with
     | .ok b=> .ok (a++b)
     | .error e=> .error e
   | .error e=> .error e
theorem aP3{B B':Bs}(hJ:B'.J=B.J){Q Q':Exit->Act->World->Prop}{f:Ex->St->Rs}(hmd:∀ s N a w,B'.Md s N a w->∃ N a,B.Md s N a w)
 (hf:∀ e s r,f e s= .ok r->LOk B Q r->∀ N a w,B'.Md s N a w->Q' e.to a w):∀{l r:List Lf},bC6 l f= .ok r->LOk B Q r->LOk B' Q' l
 | [],r,_,_=>LOk.nil
 | .must t s::l,r,h,hl=>by
   simp only[bC6]at h;split at h
   .rename_i r' hq;injection h with h;subst h;intro x hx;rcases aa.1 hx with rfl|hx
    .intro N a w hM;obtain⟨N',a',hM'⟩:=hmd s N a w hM;rw[hJ];exact hl _ (ae ..) N' a' w hM'
    .exact aP3 hJ hmd hf hq (fun x hx=>hl x (aj _ hx)) x hx
   .cases h
 | .out e s::l,r,h,hl=>by
   simp only[bC6]at h;split at h
   .rename_i a' ha;split at h
    .rename_i b hb;injection h with h;subst h;intro x hx;rcases aa.1 hx with rfl|hx
     .intro N a w hM;exact hf e s a' ha hl.l N a w hM
     .exact aP3 hJ hmd hf hb hl.r x hx
    .cases h
   .cases h
def an9(r:Rs)(f:Ex->St->Rs):Rs:=
 match r with
 | .ok l=>bC6 l f
 | .error e=> .error e
theorem aW6{r:Rs}{f:Ex->St->Rs}{l:List Lf}(h:an9 r f= .ok l):∃ l',r= .ok l'/\bC6 l' f= .ok l:=by
 unfold an9 at h;split at h
 .exact⟨_,rfl,h⟩
 .cases h
def bT5(a b:Rs):Rs:=
 match a with
 | .ok x=>match b with
   | .ok y=> .ok (x++y)
   | .error e=> .error e
 | .error e=> .error e
theorem a55{a b:Rs}{l:List Lf}(h:bT5 a b= .ok l):∃ x y,a= .ok x/\b= .ok y/\l=x++y:=by
 unfold bT5 at h;split at h
 .split at h
  .injection h with h;exact⟨_,_,rfl,rfl,h.symm⟩
  .cases h
 .cases h
def Ex.dI6:Ex->Ex->Bool
 | .normal, .normal=>true
 | .exit a, .exit b=>Nat.beq a b
 | .ret, .ret=>true
 | _,_=>false
theorem Ex.dr0{a b:Ex}(h:a.dI6 b=true):a=b:=by
 cases a<;>cases b<;>simp only[Ex.dI6]at h<;>first
  | rfl
  | (cases h;done)
  | rw[af h]
def Lf.cov:Lf->Lf->Bool
 | .out e s, .out f t=>e.dI6 f&&Sy.bd1 s t
 | .must t s, .must u v=>Sy.E7 t u&&Sy.bd1 s v
 | _,_=>false
def ddL:List Lf->List Lf
 | []=>[]
 | x::l=>if(ddL l).any fun y=>y.cov x then ddL l else x::ddL l
theorem b82{B:Bs}{Q:Exit->Act->World->Prop}:∀{l:List Lf},LOk B Q (ddL l)->LOk B Q l
 | [],_=>LOk.nil
 | x::l,h=>by
   unfold ddL at h;split at h
   .rename_i q;intro z hz;rcases aa.1 hz with rfl|hz
    .obtain⟨y,hy,e⟩:=List.any_eq_true.1 q;have hy:=h y hy;cases y<;>cases z<;>simp only[Lf.cov,m5]at e<;>try(cases e;done)
     .intro N a w hM;have:=hy N a w (hM.cs1 e.2);rwa[H9 e.1]at this
     .intro N a w hM;have:=hy N a w (hM.cs1 e.2);rwa[Ex.dr0 e.1]at this
    .exact b82 h z hz
   .intro z hz;rcases aa.1 hz with rfl|hz
    .exact h _ (ae ..)
    .exact b82 (fun x hx=>h x (aj _ hx)) z hz
def C.lt(n:Nat):C->Bool
 | .ptr l _=>Nat.blt l n
 | .slc l _ _ _=>Nat.blt l n
 | .ptx l _=>Nat.blt l n
 | .slr l _ _ _=>Nat.blt l n&&Nat.blt (l+1) n
 | .map l=>Nat.blt l n
 | .fn _ ls=>ls.all fun l=>Nat.blt l n
 | .slt l _ _ _ _=>Nat.blt l n&&Nat.blt (l+1) n
 | .pta l _ _ _ _=>Nat.blt l n
 | .slz l _ _=>Nat.blt l n&&Nat.blt (l+1) n
 | _=>true
def ltL(n:Nat)(l:List C):Bool:=l.all (C.lt n)
def V1.lt(n:Nat):V1->Bool
 | .c x=>x.lt n
 | .agg l=>ltL n l
def SV.lt(n:Nat):SV->Bool
 | .one x=>x.lt n
 | .tup l=>l.all (V1.lt n)
 | .any _=>true
theorem aB1{a b:Nat}(h:Nat.blt a b=true):a<b:=au h
theorem C.bq6(J:Env){N N':Bn}{n:Nat}(h:∀ l,l<n->N' l=N l){x:C}(hx:x.lt n=true):x.G2 J N'=x.G2 J N:=by
 cases x with
 | ptr l off=>simp only[C.G2];rw[h l (aB1 hx)]
 | slc l off a b=>simp only[C.G2];rw[h l (aB1 hx)]
 | ptx l off=>simp only[C.G2];rw[h l (aB1 hx)]
 | slr l off a an=>
   simp only[C.lt,m5]at hx;simp only[C.G2];rw[h l (aB1 hx.1),h (l+1) (aB1 hx.2)]
 | map l=>simp only[C.G2];rw[h l (aB1 hx)]
 | pta l _ _ _ _=>simp only[C.G2];rw[h l (aB1 hx)]
 | slt l m off a an=>
   simp only[C.lt,m5]at hx;simp only[C.G2];rw[h l (aB1 hx.1),h (l+1) (aB1 hx.2)]
 | slz l m x=>
   simp only[C.lt,m5]at hx;simp only[C.G2];rw[h l (aB1 hx.1),h (l+1) (aB1 hx.2)]
 | fn f ls=>
   simp only[C.G2];congr 2;apply aG;intro l hl;rw[h l (aB1 (av.1 hx l hl))]
 | _=>rfl
theorem aj3(J:Env){N N':Bn}{n:Nat}(h:∀ l,l<n->N' l=N l){l:List C}(hl:ltL n l=true):A5 J N' l=A5 J N l:=by
 apply aG;intro x hx;exact C.bq6 J h (av.1 hl x hx)
theorem V1.bq4(J:Env){N N':Bn}{n:Nat}(h:∀ l,l<n->N' l=N l){x:V1}(hx:x.lt n=true):x.W7 J N'=x.W7 J N:=by
 cases x with
 | c x=>exact C.bq6 J h hx
 | agg l=>simp only[V1.W7];rw[aj3 J h hx]
theorem SV.bq5(J:Env){N N':Bn}{n:Nat}(h:∀ l,l<n->N' l=N l){x:SV}(hx:x.lt n=true):x.A1 J N'=x.A1 J N:=by
 cases x with
 | one x=>exact V1.bq4 J h hx
 | tup l=>
   simp only[SV.A1];congr 2;apply aG;intro x hm;exact V1.bq4 J h (av.1 hx x hm)
 | any n=>rfl
theorem cp6{J:Env}{N:Bn}{P:Program}{c:Cx}(hc:c.ok J){hp:List Bk}{t:TypeId}{x:SV}{v:V1}(h:az9 P c hp t x=some v){w:World}(hb:∀ b∈hp,BkOk J N w b):
 ∃ ad,x.A1 J N= .pointer (some ad)/\(loadVar t ad).run P w= .ok (v.W7 J N) w:=by
 have h1:=b64 (N:=N) hc h hb;unfold az9 at h;split at h
 .rename_i l off;refine⟨⟨N l,off,none⟩,rfl,?_⟩;have e:(Instr.loadAt t (SV.A1 J N (.one (.c (.ptr l off))))).run P w=(loadVar t ⟨N l,off,none⟩).run P w:=by
   show(Instr.loadAt t (.pointer (some ⟨N l,off,none⟩))).run P w=_;simp only[Instr.loadAt,Instr.sureAddr,am,aq,ai]
  rw[<-e];exact h1
 .rename_i l off;refine⟨⟨N l,(Sy.u9 J off).i.toNat,none⟩,rfl,?_⟩;have e:(Instr.loadAt t (SV.A1 J N (.one (.c (.ptx l off))))).run P w=(loadVar t ⟨N l,(Sy.u9 J off).i.toNat,none⟩).run P w:=by
   show(Instr.loadAt t (.pointer (some ⟨N l,(Sy.u9 J off).i.toNat,none⟩))).run P w=_;simp only[Instr.loadAt,Instr.sureAddr,am,aq,ai]
  rw[<-e];exact h1
 .cases h
def ba8(P:Program)(s:St):ResultVar->Option SV
 | .tmp t=>s.tm[t]?
 | .cell a t=>match s.tm[a]? with
   | some x=>(az9 P s.cx s.hp t x).map .one
   | none=>none
def al4(P:Program)(s:St):List ResultVar->Option (List V1)
 | []=>some []
 | r::rs=>match ba8 P s r,al4 P s rs with
   | some (.one v),some vs=>some (v::vs)
   | _,_=>none
def aD7(P:Program)(s:St)(rs:List ResultVar):Option SV:=
 match rs with
 | [r]=>ba8 P s r
 | rs=>(al4 P s rs).map .tup
section
variable{J:Env}{S:Nat->Prop}{w0 w:World}{N0:Bn}{n0:Nat}{s s':St}{N:Bn}{a:Act}{P:Program}
def a47(tmps:Array Value):ResultVar->Sem Value
 | .tmp t=>pure (tmps.getD t undef)
 | .cell a t=>do loadVar t (<-asAddr (tmps.getD a undef))
theorem bo3(h:Md J S w0 N0 n0 s N a w){r:ResultVar}{v:SV}(hr:ba8 P s r=some v):(a47 a.tmps r).run P w= .ok (v.A1 J N) w:=by
 cases r with
 | tmp t=>
   have:=h.opd (x:= .tmp t) (show opd s.tm (.tmp t)=some v from hr);show Result.ok (a.tmps.getD t undef) w=_;rw[<-this];rfl
 | cell ad t=>
   simp only[ba8]at hr;split at hr
   .rename_i x hx;have h1:=h.opd (x:= .tmp ad) (show opd s.tm (.tmp ad)=some x from hx);cases hl:az9 P s.cx s.hp t x with
    | none=>rw[hl]at hr;cases hr
    | some u=>
      rw[hl]at hr;injection hr with hr;subst hr;obtain⟨p,hp1,hp2⟩:=cp6 (J:=J) (N:=N) h.cx hl h.hp;have h2:a.tmps.getD ad undef= .pointer (some p):=by rw[<-hp1,<-h1];rfl
      simp only[a47,h2,asAddr,am,aq,ai,hp2];rfl
   .cases hr
theorem ba9(h:Md J S w0 N0 n0 s N a w):∀{rs:List ResultVar} {vs:List V1},al4 P s rs=some vs->(rs.mapM (a47 a.tmps)).run P w= .ok (vs.map (V1.W7 J N)) w
 | [],vs,hr=>by injection hr with hr;subst hr;rfl
 | r::rs,vs,hr=>by
   simp only[al4]at hr;split at hr
   .rename_i v us h1 h2;injection hr with hr;subst hr;have e1:=bo3 h h1;have e2:=ba9 h h2;simp only[List.mapM_cons,am,e1,e2,ai,aq];rfl
   .cases hr
theorem bL1{fn:Func}(h:Md J S w0 N0 n0 s N a w){v:SV}(hr:aD7 P s fn.results.toList=some v):(results fn a.tmps).run P w= .ok (v.A1 J N) w:=by
 have e:(results fn a.tmps).run P w=((fn.results.toList.mapM (a47 a.tmps)).run P w).andThen fun vs w=> .ok (if h:vs.length=1 then vs[0]else .tuple vs.toArray) w:=by
  have e0:results fn a.tmps=(do let vs <-fn.results.mapM (a47 a.tmps);pure (if h:vs.size=1 then vs[0]else .tuple vs)):=by
   unfold results;congr 1
  rw[e0];simp only[am,Array.mapM_eq_mapM_toList];cases hm:(fn.results.toList.mapM (a47 a.tmps)).run P w with
  | halt x w=>simp[Result.andThen,hm]
  | ok vs w=>simp[Result.andThen,hm]
 rw[e];unfold aD7 at hr;split at hr
 .rename_i r hrs;rw[hrs];have e1:=bo3 h hr;simp only[List.mapM_cons,List.mapM_nil,am,e1,ai,aq];rfl
 .rename_i rs hne;cases hm:al4 P s fn.results.toList with
  | none=>rw[hm]at hr;cases hr
  | some vs=>
    rw[hm]at hr;injection hr with hr;subst hr;have e1:=ba9 h hm;rw[e1];have hl:∀{rs:List ResultVar} {vs:List V1},al4 P s rs=some vs->vs.length=rs.length:=by
     intro rs
     induction rs with
     | nil=>intro vs h;injection h with h;subst h;rfl
     | cons r rs ih=>
       intro vs h;simp only[al4]at h;split at h
       .rename_i v us h1 h2;injection h with h;subst h;simp[ih h2]
       .cases h
    have h1:(vs.map (V1.W7 J N)).length≠1:=by
     rw[aE,hl hm];intro e;obtain⟨r,hr⟩:=List.length_eq_one_iff.1 e;exact hne r hr
    simp only[ai,h1,dite_false];rfl
end
def ao0(zs:List C):Nat->List C
 | 0=>[]
 | n+1=>zs++ao0 zs n
theorem bH8(zs:List C):∀ n,(ao0 zs n).length=n*zs.length
 | 0=>by simp[ao0]
 | n+1=>by rw[ao0,az,bH8 zs n,Nat.succ_mul,Nat.add_comm]
theorem bq1(zs:List C):∀(n k:Nat),k<n*zs.length->(ao0 zs n)[k]? =zs[k % zs.length]?
 | 0,k,h=>by simp at h
 | n+1,k,h=>by
   rw[ao0];rcases Nat.lt_or_ge k zs.length with h1|h1
   .rw[bk h1,Nat.mod_eq_of_lt h1]
   .rw[aO h1,bq1 zs n (k - zs.length) (by rw[Nat.succ_mul]at h;omega),Nat.mod_eq_sub_mod h1]
theorem dH5(J:Env)(N:Bn)(zs:List C)(n:Nat):(Array.range (n*zs.length)).map (fun k=>(A5 J N zs).toArray[k % (A5 J N zs).toArray.size]!)=(A5 J N (ao0 zs n)).toArray:=by
 apply Array.ext
 .simp[U5,bH8]
 .intro k h1 h2;have hk:k<n*zs.length:=by simpa using h1
  have hm:k % zs.length<zs.length:=Nat.mod_lt _ (by
   rcases Nat.eq_zero_or_pos zs.length with h0|h0
   .rw[h0]at hk;simp at hk
   .exact h0)
  have hg:=bq1 zs n k hk;have hlt:k<(ao0 zs n).length:=by rw[bH8];exact hk
  rw[ar hlt,ar hm]at hg;injection hg with hg;have hm':k % (A5 J N zs).toArray.size<(A5 J N zs).toArray.size:=by simpa[U5]using hm
  rw[Array.getElem_map,Array.getElem_range];rw[getElem!_pos (A5 J N zs).toArray (k % (A5 J N zs).toArray.size) hm'];simp only[A5,List.getElem_toArray,List.getElem_map,hg,List.size_toArray,aE]
def dB4(P:Program)(t:TypeId)(len:Nat)(parts:List (Nat × V1)):Option (TypeId × List C):=
 match P.underlying t with
 | some (.slice e)=>
   match P.info? e,ae4 P e with
   | some i,some zs=>
     if Nat.beq zs.length i.size&&(Nat.ble 1 (len*i.size)&&Nat.ble (len*i.size) 16777216)then
      (bC2 (fun k=>some (k*i.size,i.size)) (ao0 zs len) parts).map fun cs=>(e,cs)
     else none
   | _,_=>none
 | _=>none
theorem dm5{J:Env}(hJ:J.R8){N:Bn}{P:Program}{t e:TypeId}{len:Nat}{parts:List (Nat × V1)}{cs:List C}(h:dB4 P t len parts=some (e,cs))(w:World):
 (Instr.buildSlice t len (parts.map fun p=>(p.1,p.2.W7 J N)).toArray).run P w= .ok (.slice (some ⟨w.heap.size,0,none⟩) len len) (w.alloc (.cells (A5 J N cs).toArray e)):=by
 unfold dB4 at h;split at h
 .rename_i e' hu;split at h
  .rename_i i zs hi hz;split at h
   .rename_i q;simp only[m5]at q;have q1:=af q.1;have q2:=au q.2.1;have q3:=au q.2.2;cases hf:bC2 (fun k=>some (k*i.size,i.size)) (ao0 zs len) parts with
    | none=>rw[hf]at h;cases h
    | some cs'=>
      rw[hf]at h;injection h with h;injection h with h1 h2;subst h1 h2;have hfill:=bC1 hJ (N:=N) hf;rw[<-dH5]at hfill;unfold ae4 at hz;rw[hi]at hz;dsimp only at hz;cases hzv:i.zero with
      | none=>rw[hzv]at hz;cases hz
      | some z=>
        rw[hzv]at hz;have hzc:=al5 (J:=J) (N:=N) hz;have hzt:z.cells=(A5 J N zs).toArray:=by rw[hzc]
        have n1:¬(len*i.size>2 ^ 24):=by omega
        have n2:¬(len*i.size=0):=by omega
        simp only[Instr.buildSlice,am,run_underlying hu,ai,sizeOf,zeroValue,typeInfo,run_program,hi,hzv,aq,n1,n2,if_false,hzt];rw[q1]at hfill;simp only[hfill,am,aq,ai];rfl
   .cases h
  .cases h
 .cases h
end Sy
end Go.Proofs.YtnlcpcmdlcakgaaGreat
namespace Go.Proofs.YtnlcpcmdlcakgaaGreat
open Go.RowKit
def Reads(w:World)(B size:Nat)(A:Option Addr)(n:Nat)(xs:List Value):Prop:=
 xs.length=n*size/\(0<n->∃ ad,A=some ad/\ad.block<B/\∀ j u,xs[j]? =some u->w.cell? (ad.add j)=some u)
section
variable{w w':World}{B B' size n:Nat}{A:Option Addr}{xs:List Value}
theorem Reads.bu9:Reads w B size A 0 []:=⟨by simp,fun h=>absurd h U⟩
end
section
variable{P:Program}(w:World)
theorem ac5(base:Nat)(t ty e:TypeId)(i:TypeInfo)(size:Nat)(ht:P.underlying t=some (.slice e))(hi:P.info? e=some i)
 (v:Value) (n:Nat) (xs:List Value) (hown:w.ownsRow base e size v n xs) (c:Nat):(Builtin.append_ #[t,t] ty #[v, .slice none 0 c]).run P w= .ok v w:=by
 rcases hown.2 with⟨rfl,rfl⟩|⟨g,cap,cur,rfl,_,_,hnc,_⟩
 .simp[Builtin.append_,run_underlying ht,sizeOf,typeInfo,hi,Builtin.lenOf,Builtin.firstCells]
 .simp[Builtin.append_,run_underlying ht,sizeOf,typeInfo,hi,Builtin.lenOf,Builtin.firstCells,hnc,storeCells]
end
section
variable{w w':World}{g:Nat}{t:TypeId}{cs:List Value}
end
section
variable{w0 w w':World}{B g:Nat}{t:TypeId}{cs:List Value}
end
end Go.Proofs.YtnlcpcmdlcakgaaGreat
