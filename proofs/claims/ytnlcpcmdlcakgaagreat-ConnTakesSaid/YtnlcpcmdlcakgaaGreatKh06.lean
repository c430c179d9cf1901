/- A part of the proof that a connection answers as the document says: SyS. -/
import Derived.Lib.AppendStr
import Derived.Test.YtnlcpcmdlcakgaaGreatKh05
set_option maxRecDepth 100000
set_option maxHeartbeats 4000000
set_option linter.unusedVariables false
set_option linter.unusedSimpArgs false
set_option linter.unusedSectionVars false
namespace Go.Proofs.YtnlcpcmdlcakgaaGreat
namespace Sy
open Go Go.RowKit
theorem cells8'_one(l:List UInt8):∀ u∈W4 l,u.oneCell'=true:=fun u hu=>by
 obtain⟨b,_,rfl⟩:=aZ.1 hu;rfl
def ab6(g c:Nat):Option Nat:=if c=0 then none else some g
theorem a98(g c n:Nat):(aO9 g c 0 n).ownBlock=ab6 g c:=by
 unfold aO9 ab6;split<;>rfl
theorem aI9{g c n:Nat}(h:c≠0):aO9 g c 0 n= .slice (some ⟨g,0,none⟩) n c:=by
 unfold aO9;rw[if_neg h,if_neg h];rfl
section
variable{w w':World}{g c n:Nat}{e:TypeId}{bs:List UInt8}
theorem RowB.b95(h:RowB w g c e true bs)(hn:n=bs.length):w.ownsRow 0 e 1 (aO9 g c 0 n) n (W4 bs):=by
 refine⟨by rw[cells8'_len,hn,Nat.mul_one],?_⟩;have hl:=h.len;by_cases hc:c=0
 .refine .inl ⟨by unfold aO9;rw[if_pos hc],by omega⟩
 .obtain⟨cur,fr,h1,h2,h3,h4,h5⟩:=h.row hc;have hfr:fr=(0,0):=h2.resolve_right bM;subst hfr;exact .inr ⟨g,c,cur,aI9 hc,bf _,h1,by omega,h4,by omega,by rw[Nat.mul_one,hn];exact h5⟩
theorem RowB.a57{v:Value}(h:w.ownsRow 0 e 1 v n (W4 bs))(hv:v= .slice (some ⟨g,0,none⟩) n c):RowB w g c e true bs:=by
 subst hv;have hn:bs.length=n:=by have:=h.1;rw[cells8'_len]at this;omega
 rcases h.2 with⟨h1,_⟩|⟨g',c',cur,h1,_,h2,h3,h4,h5,h6⟩
 .cases h1
 .injection h1 with e1 e2 e3;injection e1 with e1;injection e1 with e1;subst e1 e3;refine⟨fun _=>⟨cur,(0,0),h2, .inl rfl,by omega,h4,?_⟩,by omega⟩;rw[hn];rw[Nat.mul_one]at h6;exact h6
theorem RowB.cZ2(w:World)(g:Nat)(e:TypeId)(own:Bool):RowB w g 0 e own []:=⟨fun h=>absurd rfl h,aI _⟩
structure Grown(w w':World)(g c:Nat)(e:TypeId)(bs:List UInt8)(g' c':Nat)(own:Bool:=true):Prop where
 row:RowB w' g' c' e own bs
 by_:w.grownBy w' (ab6 g c)
 at_:c'=0\/(c≠0/\g'=g)\/g'=w.heap.size
end
theorem cC5(s:ByteArray):Lib.strCells s=W4 s.data.toList:=rfl
section
variable{P:Program}{w:World}{g c:Nat}{t u ty e:TypeId}{i:TypeInfo}{bs:List UInt8}
theorem aj0{x y:Value}{w1 w2:World}{r:Result Value}(h:r= .ok x w1)(k:r= .ok y w2):x=y:=by rw[h]at k;injection k
theorem dq6(ht:P.underlying t=some (.slice e))(hu:P.underlying u=some .string)(hi:P.info? e=some i)(hz:i.zero=some (.int .u8 0))(hsize:i.size=1)(hby:i.bytes=1)
 (h:RowB w g c e true bs) (s:ByteArray) (hb:bs.length+s.size<=140737488355328):
 ∃ g' c' w',(Builtin.append_ #[t,u] ty #[aO9 g c 0 bs.length, .string s]).run P w= .ok (aO9 g' c' 0 (bs.length+s.size)) w'/\Grown w w' g c e (bs++s.data.toList) g' c':=by
 have h63:bs.length+s.size<=maxLen:=by simp only[maxLen];omega
 obtain⟨v',w',hrun,h2,h3,h4⟩:=Lib.run_append_own_string (P:=P) w 0 t u ty e i ht hu hi hz hsize hby _ _ _ (h.b95 rfl) s h63 hb (bf _);rw[cC5,<-cells8'_app]at h2;rw[a98]at h3;have hlen:=h.len;by_cases hc:c=0
 .have hn:bs.length=0:=by omega
  by_cases hm:s.size=0
  .have hv:=h4.2 ⟨by unfold aO9;rw[if_pos hc],hm⟩;refine⟨0,0,w',by rw[hrun,hv];rfl,⟨?_,h3, .inl rfl⟩⟩;have e1:bs++s.data.toList=[]:=by
    rw[ay hn];exact ay hm
   rw[e1];exact RowB.cZ2 ..
  .have hr:=run_append_nil_string (P:=P) w t u ty e i (.int .u8 0) ht hu hi hz s U U (by rw[hby];omega);have hv:v'= .slice (some ⟨w.heap.size,0,none⟩) s.size (grownCap w s.size 0 e):=by
    rw[show aO9 g c 0 bs.length= .slice none 0 0 from by unfold aO9;rw[if_pos hc]]at hrun;exact aj0 hrun hr
   rw[show bs.length+s.size=s.size from by omega]at h2 ⊢;have hge:=grownCap_ge w s.size 0 e;refine⟨w.heap.size,grownCap w s.size 0 e,w',by rw[hrun,hv,aI9 U],⟨RowB.a57 h2 hv,h3, .inr (.inr rfl)⟩⟩
 .obtain⟨cur,fr,r1,r2,r3,r4,r5⟩:=h.row hc;have hfr:fr=(0,0):=r2.resolve_right bM;subst hfr;by_cases hroom:bs.length+s.size<=c
  .have hr:=Lib.run_append_room_string (P:=P) w t u ty e i ht hu hi hsize g bs.length c cur r1 s hroom U;rw[aI9 hc]at hrun ⊢;have hv:=aj0 hrun hr;exact⟨g,c,w',by rw[hrun,hv,aI9 hc],⟨RowB.a57 h2 hv,h3, .inr (.inl ⟨hc,rfl⟩)⟩⟩
  .have hcell:∀ j u,(W4 bs)[j]? =some u->w.cell? ((⟨g,0,none⟩:Addr).add j)=some u:=(h.b95 rfl).cells (g:=g) (by rw[a98];unfold ab6;rw[if_neg hc]);have hr:=Lib.run_append_grow_string (P:=P) w t u ty e i (.int .u8 0) ht hu hi hz ⟨g,0,none⟩ bs.length c (W4 bs) (by rw[hsize,cells8'_len,Nat.mul_one]) hcell s U U (by rw[hby];exact growslice_fits U U);rw[aI9 hc]at hrun ⊢;have hv:=aj0 hrun hr;have hge:=grownCap_ge w (bs.length+s.size) c e;exact⟨w.heap.size,_,w',by rw[hrun,hv,aI9 U],⟨RowB.a57 h2 hv,h3, .inr (.inr rfl)⟩⟩
theorem dq7(ht:P.underlying t=some (.slice e))(hi:P.info? e=some i)(hz:i.zero=some (.int .u8 0))(hsize:i.size=1)(hby:i.bytes=1)
 (h:RowB w g c e true bs) {A:Option Addr} {m k:Nat} {ns:List UInt8} (hr:Reads w w.heap.size 1 A m (W4 ns)) (hb:bs.length+m<=140737488355328):
 ∃ g' c' w',(Builtin.append_ #[t,t] ty #[aO9 g c 0 bs.length, .slice A m k]).run P w= .ok (aO9 g' c' 0 (bs.length+m)) w'/\Grown w w' g c e (bs++ns) g' c':=by
 have hnl:ns.length=m:=by have:=hr.1;rw[cells8'_len]at this;omega
 have h63:bs.length+m<=maxLen:=by simp only[maxLen];omega
 have hlen:=h.len;rcases A with _|ad
 .have hm:m=0:=by
   rcases Nat.eq_zero_or_pos m with h0|h0
   .exact h0
   .obtain⟨ad,h,_⟩:=hr.2 h0;cases h
  subst hm;have hn:ns=[]:=ay hnl;subst hn;refine⟨g,c,w,ac5 w 0 t ty e i 1 ht hi _ _ _ (h.b95 rfl) k,⟨by rw[ao];exact h,World.grownBy.refl w _,?_⟩⟩;by_cases hc:c=0
  .exact .inl hc
  .exact .inr (.inl ⟨hc,rfl⟩)
 .have hcells:∀ j u,(W4 ns)[j]? =some u->w.cell? (ad.add j)=some u:=by
   intro j u hu;rcases Nat.eq_zero_or_pos m with h0|h0
   .have hn:ns=[]:=ay U;subst hn;simp[W4]at hu
   .obtain⟨ad',h,_,hc⟩:=hr.2 h0;injection h with h;subst h;exact hc j u hu
  have hlm:(W4 ns).length=m*i.size:=by rw[cells8'_len,hsize,Nat.mul_one,hnl]
  obtain⟨v',w',hrun,h2,h3,h4,h5⟩:=run_append_own_at (P:=P) w 0 t ty e i (.int .u8 0) 1 1 ht hi hz hsize hby rfl U _ _ _ (h.b95 rfl) ad m k (W4 ns) (by rw[cells8'_len];omega) hcells (cells8'_one ns) h63 U (bf _);rw[<-cells8'_app]at h2;rw[a98]at h3;by_cases hc:c=0
  .have hn:bs.length=0:=by omega
   by_cases hm:m=0
   .have hv:=h4.2 ⟨by unfold aO9;rw[if_pos hc],hm⟩;refine⟨0,0,w',by rw[hrun,hv];rfl,⟨?_,h3, .inl rfl⟩⟩;rw[ay hn,ay (hnl.trans hm)];exact RowB.cZ2 ..
   .have hr:=run_append_nil (P:=P) w t ty e i (.int .u8 0) ht hi hz ad m k (W4 ns) hlm hcells U U (by rw[hby];omega);have hv:v'= .slice (some ⟨w.heap.size,0,none⟩) m (grownCap w m 0 e):=by
     rw[show aO9 g c 0 bs.length= .slice none 0 0 from by unfold aO9;rw[if_pos hc]]at hrun;exact aj0 hrun hr
    rw[show bs.length+m=m from by omega]at h2 ⊢;have hge:=grownCap_ge w m 0 e;refine⟨w.heap.size,grownCap w m 0 e,w',by rw[hrun,hv,aI9 U],⟨RowB.a57 h2 hv,h3, .inr (.inr rfl)⟩⟩
  .obtain⟨cur,fr,r1,r2,r3,r4,r5⟩:=h.row hc;have hfr:fr=(0,0):=r2.resolve_right bM;subst hfr;by_cases hroom:bs.length+m<=c
   .have hr:=run_append_room (P:=P) w t ty e i ht hi g bs.length c cur r1 ad m k (W4 ns) hlm hcells (cells8'_one ns) hroom (by rw[hsize,cells8'_len];omega);rw[aI9 hc]at hrun ⊢;have hv:=aj0 hrun hr;exact⟨g,c,w',by rw[hrun,hv,aI9 hc],⟨RowB.a57 h2 hv,h3, .inr (.inl ⟨hc,rfl⟩)⟩⟩
   .have hcell:∀ j u,(W4 bs)[j]? =some u->w.cell? ((⟨g,0,none⟩:Addr).add j)=some u:=(h.b95 rfl).cells (g:=g) (by rw[a98];unfold ab6;rw[if_neg hc]);have hr:=run_append_grow (P:=P) w t ty e i (.int .u8 0) ht hi hz ⟨g,0,none⟩ bs.length c (W4 bs) (by rw[hsize,cells8'_len,Nat.mul_one]) hcell ad m k (W4 ns) hlm hcells U U (by rw[hby];exact growslice_fits U U);rw[aI9 hc]at hrun ⊢;have hv:=aj0 hrun hr;have hge:=grownCap_ge w (bs.length+m) c e;exact⟨w.heap.size,_,w',by rw[hrun,hv,aI9 U],⟨RowB.a57 h2 hv,h3, .inr (.inr rfl)⟩⟩
end
def cR7:Option Value->Bool
 | some (.int .u8 n)=>Y6 0 n&&Y6 n 0
 | _=>false
theorem c90{z:Option Value}(h:cR7 z=true):z=some (.int .u8 0):=by
 unfold cR7 at h;split at h
 .rename_i n;simp only[m5,Y6,aB]at h;rw[show n=0 from by omega]
 .cases h
def eF7(P:Program)(c:Cx)(hp:List Bk)(t u:TypeId):SV->Option (List Tm × Tm)
 | .one (.c (.str s))=>match P.underlying u with
   | some .string=>some ([],s)
   | _=>none
 | .one (.c .nslc)=>if Nat.beq t u then some ([], .sl [])else none
 | .one (.c (.slc l off len cap))=>match aD0 l hp,aC4 len with
   | some b,some n=>match b.str with
     | none=>if Nat.beq t u&&(Nat.ble (off+n.toNat) b.cs.length&&b.x.bl3)then(aV4 c ((b.cs.drop off).take n.toNat)).map fun s=>([],s)else none
     | some _=>none
   | _,_=>none
 | .one (.c (.slr l off len an))=>match al3 hp l with
   | some s=>if Nat.beq t u then some (bL8 c s off len,aP8 c s off (U0 off len))else none
   | none=>none
 | _=>none
def cr5(c:Cx)(hp:List Bk)(e:TypeId):SV->Option (List Tm × Option Nat × Tm)
 | .one (.c .nslc)=>some ([],none, .sl [])
 | .one (.c (.slr l off len an))=>match aD0 l hp with
   | some b=>match b.str with
     | some s=>if b.rw&&(b.cs.isEmpty&&(Nat.beq b.ty e&&E7 off i9))then some (F9 c (.le len (Q6 c s))++F9 c (.le (Q6 c s) len),some l,s)else none
     | none=>none
   | none=>none
 | _=>none
def cW3(P:Program)(c:Cx)(hp:List Bk)(ev:Operand->Option SV)(k:Call):Option (List Tm × Option Nat × TypeId × Tm):=
 match k.callee,k.args.toList,k.argTypes.toList with
 | .builtin .append,[x,y],[t,u]=>
   match ev x,ev y,P.underlying t with
   | some xv,some yv,some (.slice e)=>
     match P.info? e with
     | some i=>
       if Nat.beq i.size 1&&(Nat.beq i.bytes 1&&cR7 i.zero)then
        match cr5 c hp e xv,eF7 P c hp t u yv with
        | some (m1,old,s),some (m2,r)=>some (m1++(m2++F9 c (.le (Q6 c (aK3 s r)) qcb)),old,e,aK3 s r)
        | _,_=>none
       else none
     | none=>none
   | _,_,_=>none
 | _,_,_=>none
def bA1:Bool->List C
 | true=>[]
 | false=>[.nptr]
theorem dn3(o:Bool):(bA1 o).isEmpty=o:=by cases o<;>rfl
def St.bl4(s:St)(n:Nat)(e:TypeId)(old:Option Nat)(str:Tm)(own:Bool:=true):St:=
 { s with hp:=ae5 ⟨n,e,bA1 own,true,some str, .no⟩ (match old with|some l=>s.hp.filter fun b=> !(Nat.beq b.l l)|none=>s.hp),nx:=max s.nx (n+2) }
theorem bB8{s:St}{n:Nat}{e:TypeId}{old:Option Nat}{str:Tm}{own:Bool}{x:Bk}(h:x∈(s.bl4 n e old str own).hp):x=⟨n,e,bA1 own,true,some str, .no⟩\/(x∈s.hp/\old≠some x.l):=by
 rcases aI7 h with h|h
 .exact .inl h
 .refine .inr ?_;cases old with
  | none=>exact⟨h,by simp⟩
  | some l=>
    have:=List.mem_filter.1 h;refine⟨this.1,fun e=>?_⟩;injection e with e;rw[e,Nat.beq_refl]at this;simp at this
theorem Md.eJ5{J:Env}{N:Bn}{S:Nat->Prop}{w0 w w':World}{N0:Bn}{n0:Nat}{s:St}{a:Act}(hM:Md J S w0 N0 n0 s N a w)(n:Nat)(hn:n0<=n)(hf:s.T8 n=true)(hf1:s.T8 (n+1)=true)
 {g c g' c':Nat} {e:TypeId} {bs:List UInt8} {own:Bool} (hG:Grown w w' g c e bs g' c' own) {old:Option Nat} {str:Tm} (hstr:(u9 J str).s.data.toList=bs)
 (ho:c=0\/∃ b∈s.hp,old=some b.l/\b.rw=true/\b.G0 N/\g=N b.l):Md J S w0 N0 n0 (s.bl4 n e old str own) (E8 (E8 N n g') (n+1) c') a w':=by
 unfold St.T8 at hf hf1;simp only[m5,av,aN]at hf hf1;have old2:∀ b∈s.hp,(E8 (E8 N n g') (n+1) c') b.l=N b.l/\(E8 (E8 N n g') (n+1) c') (b.l+1)=N (b.l+1)/\A5 J (E8 (E8 N n g') (n+1) c') b.cs=A5 J N b.cs:=fun b hb=>
  ⟨(B3 (T3 (hf1.2 b hb).1)).trans (B3 (T3 (hf.2 b hb).1)),(B3 (T3 (hf1.2 b hb).2.2)).trans (B3 (T3 (hf.2 b hb).2.2)),(aA2 J (hf1.2 b hb).2.1).trans (aA2 J (hf.2 b hb).2.1)⟩
 have oldr:∀ b∈s.hp,b.G0 (E8 (E8 N n g') (n+1) c')->b.G0 N:=fun b hb hr=>hr.imp id (fun h=>by rw[<-(old2 b hb).2.1];exact h)
 have e1:(E8 (E8 N n g') (n+1) c') n=g':=(B3 U).trans (K7 ..);have e2:(E8 (E8 N n g') (n+1) c') (n+1)=c':=K7 ..;have apart:∀ y∈s.hp,old≠some y.l->y.G0 N->c'≠0->∀ i,fp N y i->g'≠i:=by
  intro y hy hne hry hc' i hi;have hlt:=(hM.hp y hy).ax9 hry hi;rcases hG.at_ with h|⟨h1,h2⟩|h
  .exact absurd h hc'
  .rcases ho with h|⟨b,hb,hob,_,hbr,hgb⟩
   .exact absurd h h1
   .rw[h2,hgb];exact fun e=>hM.ne b hb y hy (fun e=>hne (by rw[hob,e])) hbr hry i (e ▸ I4 N b) hi
  .omega
 refine⟨?_,?_,?_,?_,hM.cx,?_,?_⟩
 .rw[hM.act];congr 2;apply aG;intro x hx;exact((SV.aY5 J (hf1.1 x hx)).trans (SV.aY5 J (hf.1 x hx))).symm
 .intro x hx;rcases bB8 hx with rfl|⟨hx,hne⟩
  .show RowB w' ((E8 (E8 N n g') (n+1) c') n) ((E8 (E8 N n g') (n+1) c') (n+1)) e (bA1 own).isEmpty (u9 J str).s.data.toList;rw[e1,e2,hstr,dn3];exact hG.row
  .refine BkOk.at7 ((hM.hp x hx).bD0 fun hr i hi hlt=>hG.by_.block _ hlt ?_) (old2 x hx).1 (fun _=>(old2 x hx).2.1) (old2 x hx).2.2;unfold ab6;rcases ho with h|⟨b,hb,hob,_,hbr,hgb⟩
   .rw[if_pos h];simp
   .split
    .simp
    .intro he;injection he with he;exact hM.ne x hx b hb (fun e=>hne (by rw[hob,e])) hr hbr i hi (by rw[he,hgb];exact I4 N b)
 .intro x hx y hy hne hrx hry;rcases bB8 hx with rfl|⟨hx,hnx⟩<;>rcases bB8 hy with rfl|⟨hy,hny⟩
  .exact absurd rfl hne
  .intro i ix iy;have e:=Q9 rfl ix;rw[show i=g' from e.trans e1]at iy;refine apart y hy hny (oldr y hy hry) ?_ g' ((Z9 (old2 y hy).1 (old2 y hy).2.2 g').1 iy) rfl;rcases hrx with h|h
   .cases h
   .exact fun q=>h (e2.trans q)
  .intro i ix iy;have e:=Q9 rfl iy;rw[show i=g' from e.trans e1]at ix;refine apart x hx hnx (oldr x hx hrx) ?_ g' ((Z9 (old2 x hx).1 (old2 x hx).2.2 g').1 ix) rfl;rcases hry with h|h
   .cases h
   .exact fun q=>h (e2.trans q)
  .exact(hM.ne x hx y hy hne (oldr x hx hrx) (oldr y hy hry)).bM1 (old2 x hx).1 (old2 x hx).2.2 (old2 y hy).1 (old2 y hy).2.2
 .intro x hx hw hr i hi;rcases bB8 hx with rfl|⟨hx,hnx⟩
  .have e:=Q9 rfl hi;rw[show i=g' from e.trans e1];rcases hr with h|h
   .cases h
   .have h:c'≠0:=fun q=>h (e2.trans q)
    rcases hG.at_ with h'|⟨h1,h2⟩|h'
    .exact absurd h' h
    .rcases ho with h3|⟨b,hb,hob,hbw,hbr,hgb⟩
     .exact absurd h3 h1
     .rw[h2,hgb];exact hM.ar5 b hb hbw hbr
    .rw[h'];exact .inr hM.only.size
  .exact hM.may x hx hw (oldr x hx hr) i ((Z9 (old2 x hx).1 (old2 x hx).2.2 i).1 hi)
 .have hb:=hG.by_;refine⟨hb.os.trans hM.only.os,hb.tape.trans hM.only.tape,hb.output.trans hM.only.output,bu hM.only.size hb.size,fun k hk hS=>?_⟩;refine(hb.block k (br hk hM.only.size) ?_).trans (hM.only.block k hk hS);unfold ab6;split
  .simp
  .rename_i hc;intro he;injection he with he;rcases ho with h3|⟨b,hb,hob,hbw,hbr,hgb⟩
   .exact absurd h3 hc
   .rcases hM.ar5 b hb hbw hbr with h|h
    .rw[<-hgb,<-he]at h;exact hS h
    .rw[<-hgb,<-he]at h;omega
 .intro l hl;exact((B3 U).trans (B3 U)).trans (hM.old l hl)
theorem dF1{J:Env}{N:Bn}{P:Program}{S:Nat->Prop}{w0 w:World}{N0:Bn}{n0:Nat}{s:St}{a:Act}(hM:Md J S w0 N0 n0 s N a w){c:Cx}(hc:c.ok J){ev:Operand->Option SV}(hev:∀ x v,ev x=some v->a.eval x=v.A1 J N)
 {o:Oper} {k:Call} (ho:o.op= .call k) {m:List Tm} {old:Option Nat} {e:TypeId} {str:Tm} (h:cW3 P c s.hp ev k=some (m,old,e,str)) (hm:Met J m) (n:Nat) (hn:n0<=n) (hf:s.T8 n=true) (hf1:s.T8 (n+1)=true):
 ∃ N' w',(execOp a.eval o).run P w= .ok (.value (C.G2 J N' (.slr n i9 (Q6 c str) i9))) w'/\Md J S w0 N0 n0 (s.bl4 n e old str) N' a w':=by
 unfold cW3 at h;split at h
 .rename_i x y t u hcal hargs hats;split at h
  .rename_i xv yv e' hx hy ht;split at h
   .rename_i i hi;split at h
    .rename_i q;simp only[m5]at q;have q1:=af q.1;have q2:=af q.2.1;have q3:=c90 q.2.2;split at h
     .rename_i m1 old' s1 m2 r hbase hsrc;injection h with h;injection h with h1 h;injection h with h2 h;injection h with h3 h4;subst h1 h2 h3 h4;have htot:=B2 (z0 hc hm.r.r);rw[Q8 hc]at htot;change _<=(140737488355328:Int)at htot;have hb:∃ g cap,RowB w g cap e' true (u9 J s1).s.data.toList/\xv.A1 J N=aO9 g cap 0 (u9 J s1).s.data.toList.length/\(cap=0\/∃ b∈s.hp,old'=some b.l/\b.rw=true/\b.G0 N/\g=N b.l):=by
       unfold cr5 at hbase;split at hbase
       .injection hbase with hbase;injection hbase with b1 b2;injection b2 with b2 b3;subst b1 b2 b3;exact⟨0,0,RowB.cZ2 ..,rfl, .inl rfl⟩
       .rename_i l off len an;split at hbase
        .rename_i b hfb;split at hbase
         .rename_i sb hsb;split at hbase
          .rename_i z;simp only[m5]at z;injection hbase with hbase;injection hbase with b1 b2;injection b2 with b2 b3;subst b1 b2 b3;have hmem:=U4 hfb;have hB:=hM.hp b hmem.1;unfold BkOk at hB;rw[hsb]at hB;have hB:RowB w (N b.l) (N (b.l+1)) b.ty b.cs.isEmpty (u9 J sb).s.data.toList:=hB;rw[z.2.1,hmem.2,af z.2.2.1]at hB;have l1:=B2 (z0 hc hm.l.l);have l2:=B2 (z0 hc hm.l.r);rw[Q8 hc]at l1 l2;have hsz:(u9 J sb).s.data.toList.length=(u9 J sb).s.size:=rfl;refine⟨N l,N (l+1),hB,?_,?_⟩
           .show C.G2 J N (.slr l off len an)=_;rw[aY2,H9 z.2.2.2];show ac9 _ _ ((0:Int)).toNat _ _=_;rw[show((0:Int)).toNat=0 from rfl,bF8];congr 1;omega
           .by_cases h0:N (l+1)=0
            .exact .inl h0
            .exact .inr ⟨b,hmem.1,by rw[hmem.2],z.1, .inr (by rw[hmem.2];exact h0),by rw[hmem.2]⟩
          .cases hbase
         .cases hbase
        .cases hbase
       .cases hbase
      obtain⟨g,cap,hrow,hxv,hold⟩:=hb;have happ:(u9 J (aK3 s1 r)).s.data.toList=(u9 J s1).s.data.toList++(u9 J r).s.data.toList:=by
       rw[bB0];simp
      have hszr:(u9 J r).s.data.toList.length=(u9 J r).s.size:=rfl;have hszs:(u9 J s1).s.data.toList.length=(u9 J s1).s.size:=rfl;have hszt:(u9 J (aK3 s1 r)).s.size=(u9 J s1).s.data.toList.length+(u9 J r).s.size:=by
       show(u9 J (aK3 s1 r)).s.data.toList.length=_;rw[happ,az];rfl
      have hres:∃ g' c' w',(Builtin.append_ #[t,u] o.type #[xv.A1 J N,yv.A1 J N]).run P w= .ok (aO9 g' c' 0 ((u9 J s1).s.data.toList.length+(u9 J r).s.size)) w'/\Grown w w' g cap e' ((u9 J s1).s.data.toList++(u9 J r).s.data.toList) g' c':=by
       rw[hxv];have hbd:(u9 J s1).s.data.toList.length+(u9 J r).s.size<=140737488355328:=by omega
       have slc:∀{A:Option Addr} {k:Nat},t=u->yv.A1 J N= .slice A (u9 J r).s.size k->Reads w w.heap.size 1 A (u9 J r).s.size (W4 (u9 J r).s.data.toList)->∃ g' c' w',(Builtin.append_ #[t,u] o.type #[aO9 g cap 0 (u9 J s1).s.data.toList.length,yv.A1 J N]).run P w= .ok (aO9 g' c' 0 ((u9 J s1).s.data.toList.length+(u9 J r).s.size)) w'/\Grown w w' g cap e' ((u9 J s1).s.data.toList++(u9 J r).s.data.toList) g' c':=by
        intro A k htu hv hr;rw[<-htu,hv];exact dq7 ht hi q3 q1 q2 hrow hr hbd
       unfold eF7 at hsrc;split at hsrc
       .rename_i str;split at hsrc
        .rename_i hu;injection hsrc with hsrc;injection hsrc with b1 b2;subst b1 b2;exact dq6 ht hu hi q3 q1 q2 hrow _ hbd
        .cases hsrc
       .split at hsrc
        .rename_i z;injection hsrc with hsrc;injection hsrc with b1 b2;subst b1 b2;exact slc (A:=none) (k:=0) (af z) rfl Reads.bu9
        .cases hsrc
       .rename_i l off len cp;split at hsrc
        .rename_i b nn hfb hlit;split at hsrc
         .rename_i hsb;split at hsrc
          .rename_i z;simp only[m5]at z;have z2:=au z.2.1;have hno:=Xt.a56 z.2.2;cases hcb:aV4 c ((b.cs.drop off).take nn.toNat)with
           | none=>rw[hcb]at hsrc;cases hsrc
           | some rs=>
             rw[hcb]at hsrc;injection hsrc with hsrc;injection hsrc with b1 b2;subst b1 b2;have hcells:=ax4 (N:=N) hc hcb;have hmem:=U4 hfb;have hB:=hM.hp b hmem.1;unfold BkOk at hB;rw[hsb,hno]at hB;have hB:Blk w (N b.l) b.ty (A5 J N b.cs):=hB;rw[hmem.2]at hB;have hsz:(u9 J rs).s.size=nn.toNat:=by
              have:=congrArg List.length hcells;rw[U5,cells8'_len,aU,bo]at this;show(u9 J rs).s.data.toList.length=_;omega
             refine slc (A:=some ⟨N l,off,none⟩) (k:=(u9 J cp).i.toNat) (af z.1) ?_ ?_
             .rw[U8 hlit,hsz];rfl
             .refine⟨by rw[cells8'_len,Nat.mul_one];rfl,fun h0=>⟨_,rfl,hB.lt,fun j u hj=>?_⟩⟩;rw[Addr.add_mid,hB.ag8];rw[<-hcells,aR4,aO1,aL,aS]at hj;split at hj
              .exact hj
              .cases hj
          .cases hsrc
         .cases hsrc
        .cases hsrc
       .rename_i l off len an;split at hsrc
        .rename_i sr hfr;split at hsrc
         .rename_i z;injection hsrc with hsrc;injection hsrc with b1 b2;subst b1 b2;obtain⟨ty',own',hB⟩:=ai9 hfr hM.hp;obtain⟨r1,r2,r3⟩:=ax1 hc hm.r.l;have hcap:=hB.len;have hx:=bO1 (u9 J sr).s (u9 J off).i.toNat (u9 J len).i.toNat U;have hfin:(u9 J (aP8 c sr off (U0 off len))).s.data.toList=((u9 J sr).s.data.toList.drop (u9 J off).i.toNat).take (u9 J len).i.toNat:=by
           rw[ag3 hc,X2,show((u9 J off).i+(u9 J len).i).toNat=(u9 J off).i.toNat+(u9 J len).i.toNat from by omega];exact hx
          have hsz:(u9 J (aP8 c sr off (U0 off len))).s.size=(u9 J len).i.toNat:=by
           show(u9 J (aP8 c sr off (U0 off len))).s.data.toList.length=_;rw[hfin,aU,bo];omega
          by_cases h0:N (l+1)=0
          .refine slc (A:=none) (k:=0) (af z) ?_ ?_
           .show C.G2 J N (.slr l off len an)=_;rw[aY2,hsz];unfold ac9;rw[if_pos h0];congr 1;omega
           .have e0:(u9 J (aP8 c sr off (U0 off len))).s.size=0:=by omega
            have e1:(u9 J (aP8 c sr off (U0 off len))).s.data.toList=[]:=ay e0;rw[e0,e1];exact Reads.bu9
          .refine slc (A:=some ⟨N l,if N (l+1)=(u9 J off).i.toNat then(u9 J an).i.toNat else(u9 J off).i.toNat,none⟩) (k:=N (l+1) - (u9 J off).i.toNat) (af z) ?_ ?_
           .show C.G2 J N (.slr l off len an)=_;rw[aY2,hsz];unfold ac9;rw[if_neg h0]
           .refine⟨by rw[cells8'_len,Nat.mul_one];rfl,fun hpos=>⟨_,rfl,?_,fun j u hj=>?_⟩⟩
            .obtain⟨cur,fr,hh,_⟩:=hB.row h0;exact(aP.1 hh).1
            .rw[hfin]at hj;have hjl:j<(u9 J len).i.toNat:=by
              have:=(List.getElem?_eq_some_iff.1 hj).1;rw[cells8'_len,aU]at this;omega
             have hj':(u9 J off).i.toNat+j<(u9 J sr).s.data.toList.length:=by omega
             rw[if_neg U,Addr.add_mid,(hB.b96 hj').1,<-hj];unfold W4;rw[bn,aL,if_pos hjl,aS,ar hj'];rfl
         .cases hsrc
        .cases hsrc
       .cases hsrc
      obtain⟨g',c',w',hrun,hG⟩:=hres;refine⟨E8 (E8 N n g') (n+1) c',w',?_,hM.eJ5 n hn hf hf1 hG happ hold⟩;obtain⟨callee,args,ats⟩:=k;simp only[]at hcal hargs hats;subst hcal;have e1:args=#[x,y]:=by cases args;simp at hargs;rw[hargs]
      have e2:ats=#[t,u]:=by cases ats;simp at hats;rw[hats]
      subst e1 e2;have hval:C.G2 J (E8 (E8 N n g') (n+1) c') (.slr n i9 (Q6 c (aK3 s1 r)) i9)=aO9 g' c' 0 ((u9 J s1).s.data.toList.length+(u9 J r).s.size):=by
       rw[aY2,K7,B3 (show n≠n+1 from by omega),K7,Q8 hc,hszt];exact bF8 _ _ _ _
      rw[hval];unfold execOp;simp only[ho,resolve,invoke,builtin,am,aq,ai,List.map_toArray,aW,List.map_nil,hev _ _ hx,hev _ _ hy,hrun]
     .cases h
    .cases h
   .cases h
  .cases h
 .cases h
def cY2(P:Program)(c:Cx)(src dst:TypeId)(t:Tm):Option (List Tm × TypeId):=
 match P.underlying src,P.underlying dst with
 | some .string,some (.slice e)=>match P.underlying e with
   | some (.int .u8)=>some (F9 c (.lt i9 (Q6 c t))++F9 c (.le (Q6 c t) qcb),e)
   | _=>none
 | _,_=>none
theorem dH0{J:Env}{N:Bn}{P:Program}{S:Nat->Prop}{w0 w:World}{N0:Bn}{n0:Nat}{s:St}{a:Act}(hM:Md J S w0 N0 n0 s N a w){c:Cx}(hc:c.ok J){src dst e:TypeId}{t:Tm}{m:List Tm}
 (h:cY2 P c src dst t=some (m,e)) (hm:Met J m) (n:Nat) (hn:n0<=n) (hf:s.T8 n=true) (hf1:s.T8 (n+1)=true):
 ∃ N' w',(convert src dst (.string (u9 J t).s)).run P w= .ok (C.G2 J N' (.slr n i9 (Q6 c t) i9)) w'/\Md J S w0 N0 n0 (s.bl4 n e none t false) N' a w':=by
 unfold cY2 at h;split at h
 .rename_i e' hs hd;split at h
  .rename_i he;injection h with h;injection h with h1 h2;subst h1 h2;have l1:=aL4 (z0 hc hm.l);have l2:=B2 (z0 hc hm.r);rw[Q8 hc]at l1 l2;change(0:Int)<_ at l1;change _<=(140737488355328:Int)at l2;have hge:=grownCap_ge w (u9 J t).s.size 0 e';have hmx:grownCap w (u9 J t).s.size 0 e'<=maxLen:=grownCap_le_maxLen w (u9 J t).s.size 0 e' (by simp only[maxLen];omega);have hsz:(Lib.bytesCells w e' (u9 J t).s).size=grownCap w (u9 J t).s.size 0 e':=by
    unfold Lib.bytesCells;simp;have e0:(u9 J t).s.data.size=(u9 J t).s.size:=rfl;omega
   have hlen:(u9 J t).s.data.toList.length=(u9 J t).s.size:=rfl;refine⟨E8 (E8 N n w.heap.size) (n+1) (grownCap w (u9 J t).s.size 0 e'),Lib.bytesWorld w e' (u9 J t).s,?_,?_⟩
   .rw[Lib.run_convert_string_bytes w src dst e' (u9 J t).s hs hd he,aY2,K7,B3 (show n≠n+1 from by omega),K7,Q8 hc];rw[show(u9 J i9).i.toNat=0 from rfl,bF8,aI9 U];rfl
   .refine hM.eJ5 (g:=0) (c:=0) (own:=false) n hn hf hf1 ⟨⟨fun _=>⟨_,_,Lib.bytesWorld_at_new w e' (u9 J t).s, .inr ⟨rfl,?_⟩,hsz,hmx,?_⟩,by omega⟩,⟨rfl,rfl,rfl,?_,fun k hk _=>Lib.bytesWorld_at_old w e' (u9 J t).s k hk⟩, .inr (.inr rfl)⟩ rfl (.inl rfl)
    .show _<=(Lib.bytesCells w e' (u9 J t).s).size;omega
    .unfold Lib.bytesCells W4;simp
    .rw[Lib.bytesWorld_size];omega
  .cases h
 .cases h
end Sy
end Go.Proofs.YtnlcpcmdlcakgaaGreat
