/- A part of the proof that a connection answers as the document says: SyD SyE SyF. -/
import Derived.Lib.ConvBytes
import Derived.Laws.StructEq
import Derived.BigFrame
import Derived.Laws.Tables
import Derived.Laws.Small
import Derived.Laws.Slices
import Derived.Laws.Strings2
import Derived.Laws.Unary
import Derived.Laws.Cover1
import Derived.Test.YtnlcpcmdlcakgaaGreatKh02
set_option maxRecDepth 100000
set_option maxHeartbeats 4000000
set_option linter.unusedVariables false
set_option linter.unusedSimpArgs false
set_option linter.unusedSectionVars false
namespace Go.Proofs.YtnlcpcmdlcakgaaGreat
namespace Sy
open Go Go.RowKit
def F9(c:Cx)(t:Tm):List Tm:=if X1 c t then []else [t]
def Met(J:Env)(l:List Tm):Prop:=∀ t∈l,(u9 J t).b=true
theorem z0{J:Env}{c:Cx}(hc:c.ok J){t:Tm}(h:Met J (F9 c t)):(u9 J t).b=true:=by
 unfold F9 at h;split at h
 .rename_i q;exact L0 hc q
 .exact h t bM
theorem Met.l{J:Env}{a b:List Tm}(h:Met J (a++b)):Met J a:=fun t ht=>h t (aX _ ht)
theorem Met.r{J:Env}{a b:List Tm}(h:Met J (a++b)):Met J b:=fun t ht=>h t (aV _ ht)
def Q6(c:Cx):Tm->Tm
 | .sl l=> .il l.length
 | .chr _=> .il 1
 | .app x y=>U0 (Q6 c x) (Q6 c y)
 | .cut s lo hi=>if X1 c (.le i9 lo)&&(X1 c (.le lo hi)&&X1 c (.le hi (Q6 c s)))then aB0 hi lo else .len (.cut s lo hi)
 | t=> .len t
theorem Q8{J:Env}{c:Cx}(hc:c.ok J):∀ t:Tm,(u9 J (Q6 c t)).i=((u9 J t).s.size:Int):=by
 intro t
 induction t with
 | sl l=>show(l.length:Int)=((l.toArray.size:Nat):Int);simp
 | chr x _=>rfl
 | app x y i1 i2=>
   show(u9 J (U0 (Q6 c x) (Q6 c y))).i=_;rw[X2,i1,i2];show _=((((u9 J x).s++(u9 J y).s).size:Nat):Int);rw[aR];simp
 | cut s lo hi i1 _ _=>
   simp only[Q6];split
   .rename_i q;simp only[m5]at q;have h1:=L0 hc q.1;have h2:=L0 hc q.2.1;have h3:=L0 hc q.2.2;change decide ((0:Int)<=(u9 J lo).i)=true at h1;change decide ((u9 J lo).i<=(u9 J hi).i)=true at h2;change decide ((u9 J hi).i<=(u9 J (Q6 c s)).i)=true at h3;rw[i1]at h3;simp only[aB]at h1 h2 h3;rw[aA6];show _=((((u9 J s).s.extract (u9 J lo).i.toNat (u9 J hi).i.toNat).size:Nat):Int);rw[ByteArray.size_extract];omega
   .rfl
 | _=>rfl
def dI0(x y:Tm):Tm:=
 match x,y with
 | .sl [],t=>t
 | t, .sl []=>t
 | .sl a, .sl b=> .sl (a++b)
 | .sl a, .app (.sl b) t=> .app (.sl (a++b)) t
 | x,y=> .app x y
def aK3:Tm->Tm->Tm
 | .app a b,y=>aK3 a (aK3 b y)
 | x,y=>dI0 x y
theorem dH9(s:ByteArray):s++⟨#[]⟩=s:=by
 apply ByteArray.ext;simp
theorem dD0(s:ByteArray):(⟨#[]⟩:ByteArray)++s=s:=by
 apply ByteArray.ext;simp
theorem dq8(J:Env)(x y:Tm):(u9 J (dI0 x y)).s=(u9 J x).s++(u9 J y).s:=by
 unfold dI0;split
 .exact(dD0 _).symm
 .exact(dH9 _).symm
 .rename_i a b _ _;show(⟨(a++b).toArray⟩:ByteArray)=⟨a.toArray⟩++⟨b.toArray⟩;apply ByteArray.ext;simp
 .rename_i a b t _;show(⟨(a++b).toArray⟩:ByteArray)++(u9 J t).s=⟨a.toArray⟩++(⟨b.toArray⟩++(u9 J t).s);apply ByteArray.ext;apply Array.ext';simp
 .rfl
theorem bB0(J:Env)(x:Tm):∀ y,(u9 J (aK3 x y)).s=(u9 J x).s++(u9 J y).s:=by
 induction x with
 | app a b iha ihb=>
   intro y;rw[aK3,iha,ihb];show _=((u9 J a).s++(u9 J b).s)++_;apply ByteArray.ext;simp
 | _=>intro y;exact dq8 ..
def bL3(c:Cx)(x y:Tm):Tm:=
 match x,y with
 | .sl a, .sl b=> .bl (ai7 a b)
 | .sl [],t=>mkB c (.eq (Q6 c t) i9)
 | t, .sl []=>mkB c (.eq (Q6 c t) i9)
 | x,y=>mkB c (.seq x y)
theorem ba4:∀ a:List UInt8,ai7 a a=true
 | []=>rfl
 | a::l=>by simp[ai7,ba4 l]
theorem bp8(s:ByteArray):(s.toList==[])=decide ((s.size:Int)=0):=by
 have h:s.toList.length=s.size:=by rw[ByteArray.toList_eq];simp
 cases hs:s.toList with
 | nil=>
   rw[hs]at h;have h0:s.size=0:=h.symm;rw[h0];rfl
 | cons a l=>
   rw[hs,List.length_cons]at h;have h0:¬((s.size:Int)=0):=by omega
   rw[aH h0];rfl
theorem bA8{J:Env}{c:Cx}(hc:c.ok J)(x y:Tm):(u9 J (bL3 c x y)).b=((u9 J x).s.toList==(u9 J y).s.toList):=by
 unfold bL3;split
 .rename_i a b;show ai7 a b=((ByteArray.mk a.toArray).toList==(ByteArray.mk b.toArray).toList);rw[ByteArray.toList_eq,ByteArray.toList_eq];show _=(a==b);cases h:ai7 a b with
  | true=>rw[bR7 h];simp
  | false=>
    symm;rw[beq_eq_false_iff_ne];rintro rfl;rw[ba4]at h;cases h
 .skip
  rw[aK7 hc];show((u9 J (Q6 c y)).i==0)=((ByteArray.mk ([]:List UInt8).toArray).toList==(u9 J y).s.toList);rw[show(ByteArray.mk ([]:List UInt8).toArray)=ByteArray.mk #[]from rfl,Q8 hc,show((ByteArray.mk #[]).toList==(u9 J y).s.toList)=((u9 J y).s.toList==[])from by
   rw[show(ByteArray.mk #[]).toList=[]from by rw[ByteArray.toList_eq]];cases(u9 J y).s.toList<;>rfl,bp8]
  rfl
 .skip
  rw[aK7 hc];show((u9 J (Q6 c x)).i==0)=((u9 J x).s.toList==(ByteArray.mk ([]:List UInt8).toArray).toList);rw[show(ByteArray.mk ([]:List UInt8).toArray)=ByteArray.mk #[]from rfl,Q8 hc,show(ByteArray.mk #[]).toList=[]from by rw[ByteArray.toList_eq],bp8];rfl
 .rw[aK7 hc];rfl
def bT0(c:Cx)(s lo hi:Tm):Tm:=
 match s with
 | .sl l=>match aC4 lo,aC4 hi with
   | some a,some b=> .sl ((l.take b.toNat).drop a.toNat)
   | _,_=> .cut s lo hi
 | .cut t a b=>if X1 c (.le i9 a)&&(X1 c (.le i9 lo)&&(X1 c (.le i9 hi)&&X1 c (.le hi (aB0 b a))))then .cut t (U0 a lo) (U0 a hi)else .cut s lo hi
 | .app t u=>
   if X1 c (.le i9 lo)&&(X1 c (.le lo hi)&&X1 c (.le hi (Q6 c t)))then(if E7 lo i9&&E7 hi (Q6 c t)then t else bT0 c t lo hi)
   else if X1 c (.le (Q6 c t) lo)&&X1 c (.le lo hi)then(if E7 lo (Q6 c t)&&E7 (aB0 hi (Q6 c t)) (Q6 c u)then u else bT0 c u (aB0 lo (Q6 c t)) (aB0 hi (Q6 c t)))
   else .cut s lo hi
 | s=> .cut s lo hi
theorem cq8(a b:ByteArray){i j:Nat}(h:j<=a.size):(a++b).extract i j=a.extract i j:=by
 apply ByteArray.ext;apply Array.ext';have hl:a.data.toList.length=a.size:=rfl;simp only[ByteArray.data_extract,ByteArray.data_append,Array.toList_extract,Array.toList_append,List.extract_eq_take_drop];apply List.ext_getElem?;intro k;simp only[aL,aS];split
 .rw[bk U]
 .rfl
theorem cq7(a b:ByteArray){i j:Nat}(h:a.size<=i):(a++b).extract i j=b.extract (i - a.size) (j - a.size):=by
 apply ByteArray.ext;apply Array.ext';have hl:a.data.toList.length=a.size:=rfl;simp only[ByteArray.data_extract,ByteArray.data_append,Array.toList_extract,Array.toList_append,List.extract_eq_take_drop];apply List.ext_getElem?;intro k;simp only[aL,aS];by_cases hk:k<j - i
 .rw[if_pos hk,if_pos U,aO U];congr 1;omega
 .rw[if_neg hk,if_neg U]
theorem bH6(a:ByteArray){i j:Nat}(hi:i=0)(hj:j=a.size):a=a.extract i j:=by
 subst hi hj;apply ByteArray.ext;simp
theorem dp9{J:Env}{c:Cx}(hc:c.ok J):∀(s lo hi:Tm),(u9 J (bT0 c s lo hi)).s=(u9 J s).s.extract (u9 J lo).i.toNat (u9 J hi).i.toNat:=by
 intro s
 induction s with
 | sl l=>
   intro lo hi;unfold bT0;split
   .rename_i a b h1 h2;rw[U8 h1,U8 h2];show(⟨((l.take b.toNat).drop a.toNat).toArray⟩:ByteArray)=(⟨l.toArray⟩:ByteArray).extract a.toNat b.toNat;apply ByteArray.ext;apply Array.ext';simp only[ByteArray.data_extract,Array.toList_extract,List.extract_eq_take_drop,List.drop_take]
   .rfl
 | cut t a b _ _ _=>
   intro lo hi;unfold bT0;split
   .rename_i q;simp only[m5]at q;have h1:=L0 hc q.1;have h2:=L0 hc q.2.1;have h3:=L0 hc q.2.2.1;have h4:=L0 hc q.2.2.2;change decide ((0:Int)<=(u9 J a).i)=true at h1;change decide ((0:Int)<=(u9 J lo).i)=true at h2;change decide ((0:Int)<=(u9 J hi).i)=true at h3;change decide ((u9 J hi).i<=(u9 J (aB0 b a)).i)=true at h4;rw[aA6]at h4;simp only[aB]at h1 h2 h3 h4;show(u9 J t).s.extract (u9 J (U0 a lo)).i.toNat (u9 J (U0 a hi)).i.toNat=((u9 J t).s.extract (u9 J a).i.toNat (u9 J b).i.toNat).extract _ _;rw[X2,X2];apply ByteArray.ext;simp only[ByteArray.data_extract,Array.extract_extract];congr 1
    .omega
    .omega
   .rfl
 | app t u iht ihu=>
   intro lo hi;unfold bT0;have hs:(u9 J (.app t u)).s=(u9 J t).s++(u9 J u).s:=rfl;rw[hs];split
   .rename_i q;simp only[m5]at q;have h1:=L0 hc q.1;have h2:=L0 hc q.2.1;have h3:=L0 hc q.2.2;change decide ((0:Int)<=(u9 J lo).i)=true at h1;change decide ((u9 J lo).i<=(u9 J hi).i)=true at h2;change decide ((u9 J hi).i<=(u9 J (Q6 c t)).i)=true at h3;rw[Q8 hc]at h3;simp only[aB]at h1 h2 h3;rw[cq8 _ _ U];split
    .rename_i z;simp only[m5]at z;refine bH6 _ ?_ ?_
     .rw[H9 z.1];rfl
     .rw[H9 z.2,Q8 hc,aK]
    .exact iht lo hi
   .split
    .rename_i q;simp only[m5]at q;have h1:=L0 hc q.1;have h2:=L0 hc q.2;change decide ((u9 J (Q6 c t)).i<=(u9 J lo).i)=true at h1;change decide ((u9 J lo).i<=(u9 J hi).i)=true at h2;rw[Q8 hc]at h1;simp only[aB]at h1 h2;rw[cq7 _ _ U];split
     .rename_i z;simp only[m5]at z;have e:=H9 z.2;have e2:(u9 J (aB0 hi (Q6 c t))).i=(u9 J (Q6 c u)).i:=by rw[e]
      rw[aA6,Q8 hc,Q8 hc]at e2;refine bH6 _ ?_ ?_
      .rw[H9 z.1,Q8 hc];omega
      .omega
     .rw[ihu,aA6,aA6,Q8 hc];congr 1
      .omega
      .omega
    .rfl
 | _=>intro lo hi;rfl
def aP8(c:Cx)(s lo hi:Tm):Tm:=
 if E7 lo hi then .sl []
 else if E7 lo i9&&E7 hi (Q6 c s)then s else bT0 c s lo hi
theorem ag3{J:Env}{c:Cx}(hc:c.ok J)(s lo hi:Tm):(u9 J (aP8 c s lo hi)).s=(u9 J s).s.extract (u9 J lo).i.toNat (u9 J hi).i.toNat:=by
 unfold aP8;split
 .rename_i q;rw[H9 q];apply ByteArray.ext;show(#[]:Array UInt8)=_;simp
 .split
  .rename_i q;simp only[m5]at q;rw[H9 q.1,H9 q.2,Q8 hc];show _=(u9 J s).s.extract 0 _;apply ByteArray.ext;simp
  .exact dp9 hc ..
def ad6(c:Cx)(s i:Tm):Tm:=
 match s with
 | .sl l=>match aC4 i with
   | some n=> .il (((l.getD n.toNat 0).toNat:Nat):Int)
   | none=> .byte s i
 | .app t u=>
   if X1 c (.le i9 i)&&X1 c (.lt i (Q6 c t))then ad6 c t i
   else if X1 c (.le (Q6 c t) i)then ad6 c u (aB0 i (Q6 c t))
   else .byte s i
 | .cut t a b=>if X1 c (.le i9 a)&&(X1 c (.le i9 i)&&X1 c (.lt i (aB0 b a)))then ad6 c t (U0 a i)else .byte s i
 | s=> .byte s i
theorem b87(a b:ByteArray){i:Int}(h0:0<=i)(h:i<(a.size:Int)):Y4 (a++b) i=Y4 a i:=by
 unfold Y4;have hl:a.data.toList.length=a.size:=rfl;rw[ByteArray.data_append,Array.toList_append,List.getD,List.getD,bk U]
theorem b86(a b:ByteArray){i:Int}(h:(a.size:Int)<=i):Y4 (a++b) i=Y4 b (i - (a.size:Int)):=by
 unfold Y4;have hl:a.data.toList.length=a.size:=rfl;rw[ByteArray.data_append,Array.toList_append,List.getD,List.getD,aO U,show i.toNat - a.data.toList.length=(i - (a.size:Int)).toNat from by omega]
theorem cY3(a:ByteArray){i lo hi:Int}(h0:0<=lo)(h1:0<=i)(h2:i<hi - lo):Y4 (a.extract lo.toNat hi.toNat) i=Y4 a (lo+i):=by
 unfold Y4;simp only[ByteArray.data_extract,Array.toList_extract,List.extract_eq_take_drop];rw[List.getD,List.getD,aL,if_pos U,aS,show lo.toNat+i.toNat=(lo+i).toNat from by omega]
theorem bG9{J:Env}{c:Cx}(hc:c.ok J):∀(s i:Tm),(u9 J (ad6 c s i)).i=Y4 (u9 J s).s (u9 J i).i:=by
 intro s
 induction s with
 | sl l=>
   intro i;unfold ad6;split
   .rename_i n h;rw[U8 h];rfl
   .rfl
 | app t u iht ihu=>
   intro i;unfold ad6;have hs:(u9 J (.app t u)).s=(u9 J t).s++(u9 J u).s:=rfl;rw[hs];split
   .rename_i q;simp only[m5]at q;have h1:=L0 hc q.1;have h2:=L0 hc q.2;change decide ((0:Int)<=(u9 J i).i)=true at h1;change decide ((u9 J i).i<(u9 J (Q6 c t)).i)=true at h2;rw[Q8 hc]at h2;simp only[aB]at h1 h2;rw[b87 _ _ h1 h2];exact iht i
   .split
    .rename_i q;have h1:=L0 hc q;change decide ((u9 J (Q6 c t)).i<=(u9 J i).i)=true at h1;rw[Q8 hc]at h1;simp only[aB]at h1;rw[b86 _ _ h1,ihu,aA6,Q8 hc]
    .rfl
 | cut t a b iht _ _=>
   intro i;unfold ad6;split
   .rename_i q;simp only[m5]at q;have h1:=L0 hc q.1;have h2:=L0 hc q.2.1;have h3:=L0 hc q.2.2;change decide ((0:Int)<=(u9 J a).i)=true at h1;change decide ((0:Int)<=(u9 J i).i)=true at h2;change decide ((u9 J i).i<(u9 J (aB0 b a)).i)=true at h3;rw[aA6]at h3;simp only[aB]at h1 h2 h3;show _=Y4 ((u9 J t).s.extract (u9 J a).i.toNat (u9 J b).i.toNat) (u9 J i).i;rw[cY3 _ h1 h2 h3,iht,X2]
   .rfl
 | _=>intro i;rfl
def bc3:IntKind->Int
 | .i8| .u8=>8| .i16| .u16=>16| .i32| .u32=>32| .i64| .u64=>64
theorem b65(k:IntKind):bc3 k=(k.bits:Int):=by cases k<;>rfl
def cY7(c:Cx)(op:BinOp)(k:IntKind)(a b:Tm):Option (List Tm × C):=
 match op with
 | .add=>some ([], .int k (ad5 c.bs k (U0 a b)))
 | .sub=>some ([], .int k (ad5 c.bs k (aB0 a b)))
 | .mul=>some ([], .int k (ad5 c.bs k (bb5 a b)))
 | .quo=>some (F9 c (.not (.eq b i9)), .int k (ad5 c.bs k (cU7 c.bs a b)))
 | .rem=>some (F9 c (.not (.eq b i9)), .int k (cU6 c.bs a b))
 | .and=>some ([], .int k (bA9 .and k a b))
 | .or=>some ([], .int k (bA9 .or k a b))
 | .xor=>some ([], .int k (bA9 .xor k a b))
 | .andNot=>some ([], .int k (bA9 .andNot k a b))
 | .eql=>some ([], .bool (mkB c (.eq a b)))
 | .neq=>some ([], .bool (aW4 (mkB c (.eq a b))))
 | .lss=>some ([], .bool (mkB c (.lt a b)))
 | .leq=>some ([], .bool (mkB c (.le a b)))
 | .gtr=>some ([], .bool (mkB c (.lt b a)))
 | .geq=>some ([], .bool (mkB c (.le b a)))
 | .shl| .shr=>none
theorem aD3{k:IntKind}{a b:Int}(h:a=b):Value.int k a=Value.int k b:=by rw[h]
theorem au8{a b:Bool}(h:a=b):Value.bool a=Value.bool b:=by rw[h]
theorem aB9{k:IntKind}{a b:Int}{w:World}(h:b=a):(Result.ok (Value.int k a) w)= .ok (.int k b) w:=by rw[h]
theorem aS1{a b:Bool}{w:World}(h:b=a):(Result.ok (Value.bool a) w)= .ok (.bool b) w:=by rw[h]
theorem eG6{J:Env}{b:Tm}(h:(u9 J (.not (.eq b i9))).b=true):(u9 J b).i≠0:=by
 change(!((u9 J b).i==0))=true at h;simpa using h
theorem dH8{J:Env}{N:Bn}{c:Cx}(hc:c.ok J){op:BinOp}{k:IntKind}{a b:Tm}{m:List Tm}{r:C}(h:cY7 c op k a b=some (m,r))(hm:Met J m)(P:Program)(t:TypeId)(w:World):
 (binOp op t (.int k (u9 J a).i) (.int k (u9 J b).i)).run P w= .ok (r.G2 J N) w:=by
 cases op<;>simp only[cY7]at h<;>first
  | (cases h;done)
  | (injection h with h;injection h with h1 h2;subst h1 h2)
 .rw[binOp_add];exact aB9 (by rw[aV3 hc.bs,X2])
 .rw[binOp_sub];exact aB9 (by rw[aV3 hc.bs,aA6])
 .rw[binOp_mul];exact aB9 (by rw[aV3 hc.bs,bS2])
 .have h0:=eG6 (z0 hc hm);rw[binOp_quo];simp only[Op.intDiv,h0,if_false];exact aB9 (by rw[aV3 hc.bs,dD2 hc.bs])
 .have h0:=eG6 (z0 hc hm);rw[binOp_rem];simp only[Op.intDiv,h0,if_false];exact aB9 (by rw[dD1 hc.bs])
 .rw[binOp_and];exact aB9 (aw9 ..)
 .rw[binOp_or];exact aB9 (aw9 ..)
 .rw[binOp_xor];exact aB9 (aw9 ..)
 .rw[binOp_andNot];exact aB9 (aw9 ..)
 .rw[binOp_eql];exact aS1 (aK7 hc _)
 .rw[binOp_neq];exact aS1 (by rw[al7,aK7 hc];rfl)
 .rw[binOp_lss];exact aS1 (aK7 hc _)
 .rw[binOp_leq];exact aS1 (aK7 hc _)
 .rw[binOp_gtr];exact aS1 (aK7 hc _)
 .rw[binOp_geq];exact aS1 (aK7 hc _)
def b34(c:Cx)(op:BinOp)(k:IntKind)(a b:Tm):Option (List Tm × C):=
 match op with
 | .shl=>some (F9 c (.le i9 b)++F9 c (.le b (.il (bc3 k))), .int k (ad5 c.bs k (bb5 a (cU8 b))))
 | .shr=>some (F9 c (.le i9 b)++F9 c (.le b (.il (bc3 k))), .int k (cU9 a (cU8 b)))
 | _=>none
theorem B2{J:Env}{a b:Tm}(h:(u9 J (.le a b)).b=true):(u9 J a).i<=(u9 J b).i:=by
 change decide ((u9 J a).i<=(u9 J b).i)=true at h;simpa using h
theorem aL4{J:Env}{a b:Tm}(h:(u9 J (.lt a b)).b=true):(u9 J a).i<(u9 J b).i:=by
 change decide ((u9 J a).i<(u9 J b).i)=true at h;simpa using h
theorem cn8{J:Env}{N:Bn}{c:Cx}(hc:c.ok J){op:BinOp}{k l:IntKind}{a b:Tm}{m:List Tm}{r:C}(h:b34 c op k a b=some (m,r))(hm:Met J m)(P:Program)(t:TypeId)(w:World):
 (binOp op t (.int k (u9 J a).i) (.int l (u9 J b).i)).run P w= .ok (r.G2 J N) w:=by
 cases op<;>simp only[b34]at h<;>first
  | (cases h;done)
  | (injection h with h;injection h with h1 h2;subst h1 h2)
 .have h0:=B2 (z0 hc hm.l);have h1:=B2 (z0 hc hm.r);change(0:Int)<=_ at h0;change _<=bc3 k at h1;rw[b65]at h1;rw[binOp_shl,shift_shl k l _ _ h0 h1];exact aB9 (by rw[aV3 hc.bs,bS2,cI2])
 .have h0:=B2 (z0 hc hm.l);have h1:=B2 (z0 hc hm.r);change(0:Int)<=_ at h0;change _<=bc3 k at h1;rw[b65]at h1;rw[binOp_shr,shift_shr k l _ _ h0 h1];exact aB9 (by rw[cI5,cI2])
def bR8:TypeDesc->Bool
 | .struct _=>true
 | .array _ _=>true
 | _=>false
def at2(P:Program)(t:TypeId)(cs:List C)(off:Nat):Option V1:=
 match P.underlying t with
 | some d=>
   if bR8 d then(P.info? t).map fun i=> .agg ((cs.take (off+i.size)).drop off)
   else(cs[off]?).map .c
 | none=>none
theorem bo2{P:Program}{t:TypeId}{d:TypeDesc}(h:P.underlying t=some d)(w:World):(isAgg t).run P w= .ok (bR8 d) w:=by
 simp only[isAgg,am,run_underlying h,ai];cases d<;>rfl
theorem aR4(J:Env)(N:Bn)(l:List C)(n:Nat):A5 J N (l.take n)=(A5 J N l).take n:=by simp[A5,List.map_take]
theorem aO1(J:Env)(N:Bn)(l:List C)(n:Nat):A5 J N (l.drop n)=(A5 J N l).drop n:=by simp[A5,List.map_drop]
theorem al9(J:Env)(N:Bn)(l m:List C):A5 J N (l++m)=A5 J N l++A5 J N m:=by simp[A5]
theorem U5(J:Env)(N:Bn)(l:List C):(A5 J N l).length=l.length:=by simp[A5]
theorem b77(l:List Value)(a b:Nat):l.toArray.extract a b=((l.take b).drop a).toArray:=by
 apply Array.ext';simp[List.drop_take]
theorem aw8{J:Env}{N:Bn}{P:Program}{t:TypeId}{cs:List C}{off:Nat}{x:V1}(h:at2 P t cs off=some x)(w:World):(part t (A5 J N cs).toArray off).run P w= .ok (x.W7 J N) w:=by
 unfold at2 at h;split at h
 .rename_i d hu;have ha:=bo2 hu w;split at h
  .rename_i hr;rw[hr]at ha;cases hi:P.info? t with
   | none=>rw[hi]at h;cases h
   | some i=>
     rw[hi]at h;injection h with h;subst h;simp only[part,am,ha,ai,if_true,sizeOf,typeInfo,run_program,hi,aq];rw[b77];show _=Result.ok (Value.agg (A5 J N ((cs.take (off+i.size)).drop off)).toArray) w;rw[aO1,aR4]
  .rename_i hr;rw[show bR8 d=false from by simpa using hr]at ha;cases hc:cs[off]? with
   | none=>rw[hc]at h;cases h
   | some y=>
     rw[hc]at h;injection h with h;subst h;have hv:(A5 J N cs).toArray[off]? =some (y.G2 J N):=by simp[A5,hc]
     simp only[part,am,ha,ai,hv];rfl
 .cases h
def cW6(P:Program)(r:TypeId->V1->V1->Option Tm)(xs ys:List C):List Field->Option Tm
 | []=>some l6
 | f::fs=>
   if f.name≠ "_" then
    match at2 P f.type xs f.offset,at2 P f.type ys f.offset with
    | some a,some b=>
      match r f.type a b,cW6 P r xs ys fs with
      | some s,some t=>some (bu0 s t)
      | _,_=>none
    | _,_=>none
   else none
def eqS(P:Program)(c:Cx):Nat->TypeId->V1->V1->Option Tm
 | 0,_,_,_=>none
 | n+1,t,x,y=>
   match P.underlying t,x,y with
   | some (.int _), .c (.int k a), .c (.int l b)=>if Nat.beq (kNo k) (kNo l)then some (mkB c (.eq a b))else none
   | some .bool, .c (.bool a), .c (.bool b)=>some (mkB c (.bq a b))
   | some .string, .c (.str a), .c (.str b)=>some (bL3 c a b)
   | some (.struct F), .agg xs, .agg ys=>if P.stoodInHeld t then none else cW6 P (eqS P c n) xs ys F.toList
   | _,_,_=>none
theorem cJ8{J:Env}{N:Bn}{P:Program}{r:TypeId->V1->V1->Option Tm}{D:Nat}(hr:∀ t x y tm,r t x y=some tm->∀ w,(Op.equalIn D t (x.W7 J N) (y.W7 J N)).run P w= .ok (u9 J tm).b w)
 {xs ys:List C}:∀{fs:List Field} {tm:Tm},cW6 P r xs ys fs=some tm->∀ w,(Op.eqFields D (A5 J N xs).toArray (A5 J N ys).toArray fs).run P w= .ok (u9 J tm).b w
 | [],tm,h,w=>by
   injection h with h;subst h;rfl
 | f::fs,tm,h,w=>by
   simp only[cW6]at h;split at h
   .rename_i hn;split at h
    .rename_i a b ha hb;split at h
     .rename_i s t hs ht;injection h with h;subst h;have e1:=aw8 (J:=J) (N:=N) ha w;have e2:=aw8 (J:=J) (N:=N) hb w;have e3:=hr _ _ _ _ hs w;have e4:=cJ8 hr ht w;rw[b62];unfold Op.eqFields;rw[if_pos hn];simp only[am,e1,e2,e3,ai];cases(u9 J s).b
      .rfl
      .simpa using e4
     .cases h
    .cases h
   .cases h
theorem b79{J:Env}{N:Bn}{P:Program}{c:Cx}(hc:c.ok J):∀{n:Nat} {t:TypeId} {x y:V1} {tm:Tm},eqS P c n t x y=some tm->∀ D w,(Op.equalIn (n+D) t (x.W7 J N) (y.W7 J N)).run P w= .ok (u9 J tm).b w
 | 0,_,_,_,_,h,_,_=>by cases h
 | n+1,t,x,y,tm,h,D,w=>by
   rw[Nat.add_right_comm];simp only[eqS]at h;split at h
   .rename_i k0 k a l b hu;split at h
    .rename_i hk;have hk:=ac1 (af hk);injection h with h;subst h hk;show(Op.equalIn (n+D+1) t (.int k (u9 J a).i) (.int k (u9 J b).i)).run P w=_;rw[run_equalIn_int w _ t k _ _ _ hu,aK7 hc];rfl
    .cases h
   .rename_i a b hu;injection h with h;subst h;show(Op.equalIn (n+D+1) t (.bool (u9 J a).b) (.bool (u9 J b).b)).run P w=_;rw[run_equalIn_bool' w _ t _ _ hu,aK7 hc];rfl
   .rename_i a b hu;injection h with h;subst h;show(Op.equalIn (n+D+1) t (.string (u9 J a).s) (.string (u9 J b).s)).run P w=_;rw[run_equalIn_string w _ t _ _ hu,bA8 hc]
   .rename_i F xs ys hu;split at h
    .cases h
    .rename_i hs;have hF:P.fieldsOf t=F:=by simp[Program.fieldsOf,hu]
     show(Op.equalIn (n+D+1) t (.agg (A5 J N xs).toArray) (.agg (A5 J N ys).toArray)).run P w=_;rw[run_equalIn_struct w (n+D) t _ _ (by rw[hF];exact hu) (by simpa using hs),hF];exact cJ8 (D:=n+D) (fun t x y tm h w=>b79 hc h D w) h w
   .cases h
abbrev PR:=Option (List Tm × SV)
def sB(m:List Tm)(t:Tm):PR:=some (m, .one (.c (.bool t)))
def sI(m:List Tm)(k:IntKind)(t:Tm):PR:=some (m, .one (.c (.int k t)))
def sS(m:List Tm)(t:Tm):PR:=some (m, .one (.c (.str t)))
def eI2(op:BinOp)(t:Tm):PR:=
 match op with
 | .eql=>sB [] t
 | .neq=>sB [] (aW4 t)
 | _=>none
def eqV(P:Program)(c:Cx)(t:TypeId)(x y:V1):Option Tm:=
 match P.underlying t,x,y with
 | some (.pointer _), .c .nptr, .c .nptr=>some l6
 | some (.pointer _), .c .nptr, .c (.ptr _ _)=>some l4
 | some (.pointer _), .c (.ptr _ _), .c .nptr=>some l4
 | some (.pointer _), .c .nptr, .c (.ptv _)=>some l4
 | some (.pointer _), .c (.ptv _), .c .nptr=>some l4
 | some (.slice _), .c .nslc, .c .nslc=>some l6
 | some (.slice _), .c .nslc, .c (.slc _ _ _ _)=>some l4
 | some (.slice _), .c (.slc _ _ _ _), .c .nslc=>some l4
 | some (.map _ _), .c .nmap, .c .nmap=>some l6
 | some (.map _ _), .c .nmap, .c (.map _)=>some l4
 | some (.map _ _), .c (.map _), .c .nmap=>some l4
 | some .bool, .c (.bool a), .c (.bool b)=>some (mkB c (.bq a b))
 | some (.struct _), .agg xs, .agg ys=>if P.eqGuardType P.depth t then none else eqS P c 8 t (.agg xs) (.agg ys)
 | _,_,_=>none
def dH2(P:Program)(c:Cx)(op:BinOp)(t:TypeId)(x y:SV):PR:=
 match x,y with
 | .one (.c (.int k a)), .one (.c (.int l b))=>
   match b34 c op k a b with
   | some (m,r)=>some (m, .one (.c r))
   | none=>if Nat.beq (kNo k) (kNo l)then
      match cY7 c op k a b with
      | some (m,r)=>some (m, .one (.c r))
      | none=>none
     else none
 | .one (.c (.str a)), .one (.c (.str b))=>
   match op with
   | .add=>sS (F9 c (.le (U0 (Q6 c a) (Q6 c b)) qb2)) (aK3 a b)
   | .eql=>sB [] (bL3 c a b)
   | .neq=>sB [] (aW4 (bL3 c a b))
   | _=>none
 | .one a, .one b=>
   match eqV P c t a b with
   | some r=>eI2 op r
   | none=>none
 | _,_=>none
section
variable{P:Program}(w:World)(d:Nat)(t:TypeId)
theorem eH7{e:TypeId}(h:P.underlying t=some (.pointer e)):(Op.equalIn (d+1) t (.pointer none) (.pointer none)).run P w= .ok true w:=by simp[Op.equalIn,run_underlying h]
theorem cq4{e:TypeId}(h:P.underlying t=some (.pointer e))(a:Addr):(Op.equalIn (d+1) t (.pointer none) (.pointer (some a))).run P w= .ok false w:=by simp[Op.equalIn,run_underlying h]
theorem cq3{e:TypeId}(h:P.underlying t=some (.pointer e))(a:Addr):(Op.equalIn (d+1) t (.pointer (some a)) (.pointer none)).run P w= .ok false w:=by simp[Op.equalIn,run_underlying h]
theorem eH6{e:TypeId}(h:P.underlying t=some (.slice e))(a b c f:Nat):(Op.equalIn (d+1) t (.slice none a b) (.slice none c f)).run P w= .ok true w:=by simp[Op.equalIn,run_underlying h]
theorem eH5{e:TypeId}(h:P.underlying t=some (.slice e))(x:Addr)(a b c f:Nat):(Op.equalIn (d+1) t (.slice none a b) (.slice (some x) c f)).run P w= .ok false w:=by simp[Op.equalIn,run_underlying h]
theorem eH4{e:TypeId}(h:P.underlying t=some (.slice e))(x:Addr)(a b c f:Nat):(Op.equalIn (d+1) t (.slice (some x) a b) (.slice none c f)).run P w= .ok false w:=by simp[Op.equalIn,run_underlying h]
theorem eI0{k e:TypeId}(h:P.underlying t=some (.map k e)):(Op.equalIn (d+1) t (.map none) (.map none)).run P w= .ok true w:=by simp[Op.equalIn,run_underlying h]
theorem eH9{k e:TypeId}(h:P.underlying t=some (.map k e))(a:Nat):(Op.equalIn (d+1) t (.map none) (.map (some a))).run P w= .ok false w:=by simp[Op.equalIn,run_underlying h]
theorem eH8{k e:TypeId}(h:P.underlying t=some (.map k e))(a:Nat):(Op.equalIn (d+1) t (.map (some a)) (.map none)).run P w= .ok false w:=by simp[Op.equalIn,run_underlying h]
end
theorem eI1{J:Env}{N:Bn}{P:Program}{c:Cx}(hc:c.ok J){t:TypeId}{x y:V1}{r:Tm}(h:eqV P c t x y=some r)(w:World):
 (Op.equal t (x.W7 J N) (y.W7 J N)).run P w= .ok (u9 J r).b w/\(∀ op ox oy,(eqGuard op t ox oy (x.W7 J N) (y.W7 J N)).run P w= .ok () w)/\
 (binOp .eql t (x.W7 J N) (y.W7 J N)=do pure (.bool (<-Op.equal t (x.W7 J N) (y.W7 J N))))/\(binOp .neq t (x.W7 J N) (y.W7 J N)=do pure (.bool (!(<-Op.equal t (x.W7 J N) (y.W7 J N))))):=by
 have g:∀ v u:Value,(∀ op ox oy,eqGuard op t ox oy v u=pure ())->(∀ op ox oy,(eqGuard op t ox oy v u).run P w= .ok () w):=fun v u h op ox oy=>by rw[h];rfl
 unfold eqV at h;split at h
 .rename_i e hu;injection h with h;subst h;exact⟨eH7 w 9999 t hu,g _ _ fun op ox oy=>eqGuard_at_pointer ..,rfl,rfl⟩
 .rename_i e l o hu;injection h with h;subst h;exact⟨cq4 w 9999 t hu _,g _ _ fun op ox oy=>eqGuard_at_pointer ..,rfl,rfl⟩
 .rename_i e l o hu;injection h with h;subst h;exact⟨cq3 w 9999 t hu _,g _ _ fun op ox oy=>eqGuard_at_pointer ..,rfl,rfl⟩
 .rename_i e l hu;injection h with h;subst h;exact⟨cq4 w 9999 t hu _,g _ _ fun op ox oy=>eqGuard_at_pointer ..,rfl,rfl⟩
 .rename_i e l hu;injection h with h;subst h;exact⟨cq3 w 9999 t hu _,g _ _ fun op ox oy=>eqGuard_at_pointer ..,rfl,rfl⟩
 .rename_i e hu;injection h with h;subst h;exact⟨eH6 w 9999 t hu _ _ _ _,g _ _ fun op ox oy=>eqGuard_at_slice ..,rfl,rfl⟩
 .rename_i e l o a b hu;injection h with h;subst h;exact⟨eH5 w 9999 t hu _ _ _ _ _,g _ _ fun op ox oy=>eqGuard_at_slice ..,rfl,rfl⟩
 .rename_i e l o a b hu;injection h with h;subst h;exact⟨eH4 w 9999 t hu _ _ _ _ _,g _ _ fun op ox oy=>eqGuard_at_slice ..,rfl,rfl⟩
 .rename_i e f hu;injection h with h;subst h;exact⟨eI0 w 9999 t hu,g _ _ fun op ox oy=>eqGuard_at_map ..,rfl,rfl⟩
 .rename_i e f l hu;injection h with h;subst h;exact⟨eH9 w 9999 t hu _,g _ _ fun op ox oy=>eqGuard_at_map ..,rfl,rfl⟩
 .rename_i e f l hu;injection h with h;subst h;exact⟨eH8 w 9999 t hu _,g _ _ fun op ox oy=>eqGuard_at_map ..,rfl,rfl⟩
 .rename_i a b hu;injection h with h;subst h;refine⟨?_,g _ _ fun op ox oy=>eqGuard_at_bool ..,rfl,rfl⟩;show(Op.equalIn (9999+1) t (.bool (u9 J a).b) (.bool (u9 J b).b)).run P w=_;rw[run_equalIn_bool' w _ t _ _ hu,aK7 hc];rfl
 .rename_i F xs ys hu;split at h
  .cases h
  .rename_i hg;refine⟨b79 hc h 9992 w,fun op ox oy=>?_,rfl,rfl⟩;exact run_eqGuard_agg w op t ox oy _ _ (by simpa using hg)
 .cases h
theorem dq4{J:Env}{N:Bn}{P:Program}{c:Cx}(hc:c.ok J){op:BinOp}{t:TypeId}{x y:SV}{m:List Tm}{r:SV}(h:dH2 P c op t x y=some (m,r))(hm:Met J m)(ox oy:Operand)(w:World):
 (do eqGuard op t ox oy (x.A1 J N) (y.A1 J N);binOp op t (x.A1 J N) (y.A1 J N):Sem Value).run P w= .ok (r.A1 J N) w:=by
 unfold dH2 at h;split at h
 .rename_i k a l b;show(do eqGuard op t ox oy (.int k (u9 J a).i) (.int l (u9 J b).i);binOp op t (.int k (u9 J a).i) (.int l (u9 J b).i):Sem Value).run P w=_;rw[eqGuard_at_int];simp only[am,aq,ai];split at h
  .rename_i m' r' q;injection h with h;injection h with h1 h2;subst h1 h2;exact cn8 hc q hm P t w
  .split at h
   .rename_i hk;have hk:=ac1 (af hk);subst hk;split at h
    .rename_i m' r' q;injection h with h;injection h with h1 h2;subst h1 h2;exact dH8 hc q hm P t w
    .cases h
   .cases h
 .rename_i a b;show(do eqGuard op t ox oy (.string (u9 J a).s) (.string (u9 J b).s);binOp op t (.string (u9 J a).s) (.string (u9 J b).s):Sem Value).run P w=_;rw[eqGuard_at_string];simp only[am,aq,ai];split at h
  .injection h with h;injection h with h1 h2;subst h1 h2;have h0:=B2 (z0 hc hm);rw[X2,Q8 hc,Q8 hc]at h0;change _<=(9223372036854775807:Int)at h0;rw[binOp_string_add];simp only[Op.stringOp,IntKind.max_i64];rw[if_neg U];show _=Result.ok (Value.string _) w;rw[bB0];rfl
  .injection h with h;injection h with h1 h2;subst h1 h2;rw[binOp_string_eql];exact aS1 (bA8 hc a b)
  .injection h with h;injection h with h1 h2;subst h1 h2;rw[show binOp .neq t (.string (u9 J a).s) (.string (u9 J b).s)=Op.stringOp .neq (u9 J a).s (u9 J b).s from by simp[binOp]];exact aS1 (by rw[al7,bA8 hc])
  .cases h
 .rename_i a b _ _;split at h
  .rename_i q hq;have:=eI1 (J:=J) (N:=N) hc hq w;show(do eqGuard op t ox oy (a.W7 J N) (b.W7 J N);binOp op t (a.W7 J N) (b.W7 J N):Sem Value).run P w=_;simp only[am,this.2.1,ai];unfold eI2 at h;split at h
   .injection h with h;injection h with h1 h2;subst h1 h2;rw[this.2.2.1];simp only[am,this.1,ai];rfl
   .injection h with h;injection h with h1 h2;subst h1 h2;rw[this.2.2.2];simp only[am,this.1,ai];exact aS1 (al7 ..)
   .cases h
  .cases h
 .cases h
def unS(c:Cx)(op:UnOp)(x:SV):PR:=
 match op,x with
 | .not, .one (.c (.bool b))=>sB [] (aW4 b)
 | .neg, .one (.c (.int k n))=>sI [] k (ad5 c.bs k (aB0 i9 n))
 | .xor, .one (.c (.int k n))=>sI [] k (bA9 .xor k (.il (if k.signed then -1 else k.max)) n)
 | _,_=>none
theorem eF3{J:Env}{N:Bn}{P:Program}{c:Cx}(hc:c.ok J){op:UnOp}{x:SV}{m:List Tm}{r:SV}(h:unS c op x=some (m,r))(w:World):(Op.unary op (x.A1 J N)).run P w= .ok (r.A1 J N) w:=by
 unfold unS at h;split at h
 .injection h with h;injection h with h1 h2;subst h1 h2;exact aS1 (al7 ..)
 .injection h with h;injection h with h1 h2;subst h1 h2;exact aB9 (by rw[aV3 hc.bs,aA6];rfl)
 .injection h with h;injection h with h1 h2;subst h1 h2;exact aB9 (by rw[aw9];rfl)
 .cases h
def cX1(P:Program)(c:Cx)(src dst:TypeId)(x:SV):PR:=
 match x with
 | .one (.c (.int k n))=>
   match P.underlying src,P.underlying dst with
   | some _,some (.int l)=>sI [] l (ad5 c.bs l n)
   | _,_=>none
 | .one (.c (.str s))=>
   match P.underlying src,P.underlying dst with
   | some _,some .string=>sS [] s
   | _,_=>none
 | _=>none
theorem dG6{J:Env}{N:Bn}{P:Program}{c:Cx}(hc:c.ok J){src dst:TypeId}{x:SV}{m:List Tm}{r:SV}(h:cX1 P c src dst x=some (m,r))(w:World):(convert src dst (x.A1 J N)).run P w= .ok (r.A1 J N) w:=by
 unfold cX1 at h;split at h
 .rename_i k n;split at h
  .rename_i d l hs hd;injection h with h;injection h with h1 h2;subst h1 h2;show(convert src dst (.int k (u9 J n).i)).run P w=_;simp only[convert,am,run_underlying hs,run_underlying hd,ai,Conv.intToInt];exact aB9 (aV3 hc.bs ..)
  .cases h
 .rename_i s;split at h
  .rename_i d hs hd;injection h with h;injection h with h1 h2;subst h1 h2;show(convert src dst (.string (u9 J s).s)).run P w=_;simp only[convert,am,run_underlying hs,run_underlying hd,ai];rfl
  .cases h
 .cases h
def a17:Option SV->Option (Option (IntKind × Tm))
 | none=>some none
 | some (.one (.c (.int k t)))=>some (some (k,t))
 | _=>none
def dG5(c:Cx)(s:Tm)(lo hi:Option (IntKind × Tm)):PR:=
 let n:=Q6 c s
 match lo,hi with
 | none,none=>sS [] s
 | some (_,l),none=>sS (F9 c (.le i9 l)++F9 c (.le l n)) (aP8 c s l n)
 | none,some (_,h)=>sS (F9 c (.le i9 h)++F9 c (.le h n)) (aP8 c s i9 h)
 | some (_,l),some (_,h)=>sS (F9 c (.le i9 l)++(F9 c (.le l h)++F9 c (.le h n))) (aP8 c s l h)
def dB7(c:Cx)(l off:Nat)(len cap:Tm)(size:Nat)(lo hi:Option (IntKind × Tm)):PR:=
 let hiT:=match hi with|some (_,h)=>h|none=>len
 match lo with
 | none=>some (F9 c (.le i9 hiT)++F9 c (.le hiT cap), .one (.c (.slc l off hiT cap)))
 | some (_,lt)=>
   match aC4 lt with
   | some n=>
     if Y6 0 n&&X1 c (.lt (.il n) cap)then
      some (F9 c (.le (.il n) hiT)++F9 c (.le hiT cap), .one (.c (.slc l (off+n.toNat*size) (aB0 hiT (.il n)) (aB0 cap (.il n)))))
     else none
   | none=>none
def b32(P:Program)(c:Cx)(t:TypeId)(x:SV)(lo hi mx:Option SV):PR:=
 match mx,a17 lo,a17 hi with
 | none,some lo,some hi=>
   match P.underlying t,x with
   | some .string, .one (.c (.str s))=>dG5 c s lo hi
   | some (.slice e), .one (.c (.slc l off len cap))=>
     match P.info? e with
     | some i=>dB7 c l off len cap i.size lo hi
     | none=>none
   | _,_=>none
 | _,_,_=>none
theorem ah0{J:Env}{N:Bn}{o:Option SV}{r:Option (IntKind × Tm)}(h:a17 o=some r):o.map (SV.A1 J N)=r.map fun p=>Value.int p.1 (u9 J p.2).i:=by
 unfold a17 at h;split at h
 .injection h with h;subst h;rfl
 .injection h with h;subst h;rfl
 .cases h
theorem dp8{J:Env}{N:Bn}{P:Program}{c:Cx}(hc:c.ok J){t:TypeId}(ht:P.underlying t=some .string){s:Tm}{lo hi:Option (IntKind × Tm)}{m:List Tm}{r:SV}(h:dG5 c s lo hi=some (m,r))(hm:Met J m)(w:World):
 (Instr.sliceAt t (.string (u9 J s).s) (lo.map fun p=>Value.int p.1 (u9 J p.2).i) (hi.map fun p=>Value.int p.1 (u9 J p.2).i) none).run P w= .ok (r.A1 J N) w:=by
 rw[run_sliceAt_string w t _ _ _ _ ht];unfold dG5 at h;have hn:=Q8 hc s;have c0:(0:Int)=(u9 J i9).i:=rfl;rcases lo with _|⟨k,l⟩<;>rcases hi with _|⟨k',u⟩<;>simp only[]at h<;>injection h with h<;>injection h with h1 h2<;>subst h1 h2<;>simp only[Option.map_none,ba]
 .rw[run_slice_string_all w t _ ht];show _=Result.ok (Value.string (u9 J s).s) w;congr 2;apply ByteArray.ext;simp
 .have q1:=B2 (z0 hc hm.l);have q2:=B2 (z0 hc hm.r);rw[<-c0]at q1;rw[hn]at q2;rw[run_slice_string_h w t _ ht k' _ q1 q2];show _=Result.ok (Value.string _) w;rw[ag3 hc];rfl
 .have q1:=B2 (z0 hc hm.l);have q2:=B2 (z0 hc hm.r);rw[<-c0]at q1;rw[hn]at q2;rw[run_slice_string_l w t _ ht k _ q1 q2];show _=Result.ok (Value.string _) w;rw[ag3 hc,hn];rfl
 .have q1:=B2 (z0 hc hm.l);have q2:=B2 (z0 hc hm.r.l);have q3:=B2 (z0 hc hm.r.r);rw[<-c0]at q1;rw[hn]at q3;rw[run_slice_string w t _ k k' _ _ ht q1 q2 q3];show _=Result.ok (Value.string _) w;rw[ag3 hc]
theorem dm7{J:Env}{N:Bn}{P:Program}{c:Cx}(hc:c.ok J){t e:TypeId}(ht:P.underlying t=some (.slice e)){i:TypeInfo}(hi:P.info? e=some i){l off:Nat}{len cap:Tm}{lo hi':Option (IntKind × Tm)}{m:List Tm}{r:SV}
 (h:dB7 c l off len cap i.size lo hi'=some (m,r)) (hm:Met J m) (w:World):
 (Instr.sliceAt t (.slice (some ⟨N l,off,none⟩) (u9 J len).i.toNat (u9 J cap).i.toNat) (lo.map fun p=>Value.int p.1 (u9 J p.2).i) (hi'.map fun p=>Value.int p.1 (u9 J p.2).i) none).run P w= .ok (r.A1 J N) w:=by
 have he:P.elem t=e:=by simp[Program.elem,ht]
 have ht':P.underlying t=some (.slice (P.elem t)):=by rw[he];exact ht
 rw[run_sliceAt_slice w t _ _ _ _ ht',run_slice_any w t _ _ _ ht'];have hsz:(sizeOf (P.elem t)).run P w= .ok i.size w:=by rw[he];simp[sizeOf,typeInfo,hi]
 unfold dB7 at h;have hib:∀(k:IntKind) (n:Int) (y:Nat) (code:BoundsCode),0<=n->n<=y->(Instr.sliceBound (.int k n) y code).run P w= .ok n.toNat w:=fun k n y code h1 h2=>by
  simp[Instr.sliceBound,asIntOf,h1,h2]
 rcases lo with _|⟨k,lt⟩
 .simp only[]at h;injection h with h;injection h with h1 h2;subst h1 h2;have q1:=B2 (z0 hc hm.l);have q2:=B2 (z0 hc hm.r);change(0:Int)<=_ at q1;rcases hi' with _|⟨k',u⟩
  .simp only[Option.map_none,Instr.sliceBounds,am,aq,ai,hsz,sliced];show Result.ok (Value.slice _ _ _) w=Result.ok (Value.slice _ _ _) w;congr 2;simp[Addr.add]
  .simp only[]at q1 q2;have hb:=hib k' (u9 J u).i (u9 J cap).i.toNat .sliceAcap q1 U;simp only[Option.map_none,ba,Instr.sliceBounds,am,aq,ai,hsz,sliced];simp only[if_true,hb,ai,hsz,aq];show Result.ok (Value.slice _ _ _) w=Result.ok (Value.slice _ _ _) w;congr 2;simp[Addr.add]
 .simp only[]at h;split at h
  .rename_i n hl;have hl:=U8 hl;subst hl;split at h
   .rename_i q;simp only[m5]at q;have q0:0<=n:=by simpa[Y6]using q.1
    have qc:=aL4 (L0 hc q.2);change n<_ at qc;injection h with h;injection h with h1 h2;subst h1 h2;have q1:=B2 (z0 hc hm.l);have q2:=B2 (z0 hc hm.r);change n<=_ at q1;have hne:¬((u9 J cap).i.toNat=n.toNat):=by omega
    have fin:∀(u:Tm),n<=(u9 J u).i->Value.slice (if(u9 J cap).i.toNat=n.toNat then some (⟨N l,off,none⟩:Addr)else(some (⟨N l,off,none⟩:Addr)).map (·.add (n.toNat*i.size))) ((u9 J u).i.toNat - n.toNat) ((u9 J cap).i.toNat - n.toNat)=
     C.G2 J N (.slc l (off+n.toNat*i.size) (aB0 u (.il n)) (aB0 cap (.il n))):=fun u hu=>by
     rw[if_neg hne];simp only[ba,Addr.add_mid,C.G2];congr 1
     .rw[aA6];show _=((u9 J u).i - n).toNat;omega
     .rw[aA6];show _=((u9 J cap).i - n).toNat;omega
    rcases hi' with _|⟨k',u⟩
    .simp only[]at q1 q2;have hb:=hib k n (u9 J len).i.toNat .sliceB q0 U;show((Instr.sliceBounds true _ _ (some (.int k n)) none none).run P w).andThen _=_;simp only[Instr.sliceBounds,am,aq,ai,Option.isSome_none,ax,if_false,hb,hsz,sliced];exact congrArg (fun v=>Result.ok v w) (fin len q1)
    .simp only[]at q1 q2;have hb:=hib k' (u9 J u).i (u9 J cap).i.toNat .sliceAcap U U;have hb2:=hib k n (u9 J u).i.toNat .sliceB q0 U;show((Instr.sliceBounds true _ _ (some (.int k n)) (some (.int k' (u9 J u).i)) none).run P w).andThen _=_;simp only[Instr.sliceBounds,am,aq,ai,Option.isSome_none,ax,if_false,if_true,hb,hb2,hsz,sliced];exact congrArg (fun v=>Result.ok v w) (fin u q1)
   .cases h
  .cases h
theorem cn6{J:Env}{N:Bn}{P:Program}{c:Cx}(hc:c.ok J){t:TypeId}{x:SV}{lo hi mx:Option SV}{m:List Tm}{r:SV}(h:b32 P c t x lo hi mx=some (m,r))(hm:Met J m)(w:World):
 (Instr.sliceAt t (x.A1 J N) (lo.map (SV.A1 J N)) (hi.map (SV.A1 J N)) (mx.map (SV.A1 J N))).run P w= .ok (r.A1 J N) w:=by
 unfold b32 at h;split at h
 .rename_i lo' hi' h1 h2;rw[ah0 h1,ah0 h2];split at h
  .rename_i s ht;exact dp8 hc ht h hm w
  .rename_i e l off len cap ht;split at h
   .rename_i i hi;exact dm7 hc ht hi h hm w
   .cases h
  .cases h
 .cases h
def bS8(P:Program)(s:TypeId)(x:SV)(f:Nat):PR:=
 match P.underlying s,x with
 | some (.struct F), .one (.c (.ptr l off))=>
   match F[f]? with
   | some fd=>match P.info? fd.type with
     | some i=>if Nat.beq i.size 0 then none else some ([], .one (.c (.ptr l (off+fd.offset))))
     | none=>none
   | none=>none
 | _,_=>none
theorem cC9{J:Env}{N:Bn}{P:Program}{s:TypeId}{x:SV}{f:Nat}{m:List Tm}{r:SV}(h:bS8 P s x f=some (m,r))(w:World):(Instr.fieldAt s (x.A1 J N) f).run P w= .ok (r.A1 J N) w:=by
 unfold bS8 at h;split at h
 .rename_i F l off hu;split at h
  .rename_i fd hf;split at h
   .rename_i i hi;split at h
    .cases h
    .rename_i hz;injection h with h;injection h with h1 h2;subst h1 h2;have hz':i.size≠0:=fun e=>hz (by rw[e];rfl)
     show(Instr.fieldAt s (.pointer (some ⟨N l,off,none⟩)) f).run P w= .ok (.pointer (some ⟨N l,off+fd.offset,none⟩)) w;simp only[Instr.fieldAt,am,run_underlying hu,ai,hf,Instr.sureAddr,aq,fieldPlace,sizeOf,typeInfo,run_program,hi,hz',if_false,Addr.add_mid]
   .cases h
  .cases h
 .cases h
def b76(P:Program)(t:TypeId)(x:SV)(f:Nat):PR:=
 match P.underlying t,x with
 | some (.struct F), .one (.agg cs)=>
   match F[f]? with
   | some fd=>(at2 P fd.type cs fd.offset).map fun v=>([], .one v)
   | none=>none
 | _,_=>none
theorem cq2{J:Env}{N:Bn}{P:Program}{t:TypeId}{x:SV}{f:Nat}{m:List Tm}{r:SV}(h:b76 P t x f=some (m,r))(w:World):(Instr.field t (x.A1 J N) f).run P w= .ok (r.A1 J N) w:=by
 unfold b76 at h;split at h
 .rename_i F cs hu;split at h
  .rename_i fd hf;cases hp:at2 P fd.type cs fd.offset with
   | none=>rw[hp]at h;cases h
   | some v=>
     rw[hp]at h;injection h with h;injection h with h1 h2;subst h1 h2;show(Instr.field t (.agg (A5 J N cs).toArray) f).run P w=_;simp only[Instr.field,am,run_underlying hu,ai,hf,asAgg,aq];exact aw8 hp w
  .cases h
 .cases h
def bc8:SV->Option Int
 | .one (.c (.int _ t))=>aC4 t
 | _=>none
def bS6(P:Program)(c:Cx)(t:TypeId)(x ix:SV):PR:=
 match bc8 ix with
 | some n=>
   if Y6 0 n then
    match P.underlying t,x with
    | some (.array len e), .one (.c (.ptr l off))=>
      match P.info? e with
      | some i=>if Y6 (n+1) len then some ([], .one (.c (.ptr l (off+n.toNat*i.size))))else none
      | none=>none
    | some (.slice e), .one (.c (.slc l off len _))=>
      match P.info? e with
      | some i=>some (F9 c (.lt (.il n) len), .one (.c (.ptr l (off+n.toNat*i.size))))
      | none=>none
    | _,_=>none
   else none
 | none=>none
theorem bo9{J:Env}{N:Bn}{x:SV}{n:Int}(h:bc8 x=some n):∃ k,x.A1 J N= .int k n:=by
 unfold bc8 at h;split at h
 .rename_i k t;rw[U8 h];exact⟨k,rfl⟩
 .cases h
theorem cC8{J:Env}{N:Bn}{P:Program}{c:Cx}(hc:c.ok J){t:TypeId}{x ix:SV}{m:List Tm}{r:SV}(h:bS6 P c t x ix=some (m,r))(hm:Met J m)(w:World):
 (Instr.indexAt t (x.A1 J N) (ix.A1 J N)).run P w= .ok (r.A1 J N) w:=by
 unfold bS6 at h;split at h
 .rename_i n hn;obtain⟨k,hk⟩:=bo9 (J:=J) (N:=N) hn;rw[hk];split at h
  .rename_i h0;have h0:0<=n:=by simpa[Y6]using h0
   split at h
   .rename_i len e l off hu;split at h
    .rename_i i hi;split at h
     .rename_i hlt;have hlt:n<len:=by simp[Y6]at hlt;omega
      injection h with h;injection h with h1 h2;subst h1 h2;show(Instr.indexAt t (.pointer (some ⟨N l,off,none⟩)) (.int k n)).run P w=_;have hL:P.arrayLen t=len:=by simp[Program.arrayLen,hu]
      have hE:P.elem t=e:=by simp[Program.elem,hu]
      rw[run_indexAt_array w t _ k n (by rw[hL,hE];exact hu),hL,hE,if_pos ⟨h0,hlt⟩];simp only[sizeOf,typeInfo,am,run_program,ai,hi,aq,Addr.add_mid];rfl
     .cases h
    .cases h
   .rename_i e l off len cap hu;split at h
    .rename_i i hi;injection h with h;injection h with h1 h2;subst h1 h2;have hlt:=aL4 (z0 hc hm);change n<_ at hlt;show(Instr.indexAt t (.slice (some ⟨N l,off,none⟩) (u9 J len).i.toNat _) (.int k n)).run P w=_;have hE:P.elem t=e:=by simp[Program.elem,hu]
     rw[run_indexAt_slice w t _ _ _ k n (by rw[hE];exact hu),hE,if_pos ⟨h0,by omega⟩];simp only[sizeOf,typeInfo,am,run_program,ai,hi,aq,Addr.add_mid];rfl
    .cases h
   .cases h
  .cases h
 .cases h
def b70(P:Program)(c:Cx)(t:TypeId)(x ix:SV):PR:=
 match P.underlying t,x,ix with
 | some .string, .one (.c (.str s)), .one (.c (.int _ i))=>sI (F9 c (.le i9 i)++F9 c (.lt i (Q6 c s))) .u8 (ad6 c s i)
 | some (.array len e), .one (.agg cs),ix=>
   match bc8 ix,P.info? e with
   | some n,some i=>if Y6 0 n&&Y6 (n+1) len then(at2 P e cs (n.toNat*i.size)).map fun v=>([], .one v)else none
   | _,_=>none
 | _,_,_=>none
theorem cq0{J:Env}{N:Bn}{P:Program}{c:Cx}(hc:c.ok J){t:TypeId}{x ix:SV}{m:List Tm}{r:SV}(h:b70 P c t x ix=some (m,r))(hm:Met J m)(w:World):
 (Instr.index t (x.A1 J N) (ix.A1 J N)).run P w= .ok (r.A1 J N) w:=by
 unfold b70 at h;split at h
 .rename_i s k i hu;injection h with h;injection h with h1 h2;subst h1 h2;have q1:=B2 (z0 hc hm.l);have q2:=aL4 (z0 hc hm.r);change(0:Int)<=_ at q1;rw[Q8 hc]at q2;show(Instr.index t (.string (u9 J s).s) (.int k (u9 J i).i)).run P w=_;rw[run_index_string w t _ k _ hu,dif_pos ⟨q1,q2⟩];refine aB9 ?_;rw[bG9 hc];unfold Y4;have hlt:(u9 J i).i.toNat<(u9 J s).s.data.toList.length:=by simp;omega
  rw[List.getD,ar hlt];rfl
 .rename_i len e cs hu;split at h
  .rename_i n i hn hi;obtain⟨k,hk⟩:=bo9 (J:=J) (N:=N) hn;rw[hk];split at h
   .rename_i hb;simp[Y6]at hb;cases hp:at2 P e cs (n.toNat*i.size)with
    | none=>rw[hp]at h;cases h
    | some v=>
      rw[hp]at h;injection h with h;injection h with h1 h2;subst h1 h2;show(Instr.index t (.agg (A5 J N cs).toArray) (.int k n)).run P w=_;simp only[Instr.index,asIntOf,am,aq,ai,run_underlying hu];rw[if_pos ⟨hb.1,by omega⟩];simp only[sizeOf,typeInfo,am,run_program,ai,hi,aq];exact aw8 hp w
   .cases h
  .cases h
 .cases h
def bS9(x:SV)(n:Nat):PR:=
 match x with
 | .tup l=>(l[n]?).map fun v=>([], .one v)
 | _=>none
theorem cD0{J:Env}{N:Bn}{P:Program}{x:SV}{n:Nat}{m:List Tm}{r:SV}(h:bS9 x n=some (m,r))(w:World):(Instr.extract (x.A1 J N) n).run P w= .ok (r.A1 J N) w:=by
 unfold bS9 at h;split at h
 .rename_i l;cases hl:l[n]? with
  | none=>rw[hl]at h;cases h
  | some v=>
    rw[hl]at h;injection h with h;injection h with h1 h2;subst h1 h2;have:(l.map (V1.W7 J N)).toArray[n]? =some (v.W7 J N):=by simp[hl]
    simp only[SV.A1,Instr.extract,this];rfl
 .cases h
def V1.cs:V1->List C
 | .c x=>[x]
 | .agg l=>l
theorem V1.aV5{J:Env}(hJ:J.R8)(N:Bn)(x:V1):(x.W7 J N).cells=(A5 J N x.cs).toArray:=by
 cases x with
 | agg l=>rfl
 | c x=>
   have h:=x.one hJ N;show(x.G2 J N).cells=#[x.G2 J N];generalize x.G2 J N=v at h;cases v<;>first|rfl|cases h
def a16(cs:List C)(off:Nat)(vs:List C):List C:=cs.take off++(vs++cs.drop (off+vs.length))
def bC2(place:Nat->Option (Nat × Nat))(cs:List C):List (Nat × V1)->Option (List C)
 | []=>some cs
 | (i,v)::rest=>
   match place i with
   | none=>none
   | some (off,size)=>if Nat.beq v.cs.length size&&Nat.ble (off+v.cs.length) cs.length then bC2 place (a16 cs off v.cs) rest else none
theorem bp2:∀(vs:List Value) (cells:Array Value) (off k:Nat),off+k+vs.length<=cells.size->
 ((vs.zipIdx k).foldl (fun cs (p:Value × Nat)=>cs.setIfInBounds (off+p.2) p.1) cells)=(cells.toList.take (off+k)++(vs++cells.toList.drop (off+k+vs.length))).toArray
 | [],cells,off,k,h=>by simp
 | v::vs,cells,off,k,h=>by
   simp only[List.zipIdx_cons,List.foldl_cons,List.length_cons]at h ⊢;rw[bp2 vs (cells.setIfInBounds (off+k) v) off (k+1) bP];congr 1;have hlt:off+k<cells.toList.length:=by simp;omega
   rw[Array.toList_setIfInBounds,show off+(k+1)=off+k+1 from by omega,List.take_succ_eq_append_getElem (by simpa using hlt),List.take_set_of_le (aI _)];rw[List.getElem_set_self,List.append_assoc,List.singleton_append];congr 3;rw[List.drop_set_of_lt U];congr 1;omega
theorem bC1{J:Env}(hJ:J.R8){N:Bn}{place:Nat->Option (Nat × Nat)}:∀{l:List (Nat × V1)} {cs r:List C},bC2 place cs l=some r->
 Instr.fill place (A5 J N cs).toArray (l.map fun p=>(p.1,p.2.W7 J N))=some (A5 J N r).toArray
 | [],cs,r,h=>by injection h with h;subst h;rfl
 | (i,v)::rest,cs,r,h=>by
   simp only[bC2]at h;split at h
   .cases h
   .rename_i off size hp;split at h
    .rename_i q;simp only[m5]at q;have q1:=af q.1;have q2:=au q.2;have ih:=bC1 hJ (N:=N) h;simp only[aW,Instr.fill,hp,V1.aV5 hJ];rw[if_neg (by simp[U5];omega)];rw[<-ih];congr 1;rw[<-Array.foldl_toList,Array.toList_zipIdx];have:=bp2 (A5 J N v.cs) (A5 J N cs).toArray off 0 (by simp[U5];omega);simp only[Nat.add_zero]at this;rw[this];simp only[a16,al9,aR4,aO1,U5]
    .cases h
def bd5(P:Program)(t:TypeId)(parts:List (Nat × V1)):Option (List C):=
 match P.info? t,P.underlying t with
 | some it,some (.array _ e)=>
   match it.zero,P.info? e with
   | some z,some ie=>match bG7 z.cells.toList with
     | some zs=>bC2 (fun i=>some (i*ie.size,ie.size)) zs parts
     | none=>none
   | _,_=>none
 | some it,some (.struct fields)=>
   match it.zero,fields.toList.mapM (fun f=>(P.info? f.type).map fun i=>(f.offset,i.size))with
   | some z,some places=>match bG7 z.cells.toList with
     | some zs=>bC2 (places.toArray[·]?) zs parts
     | none=>none
   | _,_=>none
 | _,_=>none
theorem cr4{J:Env}(hJ:J.R8){N:Bn}{P:Program}{t:TypeId}{parts:List (Nat × V1)}{r:List C}(h:bd5 P t parts=some r):P.built t (parts.map fun p=>(p.1,p.2.W7 J N))=some (A5 J N r).toArray:=by
 unfold bd5 at h;unfold Program.built;split at h
 .rename_i it n e h1 h2;rw[h1,h2];dsimp only;split at h
  .rename_i z ie h3 h4;rw[h3,h4];dsimp only;split at h
   .rename_i zs h5;have h6:=al5 (J:=J) (N:=N) h5;have:=bC1 hJ (N:=N) h;rw[h6]at this;simpa using this
   .cases h
  .cases h
 .rename_i it F h1 h2;rw[h1,h2];dsimp only;split at h
  .rename_i z places h3 h4;rw[h3,h4];dsimp only;split at h
   .rename_i zs h5;have h6:=al5 (J:=J) (N:=N) h5;have:=bC1 hJ (N:=N) h;rw[h6]at this;simpa using this
   .cases h
  .cases h
 .cases h
end Sy
end Go.Proofs.YtnlcpcmdlcakgaaGreat
