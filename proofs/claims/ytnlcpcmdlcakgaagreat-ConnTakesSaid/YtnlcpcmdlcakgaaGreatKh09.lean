/- A part of the proof that a connection answers as the document says: SyMp SyMq SyMr. -/
import Derived.Test.YtnlcpcmdlcakgaaGreatKh08
set_option maxRecDepth 100000
set_option maxHeartbeats 4000000
set_option linter.unusedVariables false
set_option linter.unusedSimpArgs false
set_option linter.unusedSectionVars false
namespace Go.Proofs.YtnlcpcmdlcakgaaGreat
namespace Sy
open Go Go.RowKit
theorem ab3{a b:Int}:sqI a b=true↔a=b:=by
 cases a<;>cases b<;>simp[sqI]<;>omega
theorem bq0{s t:ByteArray}(h:s.data.toList=t.data.toList):s=t:=by
 apply ByteArray.ext;exact Array.ext' h
theorem cH6{k:Kd}{v u:Value}(hv:kOK k v)(hu:kOK k u):sqV v u=true↔v=u:=by
 cases k with
 | int k=>
   obtain⟨m,rfl,_⟩:=hv;obtain⟨n,rfl,_⟩:=hu;simp[sqV,ab3]
 | bool=>
   obtain⟨m,rfl⟩:=hv;obtain⟨n,rfl⟩:=hu;simp[sqV]
 | str=>
   obtain⟨m,rfl,_⟩:=hv;obtain⟨n,rfl,_⟩:=hu;simp only[sqV,beq_iff_eq,Value.string.injEq];exact⟨bq0,fun h=>by rw[h]⟩
 | ptr=>
   obtain⟨m,rfl⟩:=hv;obtain⟨n,rfl⟩:=hu;simp[sqV]
 | sls=>
   obtain⟨a,n,c,rfl⟩:=hv;obtain⟨b,m,d,rfl⟩:=hu;simp[sqV]
theorem a44:∀{lv:List Kd} {r q:List Value},S1 lv r->S1 lv q->(sqR r q=true↔r=q)
 | [],[],[],_,_=>by simp[sqR]
 | k::lv,v::r,u::q,hr,hq=>by
   simp only[sqR,m5,cH6 hr.1 hq.1,a44 hr.2 hq.2,List.cons.injEq]
 | [],_::_,_,h,_=>h.elim
 | [],[],_::_,_,h=>h.elim
 | _::_,[],_,h,_=>h.elim
 | _::_,_::_,[],_,h=>h.elim
def kC:Kd->Nat->C
 | .int q,n=> .int q (.iv n)
 | .bool,n=> .bool (.bv n)
 | .str,n=> .str (.sv n)
 | .ptr,n=> .ptv (.iv n)
 | .sls,n=> .vls (.cv n)
def kCs:List Kd->Nat->List C
 | [],_=>[]
 | k::l,n=>kC k n::kCs l (n+1)
def lE(e:Nat->Value):Env where
 i:=fun n=>match e n with
  | .int _ z=>z
  | .pointer (some a)=>(a.block:Int)
  | _=>0
 b:=fun n=>match e n with
  | .bool b=>b
  | _=>false
 s:=fun n=>match e n with
  | .string s=>s
  | _=>K4
 f:=fun _ x _ _=>x
 v:=fun _=> .bool false
 u:=fun _=> .bool false
 c:=fun n=>[[slV (e n)]]
theorem eG9{N:Bn}{k:Kd}{n:Nat}{e:Nat->Value}(h:kOK k (e n)):(kC k n).G2 (lE e) N=e n:=by
 cases k with
 | int q=>
   obtain⟨z,hz,_⟩:=h;show Value.int q ((lE e).i n)=_;simp only[lE,hz]
 | bool=>
   obtain⟨z,hz⟩:=h;show Value.bool ((lE e).b n)=_;simp only[lE,hz]
 | str=>
   obtain⟨z,hz,_⟩:=h;show Value.string ((lE e).s n)=_;simp only[lE,hz]
 | ptr=>
   obtain⟨z,hz⟩:=h;show Value.pointer (some ⟨((lE e).i n).toNat,0,none⟩)=_;simp only[lE,hz,aK]
 | sls=>
   obtain⟨a,m,c,hz⟩:=h;show slV (slV (e n))=_;rw[hz];rfl
theorem bL7{N:Bn}{e:Nat->Value}:∀{ks:List Kd} {r:List Value} {n:Nat},S1 ks r->(∀ j,j<ks.length->r[j]? =some (e (n+j)))->A5 (lE e) N (kCs ks n)=r
 | [],[],n,_,_=>rfl
 | k::ks,v::r,n,h,he=>by
   have h0:=he 0 (Nat.succ_pos _);injection h0 with h0;have h0:v=e n:=h0;subst h0;show(kC k n).G2 (lE e) N::A5 (lE e) N (kCs ks (n+1))=_;rw[eG9 h.1,bL7 (r:=r) h.2 fun j hj=>by
    have:=he (j+1) (Nat.succ_lt_succ hj);rw[List.getElem?_cons_succ]at this;rw[this,Nat.add_assoc n 1 j,Nat.add_comm 1 j]]
 | [],_::_,_,h,_=>h.elim
 | _::_,[],_,h,_=>h.elim
def ab8:Cx:=⟨[],[]⟩
theorem al6(J:Env):ab8.ok J:=⟨fun _ h=>bF,fun _ h=>bF⟩
def eqK:Kd->Nat->Nat->Option Tm
 | .int _,a,b=>some (mkB ab8 (.eq (.iv a) (.iv b)))
 | .bool,a,b=>some (mkB ab8 (.bq (.bv a) (.bv b)))
 | .str,a,b=>some (bL3 ab8 (.sv a) (.sv b))
 | .ptr,_,_=>none
 | .sls,_,_=>none
def bc1:List Kd->Nat->Option Tm
 | [],_=>some l6
 | k::l,n=>match eqK k n (100+n),bc1 l (n+1)with
   | some s,some t=>some (bu0 s t)
   | _,_=>none
theorem dp6{e:Nat->Value}{k:Kd}{a b:Nat}{t:Tm}(h:eqK k a b=some t)(ha:kOK k (e a))(hb:kOK k (e b)):(u9 (lE e) t).b=sqV (e a) (e b):=by
 cases k with
 | int q=>
   injection h with h;subst h;obtain⟨x,hx,_⟩:=ha;obtain⟨y,hy,_⟩:=hb;rw[aK7 (al6 _)];show((lE e).i a==(lE e).i b)=_;simp only[lE,hx,hy,sqV,Nat.beq_refl,Bool.true_and];by_cases q:x=y
   .rw[q,ab3.2 rfl];simp
   .rw[bc.2 (fun h=>q (ab3.1 h))];simp[q]
 | bool=>
   injection h with h;subst h;obtain⟨x,hx⟩:=ha;obtain⟨y,hy⟩:=hb;rw[aK7 (al6 _)];show((lE e).b a==(lE e).b b)=_;simp only[lE,hx,hy,sqV]
 | str=>
   injection h with h;subst h;obtain⟨x,hx,_⟩:=ha;obtain⟨y,hy,_⟩:=hb;rw[bA8 (al6 _)];show(((lE e).s a).toList==((lE e).s b).toList)=_;simp only[lE,hx,hy,sqV,ByteArray.toList_eq]
 | ptr=>cases h
 | sls=>cases h
theorem bc0{e:Nat->Value}:∀{ks:List Kd} {r q:List Value} {n:Nat} {t:Tm},bc1 ks n=some t->S1 ks r->S1 ks q->(∀ j,j<ks.length->r[j]? =some (e (n+j)))->(∀ j,j<ks.length->q[j]? =some (e (100+n+j)))->(u9 (lE e) t).b=sqR r q
 | [],[],[],n,t,h,_,_,_,_=>by
   injection h with h;subst h;rfl
 | k::ks,v::r,u::q,n,t,h,hr,hq,er,eq=>by
   simp only[bc1]at h;split at h
   .rename_i s t' h1 h2;injection h with h;subst h;have r0:=er 0 (Nat.succ_pos _);injection r0 with r0;have r0:v=e n:=r0;have q0:=eq 0 (Nat.succ_pos _);injection q0 with q0;have q0:u=e (100+n):=q0;subst r0 q0;rw[b62,dp6 h1 hr.1 hq.1,bc0 (r:=r) (q:=q) h2 hr.2 hq.2 (fun j hj=>by
     have:=er (j+1) (Nat.succ_lt_succ hj);rw[List.getElem?_cons_succ]at this;rw[this,Nat.add_assoc n 1 j,Nat.add_comm 1 j]) (fun j hj=>by
     have:=eq (j+1) (Nat.succ_lt_succ hj);rw[List.getElem?_cons_succ]at this;rw[this,show 100+n+(j+1)=100+(n+1)+j from by omega])]
    rfl
   .cases h
 | [],_::_,_,_,_,_,h,_,_,_=>h.elim
 | [],[],_::_,_,_,_,_,h,_,_=>h.elim
 | _::_,[],_,_,_,_,h,_,_,_=>h.elim
 | _::_,_::_,[],_,_,_,_,h,_,_=>h.elim
def b84(P:Program)(t:TypeId)(v:V1):Bool:=match P.underlying t,v with
 | some (.int _), .c (.int _ _)=>true
 | some .bool, .c (.bool _)=>true
 | some .string, .c (.str _)=>true
 | _,_=>false
def cX7(P:Program)(cs:List C):List Field->Bool
 | []=>true
 | f::fs=>(match at2 P f.type cs f.offset with
   | some v=>b84 P f.type v
   | none=>false)&&cX7 P cs fs
section
variable{P:Program}{J:Env}{N:Bn}
theorem cX6{t:TypeId}{v:V1}(h:b84 P t v=true)(em:Bool)(n:Nat)(w:World):(Instr.checkKey em (n+1) t (v.W7 J N)).run P w= .ok () w:=by
 unfold b84 at h;split at h
 .rename_i hu;unfold Instr.checkKey;simp only[am,run_underlying hu,ai,V1.W7,C.G2];rfl
 .rename_i hu;unfold Instr.checkKey;simp only[am,run_underlying hu,ai,V1.W7,C.G2];rfl
 .rename_i hu;unfold Instr.checkKey;simp only[am,run_underlying hu,ai,V1.W7,C.G2];rfl
 .cases h
theorem b85{cs:List C}(em:Bool)(n:Nat)(w:World):∀{fs:List Field},cX7 P cs fs=true->(forIn fs PUnit.unit fun(f:Field) (_:PUnit)=>(if f.name≠ "_" then(do
 let a <-part f.type (A5 J N cs).toArray f.offset
 Instr.checkKey em (n+1) f.type a
 pure (ForInStep.yield PUnit.unit))else pure (ForInStep.yield PUnit.unit):Sem (ForInStep PUnit))).run P w= .ok PUnit.unit w
 | [],_=>rfl
 | f::fs,h=>by
   simp only[cX7,m5]at h;obtain⟨h1,h2⟩:=h;split at h1
   .rename_i v hv;have e1:=aw8 (J:=J) (N:=N) hv w;have e2:=cX6 (J:=J) (N:=N) h1 em n w;have ih:=b85 em n w h2;rw[List.forIn_cons];simp only[am];by_cases hn:f.name≠ "_"
    .simp only[if_pos hn,am,e1,e2,ai,aq];exact ih
    .simp only[if_neg hn,am,ai,aq];exact ih
   .cases h1
end
def aK8(ag:Bool)(r:List Value):Value:=if ag then .agg r.toArray else r.headD (.bool false)
def aT4(P:Program)(kt:TypeId)(ks:List Kd)(ag:Bool):Bool:=match ag,ks with
 | false,[.int q]=>match P.underlying kt with
   | some (.int q')=>Nat.beq (kNo q) (kNo q')
   | _=>false
 | true,ks=>match P.underlying kt with
   | some (.struct F)=>cX7 P (kCs ks 0) F.toList&&(match eqS P ab8 3 kt (.agg (kCs ks 0)) (.agg (kCs ks 100)),bc1 ks 0 with
     | some a,some b=>E7 a b
     | _,_=>false)
   | _=>false
 | _,_=>false
section
variable{P:Program}{kt:TypeId}{ks:List Kd}{ag:Bool}
theorem bk3{ks:List Kd}{r:List Value}(h:S1 ks r)(j:Nat)(hj:j<ks.length):r[j]? =some (r.getD j (.bool false)):=by
 have hl:=aA7 h;rw[List.getD,ar U];rfl
theorem bH0(h:aT4 P kt ks ag=true){r:List Value}(hr:S1 ks r)(em:Bool)(w:World):(Instr.checkKey em 10000 kt (aK8 ag r)).run P w= .ok () w:=by
 unfold aT4 at h;split at h
 .rename_i q;split at h
  .rename_i q' hu;obtain⟨v,rfl⟩:∃ v,r=[v]:=by
    match r,hr with
    | [v],_=>exact⟨v,rfl⟩
   obtain⟨z,rfl,_⟩:=hr.1;show(Instr.checkKey em (9999+1) kt (.int q z)).run P w=_;unfold Instr.checkKey;simp only[am,run_underlying hu,ai];rfl
  .cases h
 .split at h
  .rename_i F hu;simp only[m5]at h;have hd:=bL7 (N:=fun _=>0) (e:=fun n=>r.getD n (.bool false)) (n:=0) hr (fun j hj=>by rw[Nat.zero_add];exact bk3 hr j hj);show(Instr.checkKey em (9998+1+1) kt (.agg r.toArray)).run P w=_;unfold Instr.checkKey;simp only[am,run_underlying hu,ai];rw[<-Array.forIn_toList];have:=b85 (P:=P) (J:=lE fun n=>r.getD n (.bool false)) (N:=fun _=>0) (cs:=kCs ks 0) em 9998 w h.1;rw[hd]at this;rw[this];rfl
  .cases h
 .cases h
theorem dA5{lv:List Kd}{r q:List Value}(hr:S1 lv r)(hq:S1 lv q):sqR r q=sqR q r:=by
 by_cases h:r=q
 .rw[h]
 .rw[bc.2 (fun e=>h ((a44 hr hq).1 e)),bc.2 (fun e=>h ((a44 hq hr).1 e).symm)]
theorem cp8{F:Array Field}(hu:P.underlying kt=some (.struct F))(h:aT4 P kt ks true=true){r q:List Value}(hr:S1 ks r)(hq:S1 ks q)(hl:ks.length<=100)(w:World):(Op.equal kt (.agg r.toArray) (.agg q.toArray)).run P w= .ok (sqR r q) w:=by
 unfold aT4 at h;simp only[hu,m5]at h;obtain⟨_,h⟩:=h;split at h
 .rename_i a b h1 h2;have hs:=H9 h;subst hs
  let e:Nat->Value:=fun n=>if n<100 then r.getD n (.bool false)else q.getD (n - 100) (.bool false)
  have er:∀ j,j<ks.length->r[j]? =some (e (0+j)):=fun j hj=>by
   show _=some (if 0+j<100 then _ else _);rw[Nat.zero_add,if_pos U];exact bk3 hr j hj
  have eq:∀ j,j<ks.length->q[j]? =some (e (100+j)):=fun j hj=>by
   show _=some (if 100+j<100 then _ else _);rw[if_neg U,Nat.add_sub_cancel_left];exact bk3 hq j hj
  have d1:=bL7 (N:=fun _=>0) hr er;have d2:=bL7 (N:=fun _=>0) (n:=100) hq eq;have:=b79 (J:=lE e) (N:=fun _=>0) (al6 _) h1 9997 w;rw[bc0 h2 hr hq er eq]at this;show(Op.equalIn (3+9997) kt _ _).run P w=_;change(Op.equalIn (3+9997) kt (.agg (A5 (lE e) (fun _=>0) (kCs ks 0)).toArray) (.agg (A5 (lE e) (fun _=>0) (kCs ks 100)).toArray)).run P w=_ at this;rw[d1,d2]at this;exact this
 .cases h
def bB9(n:Nat)(k:List Value)(l:List (List Value))(i:Nat):Option (Nat × Value):=(fM n k l).map fun j=>(i+j,(l.getD j []).getD n (.bool false))
theorem bp3(n:Nat)(k r:List Value)(l:List (List Value))(i:Nat):bB9 n k (r::l) i=if sqR (r.take n) k=true then some (i,r.getD n (.bool false))else bB9 n k l (i+1):=by
 unfold bB9;rw[fM];split
 .rfl
 .cases fM n k l with
  | none=>rfl
  | some j=>
    show some (i+(j+1),_)=some (i+1+j,_);rw[show i+(j+1)=i+1+j from by omega];rfl
theorem bB4{ks:List Kd}{v:Kd}:∀{r:List Value},S1 (ks++[v]) r->S1 ks (r.take ks.length)/\kOK v (r.getD ks.length (.bool false)):=by
 induction ks with
 | nil=>
   intro r h
   match r,h with
   | [x],h=>exact⟨trivial,h.1⟩
 | cons k ks ih=>
   intro r h
   match r,h with
   | x::r,h=>
     obtain⟨h1,h2⟩:=ih h.2;exact⟨⟨h.1,h1⟩,h2⟩
theorem bN9{F:Array Field}(hu:P.underlying kt=some (.struct F))(h:aT4 P kt ks true=true)(hl:ks.length<=100){v:Kd}{k:List Value}(hk:S1 ks k)(w:World):
 ∀(es:List MapEntry) (l:List (List Value)) (i:Nat),es.map (fun e=>(e.key,e.val))=l.map (aK4 true ks.length)->(∀ r∈l,S1 (ks++[v]) r)->(Instr.findAsking kt (.agg k.toArray) es i).run P w= .ok (bB9 ks.length k l i) w
 | [],[],i,_,_=>rfl
 | e::es,r::l,i,he,hr=>by
   simp only[aW,List.cons.injEq,Prod.mk.injEq,aK4,if_true]at he;obtain⟨⟨e1,e2⟩,he⟩:=he;obtain⟨k1,k2⟩:=bB4 (hr r (ae ..));rw[bp3];unfold Instr.findAsking;simp only[am];rw[e1,cp8 hu h hk k1 hl,dA5 hk k1];simp only[ai];by_cases q:sqR (r.take ks.length) k=true
   .rw[if_pos q,if_pos q,e2];rfl
   .rw[if_neg q,if_neg q];exact bN9 hu h hl hk w es l (i+1) he fun r hr'=>hr r (aj _ hr')
 | [],_::_,_,h,_=>by cases h
 | _::_,[],_,h,_=>by cases h
theorem b75{q q':IntKind}{v:Kd}{k:Int}:∀(es:List MapEntry) (l:List (List Value)) (i:Nat),es.map (fun e=>(e.key,e.val))=l.map (aK4 false 1)->(∀ r∈l,S1 ([.int q]++[v]) r)->Instr.findNow (.int q') (.int q k) es i=some (bB9 1 [.int q k] l i)
 | [],[],i,_,_=>rfl
 | e::es,r::l,i,he,hr=>by
   simp only[aW,List.cons.injEq,Prod.mk.injEq,aK4,ax,if_false]at he;obtain⟨⟨e1,e2⟩,he⟩:=he;have hr0:=hr r (ae ..)
   match r,hr0 with
   | [a,b],hr0=>
     obtain⟨z,rfl,_⟩:=hr0.1;have e1:e.key= .int q z:=e1;have e2:e.val=b:=e2;rw[bp3];unfold Instr.findNow;have ih:=b75 (q':=q') (k:=k) es l (i+1) he fun r hr'=>hr r (aj _ hr')
     simp only[Instr.sameNow,e1,e2,if_true];have hq:sqR (([.int q z,b]:List Value).take 1) [.int q k]=(k==z):=by
      show(Nat.beq (kN q) (kN q)&&sqI z k&&true)=_;rw[Nat.beq_refl,Bool.true_and,Bool.and_true];by_cases c:z=k
      .rw[c,ab3.2 rfl];simp
      .rw[bc.2 (fun h=>c (ab3.1 h))];have:¬k=z:=fun h=>c h.symm
       simp[this]
     rw[hq];by_cases c:(k==z)=true
     .rw[c];rfl
     .rw[bc.2 c];exact ih
 | [],_::_,_,h,_=>by cases h
 | _::_,[],_,h,_=>by cases h
theorem bS7(h:aT4 P kt ks ag=true)(hl:ks.length<=100){v:Kd}{k:List Value}(hk:S1 ks k)(w:World){es:List MapEntry}{l:List (List Value)}(he:es.map (fun e=>(e.key,e.val))=l.map (aK4 ag ks.length))(hr:∀ r∈l,S1 (ks++[v]) r):
 (Instr.findKey kt (aK8 ag k) es).run P w= .ok (bB9 ks.length k l 0) w:=by
 have h0:=h;unfold aT4 at h;split at h
 .rename_i q;split at h
  .rename_i q' hu
   match k,hk with
   | [a],hk=>
     obtain⟨z,rfl,_⟩:=hk.1;exact Go.MapKept.run_findKey hu (b75 es l 0 he hr)
  .cases h
 .split at h
  .rename_i F hu;show(Instr.findKey kt (.agg k.toArray) es).run P w=_;unfold Instr.findKey;simp only[am,run_underlying hu,ai]
   match es,l,he with
   | [],[],_=>rfl
   | e::es,r::l,he=>
     have:Instr.findNow (.struct F) (.agg k.toArray) (e::es) 0=none:=by
      unfold Instr.findNow;rfl
     rw[this];exact bN9 hu h0 hl hk w (e::es) (r::l) 0 he hr
   | [],_::_,h=>cases h
   | _::_,[],h=>cases h
  .cases h
 .cases h
theorem bE0{k:Kd}{v:Value}(h:kOK k v)(hp:k≠ .ptr/\k≠ .sls)(n:Nat):Instr.sameBits n v v=true:=by
 cases k with
 | int q=>obtain⟨z,rfl,_⟩:=h;unfold Instr.sameBits;simp
 | bool=>obtain⟨z,rfl⟩:=h;unfold Instr.sameBits;simp
 | str=>obtain⟨z,rfl,_⟩:=h;unfold Instr.sameBits;exact(Go.MapKept.bytes_beq _ _).2 rfl
 | ptr=>exact absurd rfl hp.1
 | sls=>exact absurd rfl hp.2
end
theorem bd0{n:Nat}{k:List Value}:∀{l:List (List Value)} {j:Nat},fM n k l=some j->j<l.length/\sqR ((l.getD j []).take n) k=true
 | [],j,h=>by cases h
 | r::l,j,h=>by
   rw[fM]at h;split at h
   .rename_i q;injection h with h;subst h;exact⟨Nat.succ_pos _,q⟩
   .obtain⟨i,hi,e⟩:=aw.1 h;subst e;obtain⟨h1,h2⟩:=bd0 hi;exact⟨Nat.succ_lt_succ h1,h2⟩
theorem cJ7{n:Nat}{k:List Value}:∀{l:List (List Value)},fM n k l=none->∀ r∈l,sqR (r.take n) k=false
 | [],_,r,hr=>by cases hr
 | x::l,h,r,hr=>by
   rw[fM]at h;split at h
   .cases h
   .rename_i q;rcases aa.1 hr with e|hr
    .rw[e];exact bc.2 q
    .exact cJ7 (Option.map_eq_none_iff.1 h) r hr
theorem bp1{α:Type}{l:List α}{i:Nat}{d:α}(h:i<l.length):l[i]? =some (l.getD i d):=by
 rw[List.getD,ar h];rfl
theorem cn5(v:Value):sqV v v=true:=by
 cases v with
 | int k n=>simp[sqV,ab3]
 | bool b=>simp[sqV]
 | string s=>simp[sqV]
 | pointer a=>cases a<;>simp[sqV]
 | slice a n c=>simp[sqV]
 | _=>rfl
theorem bo0:∀ r:List Value,sqR r r=true
 | []=>rfl
 | v::r=>by simp[sqR,cn5 v,bo0 r]
def ac0(hp:List Bk)(l:Nat):Option (Bk × List Kd × Bool × Kd × Tm):=
 match aD0 l hp with
 | some b=>match b.str,b.x with
   | none, .mp ks ag v t=>some (b,ks,ag,v,t)
   | _,_=>none
 | none=>none
theorem ab9{hp:List Bk}{l:Nat}{b:Bk}{ks:List Kd}{ag:Bool}{v:Kd}{t:Tm}(h:ac0 hp l=some (b,ks,ag,v,t)):b∈hp/\b.l=l/\b.str=none/\b.x= .mp ks ag v t:=by
 unfold ac0 at h;split at h
 .rename_i b' hf;split at h
  .rename_i hs hx;injection h with h;injection h with e1 h;injection h with e2 h;injection h with e3 h;injection h with e4 e5;subst e1 e2 e3 e4 e5;obtain⟨hm,hl⟩:=U4 hf;exact⟨hm,hl,hs,hx⟩
  .cases h
 .cases h
theorem BkOk.map{J:Env}{N:Bn}{w:World}{b:Bk}(h:BkOk J N w b){ks:List Kd}{ag:Bool}{v:Kd}{t:Tm}(hs:b.str=none)(hx:b.x= .mp ks ag v t):MapT w (N b.l) ks ag v (u9 J t).c:=by
 unfold BkOk at h;rw[hs]at h;simp only[hx]at h;exact h
def bc2(ag:Bool):SV->Option (List C)
 | .one (.agg l)=>if ag then some l else none
 | .one (.c x)=>if ag then none else some [x]
 | _=>none
theorem bH1{J:Env}{N:Bn}{ag:Bool}{x:SV}{cs:List C}(h:bc2 ag x=some cs):x.A1 J N=aK8 ag (A5 J N cs):=by
 unfold bc2 at h;split at h
 .split at h
  .rename_i q;injection h with h;subst h;rw[q];rfl
  .cases h
 .split at h
  .cases h
  .rename_i q;injection h with h;subst h;rw[bc.2 q];rfl
 .cases h
def bZ8(P:Program)(e:TypeId):Option C:=
 match P.info? e with
 | some i=>match i.zero with
   | some z=>ofC z
   | none=>none
 | none=>none
theorem c91{J:Env}{N:Bn}{P:Program}{e:TypeId}{x:C}(h:bZ8 P e=some x)(w:World):(zeroValue e).run P w= .ok (x.G2 J N) w:=by
 unfold bZ8 at h;split at h
 .rename_i i hi;split at h
  .rename_i z hz;rw[b56 (J:=J) (N:=N) h];simp only[zeroValue,typeInfo,am,run_program,ai,hi,hz,aq]
  .cases h
 .cases h
def cR5:Kd->Option C
 | .ptr=>some .nptr
 | k=>cR6 k
def bb8(P:Program)(t:TypeId)(ks:List Kd)(ag:Bool)(v:Kd):Bool:=
 match P.underlying t with
 | some (.map kt et)=>aT4 P kt ks ag&&(Nat.ble ks.length 100&&((!ks.any fun k=>ab4 k .ptr||ab4 k .sls)&&(match cR5 v,bZ8 P et with
   | some z,some y=>bL0 z y
   | _,_=>false)))
 | _=>false
theorem bS4{P:Program}{t:TypeId}{ks:List Kd}{ag:Bool}{v:Kd}(h:bb8 P t ks ag v=true):∃ kt et z,P.underlying t=some (.map kt et)/\aT4 P kt ks ag=true/\ks.length<=100/\(∀ k∈ks,k≠ .ptr/\k≠ .sls)/\cR5 v=some z/\bZ8 P et=some z:=by
 unfold bb8 at h;split at h
 .rename_i kt et hu;simp only[m5]at h;obtain⟨h1,h2,h4,h3⟩:=h;split at h3
  .rename_i z y hz hy;have:=a99 h3;subst this;refine⟨kt,et,z,hu,h1,au h2,?_,hz,hy⟩;intro k hk;constructor<;>intro e<;>subst e
   .have:(ks.any fun k=>ab4 k .ptr||ab4 k .sls)=true:=List.any_eq_true.2 ⟨_,hk,rfl⟩;rw[this]at h4;cases h4
   .have:(ks.any fun k=>ab4 k .ptr||ab4 k .sls)=true:=List.any_eq_true.2 ⟨_,hk,rfl⟩;rw[this]at h4;cases h4
  .cases h3
 .cases h
def an5(n:Nat)(t r:Tm):Tm:= .tb (.mix n) t r i9
theorem ap5{J:Env}{n:Nat}{t r:Tm}{k:List Value}(h:(u9 J r).c=[k]):(u9 J (an5 n t r)).i=mIx n k (u9 J t).c:=by
 show mIx n ((u9 J r).c.headD []) (u9 J t).c=_;rw[h];rfl
def b52(q:Tm):C->C->Option C
 | .int k x, .int l y=>if Nat.beq (kNo k) (kNo l)then some (.int k (aP7 q x y))else none
 | .bool x, .bool y=>some (.bool (aP7 q x y))
 | .str x, .str y=>some (.str (aP7 q x y))
 | _,_=>none
theorem cp0{J:Env}{N:Bn}{q:Tm}{x y r:C}(h:b52 q x y=some r):r.G2 J N=if(u9 J q).b then x.G2 J N else y.G2 J N:=by
 unfold b52 at h;split at h
 .split at h
  .rename_i k a l b e;have e:=ac1 (af e);injection h with h;subst h e;show Value.int k (u9 J (aP7 q a b)).i=_;rw[a48];cases(u9 J q).b<;>rfl
  .cases h
 .rename_i a b;injection h with h;subst h;show Value.bool (u9 J (aP7 q a b)).b=_;rw[cI4];cases(u9 J q).b<;>rfl
 .rename_i a b;injection h with h;subst h;show Value.string (u9 J (aP7 q a b)).s=_;rw[cI3];cases(u9 J q).b<;>rfl
 .cases h
def cU2(q:Tm)(x y:C):Option C:=
 match isB q with
 | some true=>some x
 | some false=>some y
 | none=>b52 q x y
theorem dC5{J:Env}{N:Bn}{q:Tm}{x y r:C}(h:cU2 q x y=some r):r.G2 J N=if(u9 J q).b then x.G2 J N else y.G2 J N:=by
 unfold cU2 at h;split at h
 .rename_i e;injection h with h;rw[bc5 e,<-h];rfl
 .rename_i e;injection h with h;rw[bc5 e,<-h];rfl
 .exact cp0 h
def cV6(P:Program)(c:Cx)(hp:List Bk)(t:TypeId)(x k:SV)(ck:Bool):PR:=
 match x with
 | .one (.c (.map l))=>match ac0 hp l with
   | some (_,ks,ag,v,tt)=>match bc2 ag k,cR5 v with
     | some cs,some z=>match ab5 c cs ks with
       | some (m,r)=>if bb8 P t ks ag v then
          (cU2 (mkB c (.le i9 (an5 ks.length tt r))) (bd4 c tt (an5 ks.length tt r) v ks.length) z).map fun val=>(m,if ck then .tup [.c val, .c (.bool (mkB c (.le i9 (an5 ks.length tt r))))]else .one (.c val))
         else none
       | none=>none
     | _,_=>none
   | none=>none
 | _=>none
theorem cS9{P:Program}{w:World}{t kt et:TypeId}{ks:List Kd}{ag ck:Bool}{v:Kd}{g:Nat}{L:List (List Value)}{k:List Value}{z:Value}(hu:P.underlying t=some (.map kt et))(h:aT4 P kt ks ag=true)(hl:ks.length<=100)(hM:MapT w g ks ag v L)(hk:S1 ks k)(hz:∀ w,(zeroValue et).run P w= .ok z w):
 (Instr.lookup t (.map (some g)) (aK8 ag k) ck).run P w= .ok (match fM ks.length k L with
   | some j=>if ck then .tuple #[(L.getD j []).getD ks.length (.bool false), .bool true]else(L.getD j []).getD ks.length (.bool false)
   | none=>if ck then .tuple #[z, .bool false]else z) w:=by
 obtain⟨es,clock,ho,he,hst⟩:=hM.obj;have hfind:=bS7 h hl hk w he hM.ok;simp only[Instr.lookup,am,run_underlying hu,ai,Go.MapKept.run_getObj_map ho,bH0 h hk,hfind,aq];unfold bB9;cases fM ks.length k L with
 | none=>
   simp only[Option.map_none,hz,am,ai,aq]
 | some j=>
   simp only[ba,am,ai,aq]
theorem dE2{J:Env}{N:Bn}{P:Program}{c:Cx}(hc:c.ok J){hp:List Bk}{w:World}(hb:∀ b∈hp,BkOk J N w b){t:TypeId}{x k:SV}{ck:Bool}{m:List Tm}{r:SV}
 (h:cV6 P c hp t x k ck=some (m,r)) (hm:Met J m):(Instr.lookup t (x.A1 J N) (k.A1 J N) ck).run P w= .ok (r.A1 J N) w:=by
 unfold cV6 at h;split at h
 .rename_i l;split at h
  .rename_i b ks ag v tt hf;obtain⟨hbm,hbl,hs,hx⟩:=ab9 hf;have hM:=(hb _ hbm).map hs hx;rw[hbl]at hM;split at h
   .rename_i cs z hks hz;split at h
    .rename_i m' rt hrow;split at h
     .rename_i q;obtain⟨kt,et,z',hu,hko,hl,_,hz',hz1⟩:=bS4 q;rw[hz]at hz';injection hz' with hz';subst hz';obtain⟨val,hval,e⟩:=aw.1 h;injection e with e1 e2;subst e1 e2;obtain⟨hr1,hr2⟩:=aw6 (N:=N) hc hrow hm;rw[bH1 hks];show(Instr.lookup t (.map (some (N l))) _ ck).run P w=_;rw[cS9 hu hko hl hM hr2 (fun w=>c91 (J:=J) (N:=N) hz1 w)];have hv:=dC5 (J:=J) (N:=N) hval;have hq:(u9 J (mkB c (.le i9 (an5 ks.length tt rt)))).b=decide ((0:Int)<=mIx ks.length (A5 J N cs) (u9 J tt).c):=by
       rw[aK7 hc];show decide ((0:Int)<=(u9 J (an5 ks.length tt rt)).i)=_;rw[ap5 hr1]
      rw[hq]at hv;unfold mIx at hv hq;cases hfm:fM ks.length (A5 J N cs) (u9 J tt).c with
      | none=>
        rw[hfm]at hv hq;rw[if_neg bM]at hv;congr 1;cases ck
        .exact hv.symm
        .show Value.tuple #[_,_]=Value.tuple #[val.G2 J N, .bool _];rw[hv,hq];rfl
      | some j=>
        rw[hfm]at hv hq;rw[if_pos bM]at hv;obtain⟨hj,_⟩:=bd0 hfm;have hrow2:=hM.ok _ (aW5 hj);have hcell:=(bB4 hrow2).2;have hix:(u9 J (an5 ks.length tt rt)).i.toNat=j:=by
         rw[ap5 hr1];unfold mIx;rw[hfm];exact aK j
        have hlen:=aA7 hrow2;rw[bT3 (v:=((u9 J tt).c.getD j []).getD ks.length (.bool false)) hc (by
         rw[hix];exact bp1 (by rw[hlen];simp)) hcell]at hv
        congr 1;cases ck
        .exact hv.symm
        .show Value.tuple #[_,_]=Value.tuple #[val.G2 J N, .bool _];rw[hv,hq];simp
     .cases h
    .cases h
   .cases h
  .cases h
 .cases h
def bk0(P:Program)(c:Cx)(hp:List Bk)(t:TypeId)(l:Nat):PR:=
 match ac0 hp l,P.underlying t with
 | some (_,ks,ag,v,tt),some (.map _ _)=>sI [] .i64 (aB4 c tt)
 | _,_=>none
theorem cV2{J:Env}{N:Bn}{P:Program}{c:Cx}(hc:c.ok J){hp:List Bk}{w:World}(hb:∀ b∈hp,BkOk J N w b){t ty:TypeId}{l:Nat}{m:List Tm}{r:SV}
 (h:bk0 P c hp t l=some (m,r)):(Builtin.len_ #[t] ty #[C.G2 J N (.map l)]).run P w= .ok (r.A1 J N) w:=by
 unfold bk0 at h;split at h
 .rename_i b ks ag v tt k e hf hu;obtain⟨hbm,hbl,hs,hx⟩:=ab9 hf;have hM:=(hb _ hbm).map hs hx;rw[hbl]at hM;injection h with h;injection h with h1 h2;subst h1 h2;obtain⟨es,clock,ho,he,_⟩:=hM.obj;have hlen:es.size=(u9 J tt).c.length:=by
   have:=congrArg List.length he;simpa using this
  show(Builtin.len_ #[t] ty #[.map (some (N l))]).run P w=_;simp only[Builtin.len_,bi,be,am,run_underlying hu,ai,aq,Go.MapKept.run_getObj_map ho];refine aB9 ?_;rw[aH1 hc,hlen]
 .cases h
def dD6(P:Program)(c:Cx)(hp:List Bk)(ev:Operand->Option SV):Op->PR
 | .lookup t x k ck=>match ev x,ev k with
   | some x,some k=>cV6 P c hp t x k ck
   | _,_=>none
 | .call k=>match k.callee,k.args.toList,k.argTypes.toList with
   | .builtin .len,[x],[t]=>match ev x with
     | some (.one (.c (.map l)))=>bk0 P c hp t l
     | _=>none
   | _,_,_=>none
 | _=>none
theorem do1{J:Env}{N:Bn}{P:Program}{c:Cx}(hc:c.ok J){hp:List Bk}{w:World}(hb:∀ b∈hp,BkOk J N w b){ev:Operand->Option SV}{a:Act}(hev:∀ x v,ev x=some v->a.eval x=v.A1 J N){o:Oper}{m:List Tm}{r:SV}
 (h:dD6 P c hp ev o.op=some (m,r)) (hm:Met J m):(execOp a.eval o).run P w= .ok (.value (r.A1 J N)) w:=by
 unfold execOp;unfold dD6 at h;split at h
 .rename_i t x k ck ho;rw[ho];split at h
  .rename_i x' k' hx hk;have:=dE2 (N:=N) hc hb h hm;simp only[hev _ _ hx,hev _ _ hk];exact aG0 this
  .cases h
 .rename_i k ho;rw[ho];split at h
  .rename_i x t hcal hargs hats;split at h
   .rename_i l hx;have e1:k=⟨.builtin .len,#[x],#[t]⟩:=by
     obtain⟨a,b,d⟩:=k;simp only at hcal hargs hats;subst hcal;congr 1
     .rw[<-hargs]
     .rw[<-hats]
    have:=cV2 (N:=N) (ty:=o.type) hc hb h;subst e1;simp only[resolve,invoke,builtin,am,aq,ai,List.map_toArray,aW,List.map_nil,hev _ _ hx];change(Builtin.len_ #[t] o.type #[SV.A1 J N (.one (.c (.map l)))]).run P w=_ at this;rw[this];rfl
   .cases h
  .cases h
 .cases h
def cV0(P:Program)(c:Cx)(hp:List Bk)(ev:Operand->Option SV)(o:Op):PR:=
 match dD7 P c hp ev o with
 | some r=>some r
 | none=>dD6 P c hp ev o
theorem cI7{J:Env}{N:Bn}{P:Program}{c:Cx}(hc:c.ok J){hp:List Bk}{w:World}(hb:∀ b∈hp,BkOk J N w b){ev:Operand->Option SV}{a:Act}(hev:∀ x v,ev x=some v->a.eval x=v.A1 J N){o:Oper}{m:List Tm}{r:SV}
 (h:cV0 P c hp ev o.op=some (m,r)) (hm:Met J m):(execOp a.eval o).run P w= .ok (.value (r.A1 J N)) w:=by
 unfold cV0 at h;split at h
 .rename_i r' hr;injection h with h;subst h;exact do2 hc hb hev hr hm
 .exact do1 hc hb hev h hm
theorem b42{ks:List Kd}(hp:∀ k∈ks,k≠ .ptr/\k≠ .sls){k:List Value}(hk:S1 ks k)(ag:Bool)(h1:ag=false->ks.length=1):Instr.sameBits 10000 (aK8 ag k) (aK8 ag k)=true:=by
 have all:∀(ks:List Kd) (k:List Value),(∀ q∈ks,q≠ .ptr/\q≠ .sls)->S1 ks k->∀ n,((k.zip k).all fun(x,y)=>Instr.sameBits n x y)=true:=by
  intro ks
  induction ks with
  | nil=>intro k _ h n;cases k with|nil=>rfl|cons _ _=>exact h.elim
  | cons q ks ih=>
    intro k hp h n;cases k with
    | nil=>exact h.elim
    | cons v k=>
      simp only[List.zip_cons_cons,List.all_cons,m5];exact⟨bE0 h.1 (hp q (ae ..)) n,ih k (fun q hq=>hp q (aj _ hq)) h.2 n⟩
 cases ag with
 | true=>
   show Instr.sameBits (9999+1) (.agg k.toArray) (.agg k.toArray)=true;unfold Instr.sameBits;rw[m5];exact⟨beq_self_eq_true _,all ks k hp hk 9999⟩
 | false=>
   match ks,k,h1 rfl,hk with
   | [q],[v],_,hk=>exact bE0 hk.1 (hp q (ae ..)) _
theorem ap7{P:Program}{kt:TypeId}{ks:List Kd}(h:aT4 P kt ks false=true):ks.length=1:=by
 match ks,h with
 | [],h=>cases h
 | [_],_=>rfl
 | _::_::_,h=>simp[aT4]at h
theorem bk5(ag:Bool)(n:Nat)(r:List Value)(hn:ag=false->0<n):(aK4 ag n r).1=aK8 ag (r.take n):=by
 unfold aK4 aK8;cases ag with
 | true=>rfl
 | false=>
   have:=hn rfl;cases r with
   | nil=>simp
   | cons v r=>
     cases n with
     | zero=>omega
     | succ n=>rfl
theorem dE6{ag:Bool}{ks:List Kd}(h1:ag=false->ks.length=1){r q:List Value}(hr:S1 ks r)(hq:S1 ks q)(h:aK8 ag r=aK8 ag q):r=q:=by
 cases ag with
 | true=>
   unfold aK8 at h;simp only[if_true,Value.agg.injEq]at h;have:=congrArg Array.toList h;simpa using this
 | false=>
   match ks,r,q,h1 rfl,hr,hq with
   | [_],[v],[u],_,_,_=>rw[show v=u from h]
theorem dE8{ks:List Kd}{v:Kd}:∀{k:List Value} {u:Value},S1 ks k->kOK v u->S1 (ks++[v]) (k++[u]):=by
 induction ks with
 | nil=>intro k u h hu;cases k with|nil=>exact⟨hu,trivial⟩|cons _ _=>exact h.elim
 | cons q ks ih=>intro k u h hu;cases k with|nil=>exact h.elim|cons x k=>exact⟨h.1,ih h.2 hu⟩
theorem MapT.ec3{P:Program}{kt:TypeId}{ks:List Kd}{ag:Bool}{v:Kd}{k:List Value}{es:List MapEntry}{L:List (List Value)}(h:aT4 P kt ks ag=true)(he:es.map (fun e=>(e.key,e.val))=L.map (aK4 ag ks.length))(hr:∀ r∈L,S1 (ks++[v]) r)(hk:S1 ks k){j:Nat}(hj:fM ks.length k L=some j):
 ∃ e,es[j]? =some e/\e.key=aK8 ag k:=by
 obtain⟨h1,h2⟩:=bd0 hj;have hlen:es.length=L.length:=by simpa using congrArg List.length he
 refine⟨es[j],ar U,?_⟩;have h3:=congrArg (fun l=>l[j]?) he;simp only[bn,ar (show j<es.length from by omega),ar h1,ba,Option.some.injEq]at h3;have h4:es[j].key=(aK4 ag ks.length L[j]).1:=congrArg Prod.fst h3;have hm:L[j]∈L:=List.getElem_mem h1;have hz:ag=false->0<ks.length:=fun e=>by subst e;rw[ap7 h];exact Nat.one_pos
 rw[bk5 _ _ _ hz]at h4;rw[h4];rw[show L.getD j []=L[j]from by rw[List.getD,ar h1];rfl]at h2;rw[(a44 (bB4 (hr _ hm)).1 hk).1 h2]
theorem MapT.ec2{P:Program}{kt:TypeId}{ks:List Kd}{ag:Bool}{v:Kd}{k:List Value}{es:List MapEntry}{L:List (List Value)}(h:aT4 P kt ks ag=true)(he:es.map (fun e=>(e.key,e.val))=L.map (aK4 ag ks.length))(hr:∀ r∈L,S1 (ks++[v]) r)(hk:S1 ks k)(hj:fM ks.length k L=none):
 ∀ x∈es,x.key≠aK8 ag k:=by
 intro x hx e;have hz:ag=false->0<ks.length:=fun e=>by subst e;rw[ap7 h];exact Nat.one_pos
 have:(x.key,x.val)∈L.map (aK4 ag ks.length):=he ▸ aZ.2 ⟨x,hx,rfl⟩;obtain⟨r,hr',e'⟩:=aZ.1 this;have e1:(aK4 ag ks.length r).1=x.key:=congrArg Prod.fst e';rw[bk5 _ _ _ hz,e]at e1;have hk':=(bB4 (hr r hr')).1;have e2:=dE6 (fun q=>by subst q;exact ap7 h) hk' hk e1;have:=cJ7 hj r hr';rw[e2,bo0]at this;cases this
theorem br2{P:Program}{w:World}{t kt et:TypeId}{ks:List Kd}{ag:Bool}{v:Kd}{g:Nat}{L:List (List Value)}{k:List Value}{u:Value}(hu:P.underlying t=some (.map kt et))(h:aT4 P kt ks ag=true)(hp:∀ q∈ks,q≠ .ptr/\q≠ .sls)(hl:ks.length<=100)(hM:MapT w g ks ag v L)(hk:S1 ks k)(hv:kOK v u):
 ∃ o,(Instr.mapUpdate t (.map (some g)) (aK8 ag k) u).run P w= .ok () { w with heap:=w.heap.setIfInBounds g o }/\MapT { w with heap:=w.heap.setIfInBounds g o } g ks ag v (ad0 ks.length (k++[u]) L):=by
 obtain⟨es,clock,ho,he,hst⟩:=hM.obj;have hfind:=bS7 h hl hk w he hM.ok;have hlt:g<w.heap.size:=(aP.1 ho).1;have hkl:=aA7 hk;have hrow:=dE8 hk hv;have htk:(k++[u]).take ks.length=k:=by rw[<-hkl];simp
 have hen:aK4 ag ks.length (k++[u])=(aK8 ag k,u):=by
  have hz:ag=false->0<ks.length:=fun e=>by subst e;rw[ap7 h];exact Nat.one_pos
  refine Prod.ext ?_ ?_
  .rw[bk5 _ _ _ hz,htk]
  .show(k++[u]).getD ks.length (.bool false)=u;rw[<-hkl];simp
 unfold ad0;rw[htk];simp only[Instr.mapUpdate,am,run_underlying hu,ai,Go.MapKept.run_getObj_map ho,bH0 h hk,hfind,aq];unfold bB9;cases hfm:fM ks.length k L with
 | none=>
   simp only[Option.map_none];refine⟨.map (es.push { key:=aK8 ag k,val:=u,born:=clock }) (clock+1),Go.MapKept.run_setObj_map _ ho,⟨es.push { key:=aK8 ag k,val:=u,born:=clock },clock+1,by simp[hlt],?_,Go.MapKept.stamped_push hst (MapT.ec2 h he hM.ok hk hfm)⟩,?_⟩
   .rw[Array.toList_push,bb,bb,he,aW,List.map_nil,aW,List.map_nil,hen]
   .intro r hr;rcases aC.1 hr with hr|hr
    .exact hM.ok r hr
    .rw[ah.1 hr];exact hrow
 | some j=>
   obtain⟨e,hej,hek⟩:=MapT.ec3 h he hM.ok hk hfm;have hej':es[j]? =some e:=by rw[<-Array.getElem?_toList];exact hej
   simp only[ba,Nat.zero_add,am,hej',Option.getD_some,hek];have hstay:(Instr.keyThatStays (aK8 ag k) (aK8 ag k)).run P w= .ok (aK8 ag k) w:=by
    simp only[Instr.keyThatStays,b42 hp hk ag (fun q=>by subst q;exact ap7 h),if_true,aq]
   simp only[hstay,ai];refine⟨.map (es.modify j fun e=> { e with key:=aK8 ag k,val:=u }) clock,Go.MapKept.run_setObj_map _ ho,⟨es.modify j fun e=> { e with key:=aK8 ag k,val:=u },clock,by simp[hlt],?_,Go.MapKept.stamped_modify hst j _ (fun _ _=>rfl) (fun e' _ h'=>?_)⟩,?_⟩
   .apply List.ext_getElem?;intro i;have hi:=congrArg (fun l=>l[i]?) he;simp only[bn]at hi;simp only[bn,Array.getElem?_toList,Array.getElem?_modify,List.getElem?_set];by_cases q:j=i
    .subst q;rw[Array.getElem?_toList]at hi;have hjl:=(bd0 hfm).1;simp only[if_true,hej',ba,if_pos hjl,hen]
    .rw[if_neg q,if_neg q];rw[Array.getElem?_toList]at hi;exact hi
   .rw[hej']at h';injection h' with h';subst h';exact hek.symm
   .intro r hr;rcases List.mem_or_eq_of_mem_set hr with hr|hr
    .exact hM.ok r hr
    .rw[hr];exact hrow
theorem cT0{P:Program}{w:World}{t kt et kty ty:TypeId}{ks:List Kd}{ag:Bool}{v:Kd}{g:Nat}{L:List (List Value)}{k:List Value}(hu:P.underlying t=some (.map kt et))(h:aT4 P kt ks ag=true)(hl:ks.length<=100)(hM:MapT w g ks ag v L)(hk:S1 ks k):
 ∃ o,(Builtin.delete_ #[t,kty] ty #[.map (some g),aK8 ag k]).run P w= .ok (.tuple #[]) { w with heap:=w.heap.setIfInBounds g o }/\MapT { w with heap:=w.heap.setIfInBounds g o } g ks ag v (cV3 ks.length k L):=by
 obtain⟨es,clock,ho,he,hst⟩:=hM.obj;have hfind:=bS7 h hl hk w he hM.ok;have hlt:g<w.heap.size:=(aP.1 ho).1;unfold cV3;simp only[Builtin.delete_,bi,be,List.getElem?_cons_succ,am,run_underlying hu,ai,Go.MapKept.run_getObj_map ho,bH0 h hk,hfind,aq];unfold bB9;cases hfm:fM ks.length k L with
 | none=>
   simp only[Option.map_none];refine⟨.map es clock,?_,⟨es,clock,by simp[hlt],he,hst⟩,hM.ok⟩;rw[am,Go.MapKept.run_setObj_map _ ho];rfl
 | some j=>
   simp only[ba,Nat.zero_add];refine⟨.map (es.eraseIdxIfInBounds j) clock,?_,⟨es.eraseIdxIfInBounds j,clock,by simp[hlt],?_,Go.MapKept.stamped_erase hst j⟩,fun r hr=>hM.ok r (List.mem_of_mem_eraseIdx hr)⟩
   .rw[am,Go.MapKept.run_setObj_map _ ho];rfl
   .have hlen:es.size=L.length:=by simpa using congrArg List.length he
    have:(es.eraseIdxIfInBounds j).toList=es.toList.eraseIdx j:=by
     unfold Array.eraseIdxIfInBounds;rw[dif_pos (by have:=(bd0 hfm).1;omega)];exact Array.toList_eraseIdx ..
    have em:∀{α γ:Type} (f:α->γ) (l:List α) (j:Nat),(l.eraseIdx j).map f=(l.map f).eraseIdx j:=by
     intro α γ f l
     induction l with
     | nil=>intro j;rfl
     | cons x l ih=>intro j;cases j with|zero=>rfl|succ j=>simp only[List.eraseIdx_cons_succ,aW,ih]
    rw[this,em,he,em]
theorem Only.cs0{S:Nat->Prop}{w0 w:World}{g:Nat}(o:Obj)(hg:S g\/w0.heap.size<=g)(h:Only S w0 w):Only S w0 { w with heap:=w.heap.setIfInBounds g o }:=
 ⟨h.os,h.tape,h.output,by simpa using h.size,fun i hi hs=>by
   have hne:g≠i:=fun e=>by
    subst e;rcases hg with hg|hg
    .exact hs hg
    .omega
   show(w.heap.setIfInBounds g o)[i]? =_;rw[Array.getElem?_setIfInBounds_ne hne];exact h.block i hi hs⟩
def b36(b:Bk)(ks:List Kd)(ag:Bool)(v:Kd)(t:Tm):Bk:= { b with x:= .mp ks ag v t }
theorem Md.eJ4{J:Env}{N:Bn}{S:Nat->Prop}{w0 w:World}{N0:Bn}{n0:Nat}{s:St}{a:Act}(hM:Md J S w0 N0 n0 s N a w){b:Bk}{ks:List Kd}{ag:Bool}{v:Kd}{t0 t:Tm}(hb:b∈s.hp)(hs:b.str=none)(hx:b.x= .mp ks ag v t0)(hrw:b.rw=true){o:Obj}
 (h:MapT { w with heap:=w.heap.setIfInBounds (N b.l) o } (N b.l) ks ag v (u9 J t).c):Md J S w0 N0 n0 { s with hp:=aV0 (Sy.b36 b ks ag v t) s.hp } N a { w with heap:=w.heap.setIfInBounds (N b.l) o }:=by
 have hr:b.G0 N:= .inl bI;have ho:Only S w0 { w with heap:=w.heap.setIfInBounds (N b.l) o }:=Sy.Only.cs0 o (hM.ar5 b hb hrw hr) hM.only;refine Sy.Md.bT7 hM (b:=b) (nb:=Sy.b36 b ks ag v t) hb rfl (fun _=>hr) (fun _=>hrw) ho ?_ (fun x hx hne=>Sy.Md.a58 hM hb hr (fun g hg=>?_) x hx hne) (fun h=>by
  unfold Bk.own at h;rw[m5]at h;exact Bool.noConfusion (show false=true from h.2))
 .unfold BkOk Sy.b36;simp only[hs];exact h
 .exact Array.getElem?_setIfInBounds_ne (Ne.symm hg)
def St.dI2(s:St)(n:Nat)(ks:List Kd)(ag:Bool)(v:Kd):St:= { s with hp:=ae5 ⟨n,0,[],true,none, .mp ks ag v tn⟩ s.hp,nx:=max s.nx (n+2) }
theorem Md.ec0{J:Env}{N:Bn}{S:Nat->Prop}{w0 w:World}{N0:Bn}{n0:Nat}{s:St}{a:Act}(hM:Md J S w0 N0 n0 s N a w)(n:Nat)(hn:n0<=n)(hf:s.T8 n=true)(ks:List Kd)(ag:Bool)(v:Kd):
 Md J S w0 N0 n0 (s.dI2 n ks ag v) (E8 N n w.heap.size) a (w.alloc (.map #[] 0)):=by
 unfold St.T8 at hf;simp only[m5,av,aN]at hf;have old:∀ b∈s.hp,E8 N n w.heap.size b.l=N b.l/\E8 N n w.heap.size (b.l+1)=N (b.l+1)/\A5 J (E8 N n w.heap.size) b.cs=A5 J N b.cs:=fun b hb=>
  ⟨B3 (T3 (hf.2 b hb).1),B3 (T3 (hf.2 b hb).2.2),aA2 J (hf.2 b hb).2.1⟩
 have oldr:∀ b∈s.hp,b.G0 (E8 N n w.heap.size)->b.G0 N:=fun b hb hr=>hr.imp id (fun h=>by rw[<-(old b hb).2.1];exact h)
 refine⟨?_,?_,?_,?_,hM.cx,hM.only.ca0 _,?_⟩
 .rw[hM.act];congr 2;apply aG;intro x hx;exact(SV.aY5 J (hf.1 x hx)).symm
 .intro b hb;rcases aI7 hb with rfl|hb
  .show MapT _ (E8 N n w.heap.size n) ks ag v [];rw[K7];exact⟨⟨#[],0,(Go.MapKept.heap_alloc w _).1,rfl,Go.MapKept.stamped_empty 0⟩,fun r hr=>by cases hr⟩
  .exact BkOk.at7 ((hM.hp b hb).cZ5 _) (old b hb).1 (fun _=>(old b hb).2.1) (old b hb).2.2
 .intro x hx y hy hne hrx hry;rcases aI7 hx with rfl|hx<;>rcases aI7 hy with rfl|hy
  .exact absurd rfl hne
  .intro g gx gy;have e:g=E8 N n w.heap.size n:=Q9 rfl gx;rw[K7]at e;have:=(hM.hp y hy).ax9 (oldr y hy hry) ((Z9 (old y hy).1 (old y hy).2.2 g).1 gy);omega
  .intro g gx gy;have e:g=E8 N n w.heap.size n:=Q9 rfl gy;rw[K7]at e;have:=(hM.hp x hx).ax9 (oldr x hx hrx) ((Z9 (old x hx).1 (old x hx).2.2 g).1 gx);omega
  .exact(hM.ne x hx y hy hne (oldr x hx hrx) (oldr y hy hry)).bM1 (old x hx).1 (old x hx).2.2 (old y hy).1 (old y hy).2.2
 .intro b hb hw hr g hg;rcases aI7 hb with rfl|hb
  .refine .inr ?_;have e:g=E8 N n w.heap.size n:=Q9 rfl hg;rw[e,K7];exact hM.only.size
  .exact hM.may b hb hw (oldr b hb hr) g ((Z9 (old b hb).1 (old b hb).2.2 g).1 hg)
 .intro l hl;rw[B3 U];exact hM.old l hl
def dE7(P:Program)(kt:TypeId):Option (List Kd × Bool):=
 match P.underlying kt with
 | some (.struct _)=>(bL6 P kt).map fun l=>(l,true)
 | _=>(bL6 P kt).map fun l=>(l,false)
def eT9(P:Program)(et:TypeId):Option Kd:=(bZ8 P et).bind kdC
def dD8(P:Program)(n0:Nat)(s:St)(o:Oper)(n:Nat):Option (List Tm × List Bk × Nat × SV):=
 match o.op with
 | .mapUpdate t x k u=>match opd s.tm x,opd s.tm k,opd s.tm u with
   | some (.one (.c (.map l))),some k,some (.one (.c u))=>match ac0 s.hp l with
     | some (b,ks,ag,v,tt)=>match bc2 ag k with
       | some cs=>if b.rw&&(bb8 P t ks ag v&&Nat.beq cs.length ks.length)then match ab5 s.cx (cs++[u]) (ks++[v])with
          | some (m,r)=>some (m,aV0 (b36 b ks ag v (.tb (.mput ks.length) tt r i9)) s.hp,s.nx,aE3)
          | none=>none
         else none
       | none=>none
     | none=>none
   | _,_,_=>none
 | .call c=>match c.callee,c.args.toList,c.argTypes.toList with
   | .builtin .delete,[x,k],[t,_]=>match opd s.tm x,opd s.tm k with
     | some (.one (.c (.map l))),some k=>match ac0 s.hp l with
       | some (b,ks,ag,v,tt)=>match bc2 ag k with
         | some cs=>if b.rw&&bb8 P t ks ag v then match ab5 s.cx cs ks with
            | some (m,r)=>some (m,aV0 (b36 b ks ag v (.tb (.mdel ks.length) tt r i9)) s.hp,s.nx,aE3)
            | none=>none
           else none
         | none=>none
       | none=>none
     | _,_=>none
   | _,_,_=>none
 | .makeMap t none=>match P.underlying t with
   | some (.map kt et)=>match dE7 P kt,eT9 P et with
     | some (ks,ag),some v=>if Nat.ble n0 n&&s.T8 n then some ([],(s.dI2 n ks ag v).hp,max s.nx (n+2), .one (.c (.map n)))else none
     | _,_=>none
   | _=>none
 | _=>none
theorem cV9{ks:List Kd}{v:Kd}:∀{k:List Value} {u:Value},k.length=ks.length->S1 (ks++[v]) (k++[u])->S1 ks k/\kOK v u:=by
 induction ks with
 | nil=>intro k u hl h;cases k with|nil=>exact⟨trivial,h.1⟩|cons _ _=>cases hl
 | cons q ks ih=>intro k u hl h;cases k with|nil=>cases hl|cons x k=>
   obtain⟨h1,h2⟩:=ih (by simpa using hl) h.2;exact⟨⟨h.1,h1⟩,h2⟩
theorem do4{J:Env}(hJ:J.R8){N:Bn}{P:Program}{S:Nat->Prop}{w0 w:World}{N0:Bn}{n0:Nat}{s s1:St}{a:Act}(hM:Md J S w0 N0 n0 s1 N a w)(ehp:s1.hp=s.hp)(etm:s1.tm=s.tm)(hc:s.cx.ok J){o:Oper}{n:Nat}{m:List Tm}{hp':List Bk}{nx':Nat}{v:SV}
 (h:dD8 P n0 s o n=some (m,hp',nx',v)) (hm:Met J m):∃ N' w' r,(execOp a.eval o).run P w= .ok r w'/\(r= .value (v.A1 J N')\/r= .skip/\v=aE3)/\Md J S w0 N0 n0 { s1 with hp:=hp',nx:=nx' } N' a w':=by
 have hev:∀ x v,opd s.tm x=some v->a.eval x=v.A1 J N:=fun x v hx=>Sy.Md.opd hM (by rw[etm];exact hx)
 unfold dD8 at h;split at h
 .rename_i t x k u ho;split at h
  .rename_i l k' u' hx hk hu;split at h
   .rename_i b ks ag vv tt hf;obtain⟨hbm,hbl,hs,hxx⟩:=ab9 hf;split at h
    .rename_i cs hks;split at h
     .rename_i q;simp only[m5]at q;split at h
      .rename_i m' r hrow;injection h with h;injection h with e1 h;injection h with e2 h;injection h with e3 e4;subst e1 e2 e3 e4;obtain⟨kt,et,z,hut,hko,hl,hp,_,_⟩:=bS4 q.2.1;obtain⟨hr1,hr2⟩:=aw6 (N:=N) hc hrow hm;rw[al9]at hr1 hr2;obtain⟨hk1,hu1⟩:=cV9 (by rw[U5];exact af q.2.2) hr2;have hbm1:b∈s1.hp:=by rw[ehp];exact hbm
       have hMT:=(hM.hp b hbm1).map hs hxx;obtain⟨ob,hrun,hMT'⟩:=br2 hut hko hp hl hMT hk1 hu1;refine⟨N,{ w with heap:=w.heap.setIfInBounds (N b.l) ob }, .skip,?_, .inr ⟨rfl,rfl⟩,?_⟩
       rotate_left
       .have e:=Sy.Md.eJ4 hM (t:= .tb (.mput ks.length) tt r i9) hbm1 hs hxx q.1 (by
         show MapT _ _ _ _ _ (ad0 ks.length ((u9 J r).c.headD []) (u9 J tt).c);rw[hr1];exact hMT')
        rw[ehp]at e;exact⟨e.act,e.hp,e.ne,e.may,e.cx,e.only,e.old⟩
       .unfold execOp;simp only[ho,hev _ _ hx,hev _ _ hk,hev _ _ hu,am,bH1 hks];change(Instr.mapUpdate t (.map (some (N b.l))) (aK8 ag (A5 J N cs)) (u'.G2 J N)).run P w=_ at hrun;rw[hbl]at hrun;rw[hbl];show((Instr.mapUpdate t (.map (some (N l))) (aK8 ag (A5 J N cs)) (u'.G2 J N)).run P w).andThen _=_;rw[hrun];rfl
      .cases h
     .cases h
    .cases h
   .cases h
  .cases h
 .rename_i c ho;split at h
  .rename_i x k t t2 hcal hargs hats;split at h
   .rename_i l k' hx hk;split at h
    .rename_i b ks ag vv tt hf;obtain⟨hbm,hbl,hs,hxx⟩:=ab9 hf;split at h
     .rename_i cs hks;split at h
      .rename_i q;simp only[m5]at q;split at h
       .rename_i m' r hrow;injection h with h;injection h with e1 h;injection h with e2 h;injection h with e3 e4;subst e1 e2 e3 e4;obtain⟨kt,et,z,hut,hko,hl,hp,_,_⟩:=bS4 q.2;obtain⟨hr1,hr2⟩:=aw6 (N:=N) hc hrow hm;have hbm1:b∈s1.hp:=by rw[ehp];exact hbm
        have hMT:=(hM.hp b hbm1).map hs hxx;obtain⟨ob,hrun,hMT'⟩:=cT0 (kty:=t2) (ty:=o.type) hut hko hl hMT hr2;refine⟨N,{ w with heap:=w.heap.setIfInBounds (N b.l) ob }, .value (.tuple #[]),?_, .inl rfl,?_⟩
        rotate_left
        .have e:=Sy.Md.eJ4 hM (t:= .tb (.mdel ks.length) tt r i9) hbm1 hs hxx q.1 (by
          show MapT _ _ _ _ _ (cV3 ks.length ((u9 J r).c.headD []) (u9 J tt).c);rw[hr1];exact hMT')
         rw[ehp]at e;exact⟨e.act,e.hp,e.ne,e.may,e.cx,e.only,e.old⟩
        .have e1:c=⟨.builtin .delete,#[x,k],#[t,t2]⟩:=by
          obtain⟨a,b,d⟩:=c;simp only at hcal hargs hats;subst hcal;congr 1
          .rw[<-hargs]
          .rw[<-hats]
         subst e1;unfold execOp;simp only[ho,resolve,invoke,builtin,am,aq,ai,List.map_toArray,aW,List.map_nil,hev _ _ hx,hev _ _ hk,bH1 hks];rw[hbl]at hrun;rw[hbl];show((Builtin.delete_ #[t,t2] o.type #[.map (some (N l)),aK8 ag (A5 J N cs)]).run P w).andThen _=_;rw[hrun];rfl
       .cases h
      .cases h
     .cases h
    .cases h
   .cases h
  .cases h
 .rename_i t ho;split at h
  .rename_i kt et hu;split at h
   .rename_i ks ag vv hkk hk1;split at h
    .rename_i q;simp only[m5]at q;injection h with h;injection h with e1 h;injection h with e2 h;injection h with e3 e4;subst e1 e2 e3 e4;have efr:s1.T8 n=s.T8 n:=by unfold St.T8;rw[ehp,etm]
     have e:=Sy.Md.ec0 hM n (au q.1) (by rw[efr];exact q.2) ks ag vv;refine⟨E8 N n w.heap.size,w.alloc (.map #[] 0), .value (.map (some w.heap.size)),?_, .inl ?_,?_⟩
     rotate_left 2
     .unfold St.dI2 at e ⊢;rw[ehp]at e;exact⟨e.act,e.hp,e.ne,e.may,e.cx,e.only,e.old⟩
     .unfold execOp;simp only[ho,Option.map_none,Instr.makeMap,am,aq,ai];rfl
     .show _=Next.value (.map (some (E8 N n w.heap.size n)));rw[K7]
    .cases h
   .cases h
  .cases h
 .cases h
def c99(P:Program)(n0:Nat)(s:St)(o:Oper)(n:Nat):Option (List Tm × List Bk × Nat × SV):=
 match c97 P n0 s o n with
 | some r=>some r
 | none=>dD8 P n0 s o n
theorem dm0{J:Env}(hJ:J.R8){N:Bn}{P:Program}{S:Nat->Prop}{w0 w:World}{N0:Bn}{n0:Nat}{s s1:St}{a:Act}(hM:Md J S w0 N0 n0 s1 N a w)(ehp:s1.hp=s.hp)(etm:s1.tm=s.tm)(hc:s.cx.ok J){o:Oper}{n:Nat}{m:List Tm}{hp':List Bk}{nx':Nat}{v:SV}
 (h:c99 P n0 s o n=some (m,hp',nx',v)) (hm:Met J m):∃ N' w' r,(execOp a.eval o).run P w= .ok r w'/\(r= .value (v.A1 J N')\/r= .skip/\v=aE3)/\Md J S w0 N0 n0 { s1 with hp:=hp',nx:=nx' } N' a w':=by
 unfold c99 at h;split at h
 .rename_i r' hr;injection h with h;subst h;exact dl8 hJ hM ehp etm hc hr hm
 .exact do4 hJ hM ehp etm hc h hm
end Sy
end Go.Proofs.YtnlcpcmdlcakgaaGreat
