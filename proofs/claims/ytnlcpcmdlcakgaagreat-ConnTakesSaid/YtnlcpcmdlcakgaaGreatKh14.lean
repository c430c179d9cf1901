/- A part of the proof that a connection answers as the document says: SyRg Iq2. -/
import Derived.Maps.RangeRun
import Derived.Test.YtnlcpcmdlcakgaaGreatKh13
set_option maxRecDepth 100000
set_option maxHeartbeats 4000000
set_option linter.unusedVariables false
set_option linter.unusedSimpArgs false
set_option linter.unusedSectionVars false
namespace Go.Proofs.YtnlcpcmdlcakgaaGreat
namespace Sy
open Go Go.RowKit
open Go.ChangeMaps (setBlock)
def bb2(P:Program)(sp:List Spec)(lim fuel n0:Nat):List Oper->St->Option St
 | [],s=>some s
 | o::l,s=>match o.guard,R6 P sp lim fuel n0 (.op o s.nx) s with
   | none, .ok [.out .normal s1]=>bb2 P sp lim fuel n0 l s1
   | _,_=>none
theorem b54{P:Program}{B:Bs}{sp:List Spec}(hJ:B.J.R8)(hsp:∀ q∈sp,q.Ok P B.J){lim fuel:Nat}{all:Array Oper}{ys:List Oper}{Q:Exit->Act->World->Prop}:∀{xs:List Oper} {s s1:St},bb2 P sp lim fuel B.n0 xs s=some s1->(∀ N a w,B.Md s1 N a w->wpList P all Q ys a w)->∀{N:Bn} {a:Act} {w:World},B.Md s N a w->wpList P all Q (xs++ys) a w
 | [],s,s1,h,hk,N,a,w,hM=>by
   injection h with h;subst h;exact hk N a w hM
 | o::l,s,s1,h,hk,N,a,w,hM=>by
   simp only[bb2]at h;split at h
   .rename_i s2 hg hr;refine wpList_plain hg fun K hK=>?_
    have:=ai8 hJ hsp lim fuel B.n0 (.op o s.nx) s _ hr B (fun e a w=>e= .normal->K a w) rfl rfl trivial (fun x hx=>by
     rw[ah.1 hx];intro N a w hM2 _;exact hK _ _ (b54 hJ hsp h hk hM2)) N a w hM
    exact bF6 (fun a w h=>h rfl) this
   .cases h
theorem dq1{P:Program}{J:Env}{S:Nat->Prop}{w0 w:World}{N0:Bn}{n0:Nat}{s:St}{N:Bn}{a:Act}(hM:Md J S w0 N0 n0 s N a w){c:Operand}{t:Tm}(hc:opd s.tm c=some (.one (.c (.bool t)))){x y:Code}{Q:Exit->Act->World->Prop}
 (h1:(u9 J t).b=true->x.wp P Q a w) (h2:(u9 J t).b=false->y.wp P Q a w):(Code.cond c x y).wp P Q a w:=by
 have:=Sy.Md.opd hM hc;exact wp_cond_split (t:=(u9 J t).b) this h1 h2
theorem co1{P:Program}{sp:List Spec}{S:Nat->Prop}{w0:World}{N0:Bn}{lim fuel n0:Nat}{c:Code}{s T:St}{r:Rs}(hr:r=R6 P sp lim fuel n0 (.code c) s){ys:List Sh}(hrun:shR n0 (some T) r=some ys){Q:Exit->Act->World->Prop}
 (I:Env->Prop) (hcx:∀ J,I J->T.cx.ok J) {J:Env} (hg:J.R8) (hsp:∀ q∈sp,q.Ok P J) (hd:aC6 (Sh.ax5 r ⟨J,S,w0,N0,n0⟩ Q fun l N=>∀ u,I { J.L5 N l with u:=u }) ys)
 (next:∀ J',I J'->∀ N a w,Md J' S w0 N0 n0 T N a w->Q .normal a w) {N:Bn} {a:Act} {w:World} (hM:Md J S w0 N0 n0 s N a w):c.wp P Q a w:=by
 obtain⟨l,hl,hok⟩:=a45 (B:=⟨J,S,w0,N0,n0⟩) (Q:=Q) (again:=fun l N=>∀ u,I { J.L5 N l with u:=u }) (by
  intro T' hT l s hm N a w hM h;injection hT with hT;subst hT;have h1:=h (J.L5 N l).u;rw[<-a43]at h1;exact next _ h1 _ _ _ (Sy.Md.bM3 hM hm (hcx _ h1))) hrun hd
 exact ai8 hg hsp lim fuel n0 (.code c) s l (hr.symm.trans hl) ⟨J,S,w0,N0,n0⟩ Q rfl rfl trivial hok N a w hM
theorem Md.at_{J:Env}{S:Nat->Prop}{w0 w:World}{N0:Bn}{n0:Nat}{s:St}{N:Bn}{a:Act}(hM:Md J S w0 N0 n0 s N a w)(n:Nat):Md J S w0 N n s N a w:=⟨hM.act,hM.hp,hM.ne,hM.may,hM.cx,hM.only,fun _ _=>rfl⟩
theorem Md.ec1{J:Env}{S:Nat->Prop}{w0 w:World}{N0 N1:Bn}{n0 n:Nat}{s:St}{N:Bn}{a:Act}(hM:Md J S w0 N1 n s N a w)(hn:n0<=n)(h:∀ l,l<n0->N1 l=N0 l):Md J S w0 N0 n0 s N a w:=⟨hM.act,hM.hp,hM.ne,hM.may,hM.cx,hM.only,fun l hl=>(hM.old l U).trans (h l hl)⟩
def ro(s:St):St:= { s with hp:=s.hp.map fun b=> { b with rw:=false } }
theorem Md.ro{J:Env}{S:Nat->Prop}{w0 w:World}{N0:Bn}{n0:Nat}{s:St}{N:Bn}{a:Act}(hM:Md J S w0 N0 n0 s N a w)(n:Nat):Md J (fun _=>False) w N n (Sy.ro s) N a w:=by
 refine⟨hM.act,fun b hb=>?_,fun x hx y hy hne hrx hry=>?_,fun b hb hw=>?_,hM.cx,Only.aF4 _ _,fun _ _=>rfl⟩
 .obtain⟨b',hb',rfl⟩:=aZ.1 hb;exact hM.hp b' hb'
 .obtain⟨x',hx',rfl⟩:=aZ.1 hx;obtain⟨y',hy',rfl⟩:=aZ.1 hy;exact hM.ne x' hx' y' hy' hne hrx hry
 .obtain⟨b',hb',rfl⟩:=aZ.1 hb;cases hw
theorem Md.eb9{J:Env}{S:Nat->Prop}{w0 w1 w:World}{N1:Bn}{n:Nat}{s:St}{N:Bn}{a:Act}(hM:Md J (fun _=>False) w1 N1 n (Sy.ro s) N a w)(ho:Only S w0 w1)(h:∀ b∈s.hp,b.rw=true->b.G0 N->∀ g,fp N b g->S g\/w0.heap.size<=g):Md J S w0 N1 n s N a w:=
 ⟨hM.act,fun b hb=>hM.hp { b with rw:=false } (aZ.2 ⟨b,hb,rfl⟩),fun x hx y hy hne hrx hry=>hM.ne { x with rw:=false } (aZ.2 ⟨x,hx,rfl⟩) { y with rw:=false } (aZ.2 ⟨y,hy,rfl⟩) hne hrx hry,h,hM.cx,ho.dS3 (hM.only.aj6 fun _ _ h=>h.elim),hM.old⟩
theorem bH3{α γ:Type}(f:α->γ):∀{l:List α},(l.map f).Nodup->∀{x y:α},x∈l->y∈l->f x=f y->x=y
 | [],_,x,_,hx,_,_=>by cases hx
 | z::l,h,x,y,hx,hy,e=>by
   rw[aW,List.nodup_cons]at h;rcases aa.1 hx with ex|hx'<;>rcases aa.1 hy with ey|hy'
   .rw[ex,ey]
   .exact absurd (aZ.2 ⟨y,hy',by rw[<-e,ex]⟩) h.1
   .exact absurd (aZ.2 ⟨x,hx',by rw[e,ey]⟩) h.1
   .exact bH3 f h.2 hx' hy' e
section
variable{P:Program}{J:Env}{S:Nat->Prop}{w0 w:World}{N0:Bn}{n0:Nat}{s:St}{N:Bn}{a:Act}
theorem Md.ax6(hM:Md J S w0 N0 n0 s N a w){d k:Nat}(hd:s.tm[d]? =some (.any k))(hno:an3 k (s.tm.set d aE3)=true)(v:Value):Md { J with u:=fun n=>if n=k then v else J.u n } S w0 N0 n0 s N (a.put (some d) v) w:=by
 have M1:=Sy.Md.put hM (some d) aE3;have M2:=Sy.Md.dI4 M1 k v hno;have M3:=Sy.Md.put M2 (some d) (.any k);have e1:((s.put (some d) aE3).put (some d) (.any k))=s:=by
  show({ s with tm:=(s.tm.set d aE3).set d (.any k) }:St)=s;have:(s.tm.set d aE3).set d (.any k)=s.tm:=by
   rw[List.set_set];apply List.ext_getElem?;intro i;rw[List.getElem?_set];split
   .rename_i q;subst q;split
    .exact hd.symm
    .rename_i q;rw[List.getElem?_eq_none U]at hd;cases hd
   .rfl
  rw[this]
 have e2:((a.put (some d) (aE3.A1 J N)).put (some d) ((SV.any k).A1 { J with u:=fun n=>if n=k then v else J.u n } N))=a.put (some d) v:=by
  show((a.put (some d) _).put (some d) (if k=k then v else J.u k))=_;rw[if_pos rfl];simp[Act.put]
 rw[e1,e2]at M3;exact M3
theorem Md.bC8(hM:Md J S w0 N0 n0 s N a w){d:Nat}{v:SV}(hd:s.tm[d]? =some v):a.eval (.tmp d)=v.A1 J N:=Sy.Md.opd hM (x:= .tmp d) hd
theorem Md.eU4(hM:Md J S w0 N0 n0 s N a w)(o:Obj):Md J S w0 N0 n0 s N a (w.alloc o):=
 ⟨hM.act,fun b hb=>(hM.hp b hb).cZ5 o,hM.ne,hM.may,hM.cx,hM.only.ca0 o,hM.old⟩
structure Itr(N:Bn)(w0 w:World)(s:St)(r m since:Nat)(es:Array MapEntry)(clock:Nat)(seen:Array Nat):Prop where
 it:∃ c0,w.heap[r]? =some (.mapIter (some m) since seen c0)/\since<=c0
 map:w.heap[m]? =some (.map es clock)
 sc:since<=clock
 old:∀ x∈es.toList,x.born<since
 nd:(es.toList.map (·.born)).Nodup
 new:w0.heap.size<=r
 ne:∀ b∈s.hp,b.G0 N->¬fp N b r
theorem dB8(hM:Md J S w0 N0 n0 s N a w){o:Oper}{t kt et:TypeId}{m d l L:Nat}(hg:o.guard=none)(ho:o.op= .range t (.tmp m))(hdst:o.dst=some d)(hu:P.underlying t=some (.map kt et))(hm:s.tm[m]? =some (.one (.c (.map l))))
 {b:Bk} {ks:List Kd} {ag:Bool} {v:Kd} {tt:Tm} (hf:ac0 s.hp l=some (b,ks,ag,v,tt)) (hn:n0<=L) (hf0:s.T8 L=true) (hf1:s.T8 (L+1)=true) (hlL:l≠L) (hlL1:l≠L+1) {all:Array Oper} {rest:List Oper} {Q:Exit->Act->World->Prop}
 (h:∀ es clock w' N',(∀ k,k≠L->k≠L+1->N' k=N k)->N' L=w.heap.size->es.toList.map (fun e=>(e.key,e.val))=(u9 J tt).c.map (aK4 ag ks.length)->Itr N' w0 w' s w.heap.size (N l) clock es clock #[]->Md J S w0 N0 n0 (s.put (some d) (.one (.c (.ptr L 0)))) N' (a.put (some d) (.pointer (some ⟨w.heap.size,0,none⟩))) w'->wpList P all Q rest (a.put (some d) (.pointer (some ⟨w.heap.size,0,none⟩))) w'):
 wpList P all Q (o::rest) a w:=by
 obtain⟨hbm,hbl,hs,hx⟩:=ab9 hf;have hMT:=(hM.hp b hbm).map hs hx;rw[hbl]at hMT;obtain⟨es,clock,hob,he,hst⟩:=hMT.obj;have hlt:N l<w.heap.size:=(aP.1 hob).1;have e1:(w.alloc (.mapIter (some (N l)) clock #[] clock)).heap[N l]? =some (.map es clock):=(Below.heap_alloc w _ _ hlt).trans hob;refine aA3 (v:= .pointer (some ⟨w.heap.size,0,none⟩)) (w':=w.alloc (.mapIter (some (N l)) clock #[] clock)) hg ?_ ?_
 .have hr:(Instr.range t (.map (some (N l)))).run P w= .ok (.pointer (some ⟨w.heap.size,0,none⟩)) (w.alloc (.mapIter (some (N l)) clock #[] clock)):=by
   simp[Instr.range,run_underlying hu,Go.MapKept.run_getObj_map hob,Result.andThen]
  have hv:a.eval (.tmp m)= .map (some (N l)):=Sy.Md.bC8 hM hm;unfold execOp;simp only[ho,hv,am,hr,ai,aq]
 .rw[hdst];have M1:=Sy.Md.ax7 (Sy.Md.eU4 hM (.mapIter (some (N l)) clock #[] clock)) L w.heap.size 0 hn hf0 hf1;have hL:E8 (E8 N L w.heap.size) (L+1) 0 L=w.heap.size:=(B3 U).trans (K7 ..);have M2:=Sy.Md.put M1 (some d) (.one (.c (.ptr L 0)));have e2:(SV.one (.c (.ptr L 0))).A1 J (E8 (E8 N L w.heap.size) (L+1) 0)= .pointer (some ⟨w.heap.size,0,none⟩):=by
   show Value.pointer (some ⟨E8 (E8 N L w.heap.size) (L+1) 0 L,0,none⟩)=_;rw[hL]
  rw[e2]at M2;refine h es clock _ _ (fun k h1 h2=>(B3 h2).trans (B3 h1)) hL he ⟨⟨clock,(Go.MapKept.heap_alloc w _).1,aI _⟩,e1,aI _,hst.1,hst.2.1,hM.only.size,fun b hb hr=>?_⟩ M2;have:=(M1.hp b hb);unfold St.T8 at hf0 hf1;simp only[m5,av,aN]at hf0 hf1;have q0:=hf0.2 b hb;have q1:=hf1.2 b hb;have e3:E8 (E8 N L w.heap.size) (L+1) 0 b.l=N b.l:=(B3 (T3 q1.1)).trans (B3 (T3 q0.1));have e4:E8 (E8 N L w.heap.size) (L+1) 0 (b.l+1)=N (b.l+1):=(B3 (T3 q1.2.2)).trans (B3 (T3 q0.2.2));have hr':b.G0 N:=hr.imp id fun h=>by rw[<-e4];exact h
  intro hg;have:=(hM.hp b hb).ax9 hr' ((Z9 e3 ((aA2 J q1.2.1).trans (aA2 J q0.2.1)) _).1 hg);omega
theorem bB3{es:Array MapEntry}{seen:Array Nat}{e:MapEntry}:e∈(leftOf es seen).toList↔e∈es.toList/\e.born∉seen.toList:=by
 unfold leftOf;simp
theorem cC7{es:Array MapEntry}{seen:Array Nat}{e:MapEntry}(he:e∈(leftOf es seen).toList):(leftOf es (seen.push e.born)).size<(leftOf es seen).size:=by
 have h:(leftOf es (seen.push e.born)).toList=(leftOf es seen).toList.filter (fun x=>decide (x.born≠e.born)):=by
  unfold leftOf;rw[Array.toList_filter,Array.toList_filter,List.filter_filter];apply List.filter_congr;intro x _;simp[Array.contains_push];by_cases q:x.born=e.born<;>simp[q]
 rw[<-Array.length_toList,<-Array.length_toList,h];have:∀ l:List MapEntry,e∈l->(l.filter (fun x=>decide (x.born≠e.born))).length<l.length:=by
  intro l
  induction l with
  | nil=>intro h;cases h
  | cons x l ih=>
    intro h;rw[List.filter_cons];split
    .rename_i q;rcases aa.1 h with rfl|h
     .simp at q
     .simpa using ih h
    .exact Nat.lt_succ_of_le (List.length_filter_le ..)
 exact this _ he
theorem dn6{T:St}{r m since:Nat}{es:Array MapEntry}{clock:Nat}{seen:Array Nat}(hM:Md J S w0 N0 n0 T N a w)(hI:Itr N w0 w T r m since es clock seen){o1 o2:Oper}{dit dn kn dx kx:Nat}(g1:o1.guard=none)(p1:o1.op= .next (.tmp dit) false)(t1:o1.dst=some dn)(g2:o2.guard=none)(p2:o2.op= .extract (.tmp dn) 0)(t2:o2.dst=some dx)
 (hv:a.eval (.tmp dit)= .pointer (some ⟨r,0,none⟩)) (hn:T.tm[dn]? =some (.any kn)) (hn':an3 kn (T.tm.set dn aE3)=true) (hx:T.tm[dx]? =some (.any kx)) (hx':an3 kx (T.tm.set dx aE3)=true) (hkn:kn≠kx) {all:Array Oper} {Q:Exit->Act->World->Prop}
 (none_:(∀ e∈es.toList,e.born∈seen.toList)->∀ a',Md { J with u:=fun n=>if n=kx then .bool false else if n=kn then .tuple #[.bool false]else J.u n } S w0 N0 n0 T N a' w->Q .normal a' w)
 (some_:∀ e∈es.toList,e.born∉seen.toList->∀ a' w',Md { J with u:=fun n=>if n=kx then .bool true else if n=kn then .tuple #[.bool true,e.key,e.val]else J.u n } S w0 N0 n0 T N a' w'->Itr N w0 w' T r m since es clock (seen.push e.born)->w'.heap[r]? =some (.mapIter (some m) since (seen.push e.born) clock)->Q .normal a' w'):
 wpList P all Q [o1,o2] a w:=by
 obtain⟨c0,hit0,hsc⟩:=hI.it;have second:∀(b:Bool) (vs:List Value) (w':World),Md J S w0 N0 n0 T N a w'->(∀ a',Md { J with u:=fun n=>if n=kx then .bool b else if n=kn then .tuple (.bool b::vs).toArray else J.u n } S w0 N0 n0 T N a' w'->Q .normal a' w')->wpList P all Q [o2] (a.put (some dn) (.tuple (.bool b::vs).toArray)) w':=by
  intro b vs w' hM' hk;have M1:=Sy.Md.ax6 hM' hn hn' (.tuple (.bool b::vs).toArray);have M2:=Sy.Md.ax6 M1 hx hx' (.bool b);refine aA3 (v:= .bool b) (w':=w') g2 ?_ ?_
  .have:=Sy.Md.bC8 M1 hn;have e:(SV.any kn).A1 { J with u:=fun n=>if n=kn then .tuple (.bool b::vs).toArray else J.u n } N= .tuple (.bool b::vs).toArray:=if_pos rfl;rw[e]at this;unfold execOp;simp only[p2,this,Instr.extract,am,bi,be,aq,ai]
  .rw[t2];exact wpList_nil (hk _ M2)
 rcases run_next_at (P:=P) w o1.type r m since c0 seen es clock hit0 hI.map hI.old hsc with⟨h0,hrun⟩|⟨e,he,w1,hw1,hrun⟩
 .refine aA3 (v:= .tuple #[.bool false]) (w':=w) g1 ?_ ?_
  .unfold execOp;simp only[p1,hv,am,hrun,ai,aq]
  .rw[t1];refine second false [] w hM (none_ fun e he=>?_);refine Classical.byContradiction fun hno=>?_
   have:e∈(leftOf es seen).toList:=bB3.2 ⟨he,hno⟩;rw[ay (show(leftOf es seen).toList.length=0 from h0)]at this;cases this
 .obtain⟨he1,he2⟩:=bB3.1 he;have hw1h:w1.heap=w.heap:=by rcases hw1 with rfl|rfl<;>rfl
  have hrlt:r<w.heap.size:=(aP.1 hit0).1;have M0:Md J S w0 N0 n0 T N a w1:=by
   rcases hw1 with rfl|rfl
   .exact hM
   .exact⟨hM.act,fun b hb=>(hM.hp b hb).dI8,hM.ne,hM.may,hM.cx,Only.bU0 hM.only,hM.old⟩
  have M1:Md J S w0 N0 n0 T N a (setBlock w1 r (.mapIter (some m) since (seen.push e.born) clock)):=by
   refine⟨M0.act,fun b hb=>(M0.hp b hb).bD0 fun hr g hg _=>?_,M0.ne,M0.may,M0.cx,?_,M0.old⟩
   .exact Array.getElem?_setIfInBounds_ne (Ne.symm fun e=>hI.ne b hb hr (by rw[<-e];exact hg))
   .exact Sy.Only.cs0 _ (.inr hI.new) M0.only
  have hh:(setBlock w1 r (.mapIter (some m) since (seen.push e.born) clock)).heap[r]? =some (.mapIter (some m) since (seen.push e.born) clock):=by
   show(w1.heap.setIfInBounds r _)[r]? =_;rw[hw1h];simp[hrlt]
  have hmr:m≠r:=fun q=>by
   have:=hI.map;rw[q,hit0]at this;cases this
  refine aA3 (v:= .tuple #[.bool true,e.key,e.val]) (w':=setBlock w1 r (.mapIter (some m) since (seen.push e.born) clock)) g1 ?_ ?_
  .unfold execOp;simp only[p1,hv,am,hrun,ai,aq]
  .rw[t1];refine second true [e.key,e.val] _ M1 fun a' M2=>some_ e he1 he2 a' _ M2 ⟨⟨clock,hh,?_⟩,?_,hI.sc,hI.old,hI.nd,hI.new,hI.ne⟩ hh
   .exact hI.sc
   .show(w1.heap.setIfInBounds r _)[m]? =_;rw[Array.getElem?_setIfInBounds_ne (Ne.symm hmr),hw1h];exact hI.map
theorem cq5{w:World}{r m since:Nat}{es:Array MapEntry}{clock:Nat}{seen:Array Nat}{e:MapEntry}(hr:w.heap[r]? =some (.mapIter (some m) since (seen.push e.born) clock))(hI:Itr N w0 w s r m since es clock (seen.push e.born))(he:e∈es.toList):(Instr.entry (.pointer (some ⟨r,0,none⟩))).run P w= .ok (.tuple #[e.key,e.val]) w:=
 run_entry_at w r m since seen es clock e hr hI.map he hI.nd
def slR(l:Nat):SV->SV
 | .one (.c (.slt k m off len an))=>if Nat.beq k l&&Nat.beq m 1 then .one (.c (.slr k off len an))else .one (.c (.slt k m off len an))
 | x=>x
theorem dm3{l:Nat}(x:SV):(slR l x).A1 J N=x.A1 J N:=by
 unfold slR;split
 .rename_i k m off len an;split
  .rename_i q;rw[m5]at q;have e:=af q.2;subst e;show ac9 _ _ _ _ _=aK5 _ _ 1 _ _ _;unfold ac9 aK5;simp only[Nat.mul_one]
  .rfl
 .rfl
def as9(l:List UInt8):List (List Value):=l.map fun x=>[.int .u8 (x.toNat:Int)]
theorem cT1(l:List UInt8):(as9 l).flatten=W4 l:=by
 induction l with
 | nil=>rfl
 | cons x l ih=>show Value.int .u8 _::(as9 l).flatten=_::W4 l;rw[ih]
def dR4(s:St)(b:Bk)(str:Tm):St:= { s with tm:=s.tm.map (slR b.l),hp:=aV0 { b with cs:=[],str:=some str,x:= .no } s.hp }
theorem Md.eU3(hM:Md J S w0 N0 n0 s N a w){b:Bk}{t str:Tm}(hb:b∈s.hp)(hs:b.str=none)(hx:b.x= .tab [.int .u8] t)(h:(u9 J t).c=as9 (u9 J str).s.data.toList):Md J S w0 N0 n0 (Sy.dR4 s b str) N a w:=by
 have hT:=hM.hp b hb;unfold BkOk at hT;rw[hs]at hT;simp only[hx]at hT;rw[h]at hT;have hl:(as9 (u9 J str).s.data.toList).length=(u9 J str).s.data.toList.length:=by simp[as9]
 have hnb:BkOk J N w { b with cs:=[],str:=some str,x:= .no }:=by
  show RowB w (N b.l) (N (b.l+1)) b.ty true (u9 J str).s.data.toList;refine⟨fun hc=>?_,by have:=hT.len;rw[hl]at this;exact this⟩;obtain⟨cur,h1,h2,h3,h4⟩:=hT.row hc;refine⟨cur,(0,0),h1, .inl rfl,by rw[h2];exact Nat.mul_one _,h3,?_⟩;rw[cT1,hl]at h4;rw[<-h4];show _=List.take (_*1) _;rw[Nat.mul_one]
 have M1:=Sy.Md.bT7 hM (b:=b) (nb:= { b with cs:=[],str:=some str,x:= .no }) hb rfl (fun hr=>by
  rcases hr with hr|hr
  .cases hr
  .exact .inr hr) (fun h=>h) hM.only hnb (fun x hx _=>hM.hp x hx)
 refine⟨?_,M1.hp,M1.ne,M1.may,M1.cx,M1.only,M1.old⟩;rw[hM.act];show _=(⟨((s.tm.map (slR b.l)).map (SV.A1 J N)).toArray,[]⟩:Act);rw[List.map_map];congr 2;exact aG fun x _=>(dm3 x).symm
theorem b19{P:Program}{B:Bs}{sp:List Spec}(hJ:B.J.R8)(hsp:∀ q∈sp,q.Ok P B.J){lim fuel:Nat}{c:Code}{fn:Func}{s:St}{ys:List Sm}(hrun:smR P fn B.n0 (R6 P sp lim fuel B.n0 (.code c) s)=some ys){R:Value->World->Prop}(hR:aC6 (Sm.bT6 B R) ys){N:Bn}{a:Act}{w:World}(hM:B.Md s N a w):c.wp P (bodyPost P fn (F7 R)) a w:=by
 unfold smR at hrun;split at hrun
 .rename_i l hl;exact ai8 hJ hsp lim fuel B.n0 (.code c) s l hl B _ rfl rfl trivial (bk6 (ba1 hrun hR)) N a w hM
 .cases hrun
end
end Sy
end Go.Proofs.YtnlcpcmdlcakgaaGreat
namespace Go.Proofs.YtnlcpcmdlcakgaaGreat
open Go.RowKit Sy
def eW5:List Value->Int
 | [_, .int _ b]=>b
 | _=>0
def V6:List (List Value)->Int->Option Int
 | [],_=>none
 | r::l,p=>if av7 r=p then some (eW5 r)else V6 l p
def aT9(k b:Int):List Value:=[.int .i64 k, .int .u8 b]
theorem ag9:∀{L:List (List Value)} (_:aB2 L) (p:Int),inM L p=none↔V6 L p=none
 | [],_,p=>⟨fun _=>rfl,fun _=>rfl⟩
 | r::l,hg,p=>by
   obtain⟨k,b,rfl,_,_⟩:=aV8 (hg r (ae ..));rw[a80];show _↔(if k=p then some b else V6 l p)=none;have ih:=ag9 (L:=l) (fun r hr=>hg r (aj _ hr)) p;split
   .simp
   .rw[<-ih];simp
theorem bE6(k b k0 b0:Int)(l:List (List Value)):ad0 1 (aT9 k b) (aT9 k0 b0::l)=if k0=k then aT9 k b::l else aT9 k0 b0::ad0 1 (aT9 k b) l:=by
 have h:fM 1 ((aT9 k b).take 1) (aT9 k0 b0::l)=if k0=k then some 0 else(fM 1 ((aT9 k b).take 1) l).map (· +1):=a80 k0 b0 k l
 unfold ad0;rw[h];by_cases q:k0=k
 .rw[if_pos q,if_pos q];rfl
 .rw[if_neg q,if_neg q];cases fM 1 ((aT9 k b).take 1) l<;>rfl
theorem bQ3{k b:Int}:∀{L:List (List Value)} (_:aB2 L) (p:Int),V6 (ad0 1 (aT9 k b) L) p=if k=p then some b else V6 L p
 | [],_,p=>rfl
 | r::l,hg,p=>by
   obtain⟨k0,b0,rfl,_,_⟩:=aV8 (hg r (ae ..));have ih:=bQ3 (k:=k) (b:=b) (L:=l) (fun r hr=>hg r (aj _ hr)) p;have e:=bE6 k b k0 b0 l;unfold aT9 at e ih ⊢;rw[e];by_cases q:k0=k
   .rw[if_pos q];show(if k=p then some b else V6 l p)=if k=p then some b else if k0=p then some b0 else V6 l p
    split
    .rfl
    .rename_i h;rw[if_neg U]
   .rw[if_neg q];show(if k0=p then some b0 else V6 (ad0 1 _ l) p)=if k=p then some b else if k0=p then some b0 else V6 l p
    rw[ih];split
    .rename_i h;rw[if_neg U]
    .rfl
theorem bz4{k b:Int}(hk:(Lit.int .i64 k).wf=true)(hb:(Lit.int .u8 b).wf=true):∀{L:List (List Value)} (_:aB2 L),aB2 (ad0 1 (aT9 k b) L)
 | [],_,r,hr=>by
   rw[ah.1 (show r∈[aT9 k b]from hr)];exact⟨⟨k,rfl,hk⟩,⟨b,rfl,hb⟩,trivial⟩
 | r0::l,hg,r,hr=>by
   obtain⟨k0,b0,rfl,_,_⟩:=aV8 (hg r0 (ae ..));have e:=bE6 k b k0 b0 l;unfold aT9 at e hr;rw[e]at hr;have hl:aB2 l:=fun r hr=>hg r (aj _ hr)
   split at hr
   .rcases aa.1 hr with rfl|hr
    .exact⟨⟨k,rfl,hk⟩,⟨b,rfl,hb⟩,trivial⟩
    .exact hl r hr
   .rcases aa.1 hr with rfl|hr
    .exact hg _ (ae ..)
    .exact bz4 hk hb hl r hr
theorem cF4{k b K:Int}:∀{L:List (List Value)} (_:aB2 L),Q7 L<=K->k+1<=K->Q7 (ad0 1 (aT9 k b) L)<=K
 | [],_,h,hk=>by
   show max (k+1) 0<=K;have:Q7 []<=K:=h;have:(0:Int)<=K:=this;omega
 | r0::l,hg,h,hk=>by
   obtain⟨k0,b0,rfl,_,_⟩:=aV8 (hg r0 (ae ..));have h:max (k0+1) (Q7 l)<=K:=h;have e:=bE6 k b k0 b0 l;unfold aT9 at e ⊢;rw[e];have ih:=cF4 (k:=k) (b:=b) (K:=K) (L:=l) (fun r hr=>hg r (aj _ hr)) U hk;unfold aT9 at ih;split
   .show max (k+1) (Q7 l)<=K;omega
   .show max (k0+1) (Q7 (ad0 1 _ l))<=K;omega
theorem bE8{p:Int}(hp:0<=p):∀{L:List (List Value)},(∀ r∈L,av7 r<p)->Q7 L<=p
 | [],_=>hp
 | r::l,h=>by
   have h1:=h r (ae ..);have h2:=bE8 hp (L:=l) fun r hr=>h r (aj _ hr)
   unfold Q7;omega
theorem ch9{p:Int}:∀{L:List (List Value)},Q7 L<=p->∀ r∈L,av7 r<p
 | [],_,r,hr=>by cases hr
 | r0::l,h,r,hr=>by
   unfold Q7 at h;rcases aa.1 hr with rfl|hr
   .omega
   .exact ch9 (L:=l) U r hr
theorem a90(s:ByteArray)(i:Int):0<=Sy.Y4 s i/\Sy.Y4 s i<=255:=by
 unfold Sy.Y4;have:=(s.data.toList.getD i.toNat 0).toNat_lt;omega
theorem ds7{k:Int}(h1: -9223372036854775808<=k)(h2:k<=9223372036854775807):(Lit.int .i64 k).wf=true:=by
 simp[Lit.wf,IntKind.min,IntKind.max,IntKind.bits,IntKind.signed];omega
theorem cK9{k:Int}(h1:0<=k)(h2:k<=255):(Lit.int .u8 k).wf=true:=by
 simp[Lit.wf,IntKind.min,IntKind.max,IntKind.bits,IntKind.signed];omega
structure PA where
 at_:Int
 nx:Int
 ed:Int
 fin:Int
 body:ByteArray
def as1(A:PA)(L:List (List Value))(i:Nat):List (List Value):=
 if inM L (A.at_+i)=none/\A.nx<=A.at_+i/\A.at_+i<A.ed/\(A.fin=0\/A.at_+i<A.fin)then ad0 1 (aT9 (A.at_+i) (Sy.Y4 A.body i)) L else L
def aJ1(A:PA)(L:List (List Value)):Nat->List (List Value)
 | 0=>L
 | n+1=>as1 A (aJ1 A L n) n
structure PA.ok(A:PA)(K:Int):Prop where
 a0: -1152921504606846976<=A.at_
 ab:A.at_+(A.body.size:Int)<=K
 K0:0<=K
 K1:K<=2305843009213693952
theorem bF1{A:PA}{K:Int}(hA:A.ok K){L:List (List Value)}(hg:aB2 L)(hk:Q7 L<=K):∀{n:Nat},n<=A.body.size->aB2 (aJ1 A L n)/\Q7 (aJ1 A L n)<=K
 | 0,_=>⟨hg,hk⟩
 | n+1,hn=>by
   obtain⟨h1,h2⟩:=bF1 hA hg hk (n:=n) U;have:=hA.a0;have:=hA.ab;have:=hA.K1;have:=a90 A.body (n:Int);show aB2 (as1 A (aJ1 A L n) n)/\Q7 (as1 A (aJ1 A L n) n)<=K;unfold as1;split
   .exact⟨bz4 (ds7 U U) (cK9 this.1 this.2) h1,cF4 h1 h2 U⟩
   .exact⟨h1,h2⟩
theorem bF0{A:PA}{K:Int}(hA:A.ok K){L:List (List Value)}(hg:aB2 L)(hk:Q7 L<=K)(p:Int):∀{n:Nat},n<=A.body.size->
 V6 (aJ1 A L n) p=if V6 L p=none/\A.nx<=p/\p<A.ed/\(A.fin=0\/p<A.fin)/\A.at_<=p/\p<A.at_+n then some (Sy.Y4 A.body (p - A.at_))else V6 L p
 | 0,_=>by
   rw[if_neg U];rfl
 | n+1,hn=>by
   obtain⟨h1,h2⟩:=bF1 hA hg hk (n:=n) U;have ih:=bF0 hA hg hk p (n:=n) U;show V6 (as1 A (aJ1 A L n) n) p=_;have hin:=(ag9 h1 (A.at_+n));have ihn:=bF0 hA hg hk (A.at_+n) (n:=n) U;rw[if_neg U]at ihn;unfold as1;by_cases hp:p=A.at_+n
   .subst hp;by_cases q:V6 L (A.at_+↑n)=none/\A.nx<=A.at_+↑n/\A.at_+↑n<A.ed/\(A.fin=0\/A.at_+↑n<A.fin)
    .rw[if_pos ⟨hin.2 (ihn.trans q.1),q.2⟩,bQ3 h1,if_pos rfl,if_pos ⟨q.1,q.2.1,q.2.2.1,q.2.2.2,by omega,by omega⟩];congr 2;omega
    .rw[if_neg (fun h=>q ⟨ihn.symm.trans (hin.1 h.1),h.2⟩),ihn,if_neg (fun h=>q ⟨h.1,h.2.1,h.2.2.1,h.2.2.2.1⟩)]
   .have e:(if V6 L p=none/\A.nx<=p/\p<A.ed/\(A.fin=0\/p<A.fin)/\A.at_<=p/\p<A.at_+((n+1:Nat):Int)then some (Sy.Y4 A.body (p - A.at_))else V6 L p)=(if V6 L p=none/\A.nx<=p/\p<A.ed/\(A.fin=0\/p<A.fin)/\A.at_<=p/\p<A.at_+(n:Int)then some (Sy.Y4 A.body (p - A.at_))else V6 L p):=by
     by_cases q:V6 L p=none/\A.nx<=p/\p<A.ed/\(A.fin=0\/p<A.fin)/\A.at_<=p/\p<A.at_+(n:Int)
     .rw[if_pos q,if_pos ⟨q.1,q.2.1,q.2.2.1,q.2.2.2.1,q.2.2.2.2.1,by omega⟩]
     .rw[if_neg q,if_neg (fun h=>q ⟨h.1,h.2.1,h.2.2.1,h.2.2.2.1,h.2.2.2.2.1,by omega⟩)]
    rw[e,<-ih];split
    .rw[bQ3 h1,if_neg (fun h=>hp h.symm)]
    .rfl
end Go.Proofs.YtnlcpcmdlcakgaaGreat
