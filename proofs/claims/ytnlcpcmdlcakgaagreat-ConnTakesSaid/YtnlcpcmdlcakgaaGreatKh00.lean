/- A part of the proof that a connection answers as the document says: LawLift. -/
import Derived.Test.YtnlcpcmdlcakgaaGreatRows
import Derived.WalkKit
import Derived.ProofKit
import Derived.OpenShut
import Derived.Below
import Derived.Carry
import Derived.SizedLaws
import Derived.Deep.Slices
set_option maxRecDepth 100000
set_option maxHeartbeats 4000000
set_option linter.unusedVariables false
set_option linter.unusedSimpArgs false
set_option linter.unusedSectionVars false
open Go.Proofs.Tryz
namespace Go.Proofs.YtnlcpcmdlcakgaaGreat
open Go.ChangeShapes Go.WideShapes Go.ChangeAt Go.RowKit
theorem U{p:Prop}(h:p:=by omega):p:=h
theorem bz{p:Prop}(h:p:=by trivial):p:=h
theorem bA{p:Prop}(h:p:=by decide):p:=h
theorem bC{p:Prop}(h:p:=by assumption):p:=h
theorem bD{p:Prop}(h:p:=by cases shut<;>simp only[ax,if_false,if_true,aJ,aM,and_false,false_and,and_true]at hpc ⊢ <;>omega):p:=h
theorem bE{p:Prop}(h:p:=by exact hh):p:=h
theorem bF{p:Prop}(h:p:=by cases h):p:=h
theorem bG{p:Prop}(h:p:=by cases hb):p:=h
theorem bH{p:Prop}(h:p:=by cases has<;>decide):p:=h
theorem bI{p:Prop}(h:p:=by unfold Bk.L4;rw[hs,hx];rfl):p:=h
theorem bJ{p:Prop}(h:p:=by show 0<=X.c.now+n;omega):p:=h
theorem bK{p:Prop}(h:p:=by cases q):p:=h
theorem bL{p:Prop}(h:p:=by show ¬X.c.gone=8;omega):p:=h
theorem bM{p:Prop}(h:p:=by simp):p:=h
theorem bN{p:Prop}(h:p:=by unfold Cn.aI5 Cn.fen;omega):p:=h
theorem bO{p:Prop}(h:p:=by rw[V4];exact hh):p:=h
theorem bP{p:Prop}(h:p:=by simp;omega):p:=h
theorem bQ{p:Prop}(h:p:=by simpa using hi):p:=h
theorem bR{p:Prop}(h:p:=by rw[hms];intro t ht;cases ht):p:=h
theorem bS{p:Prop}(h:p:=by show ¬X.c.cur=X.c.una;omega):p:=h
theorem bU{p:Prop}(h:p:=by first|exact .inl (by assumption)|exact .inr (by assumption)):p:=h
theorem bV{p:Prop}(h:p:=by rw[h3];exact hx2):p:=h
theorem bW{p:Prop}(h:p:=by show X.c.cur=X.c.una;omega):p:=h
theorem bX{p:Prop}(h:p:=by simp only[ax,if_false,if_true];omega):p:=h
theorem bY{p:Prop}(h:p:=by rw[hB];exact au q.1):p:=h
theorem bZ{p:Prop}(h:p:=by show(X.c.aA5 _ G _).all.size<=_;rw[ea.1];exact hz.a):p:=h
theorem cc{p:Prop}(h:p:=by rw[hby];exact growslice_fits (by omega) (by omega)):p:=h
theorem cd{p:Prop}(h:p:=by rw[e0];decide):p:=h
theorem ce{p:Prop}(h:p:=by show(X.c.Z4 G _).all.size<=_;rw[ea.1];exact hz.a):p:=h
theorem cf{p:Prop}(h:p:=by show X.c.gone=8;omega):p:=h
theorem cg{p:Prop}(h:p:=by cases d<;>first|rfl|cases hr):p:=h
theorem cj{p:Prop}(h:p:=by rw[A.ms];intro t ht;cases ht):p:=h
theorem cl{p:Prop}(h:p:=by simp[Bk.L4,Xt.ae6]):p:=h
theorem cq{p:Prop}(h:p:=by simpa using h):p:=h
theorem ct{p:Prop}(h:p:=by rw[hcl];exact al8 hJ N _):p:=h
set_option linter.defProp false
def m5:=@Bool.and_eq_true
def aa:=@List.mem_cons
def ae:=@List.mem_cons_self
def af:=@Nat.eq_of_beq_eq_true
def ah:=@List.mem_singleton
def ai:=@Result.andThen_ok
def aj:=@List.mem_cons_of_mem
def am:=@Sem.run_bind
def ao:=@List.append_nil
def aq:=@Sem.run_pure
def ar:=@List.getElem?_eq_getElem
def au:=@Nat.le_of_ble_eq_true
def av:=@List.all_eq_true
def aw:=@Option.map_eq_some_iff
def ax:=@Bool.false_eq_true
def ay:=@List.eq_nil_of_length_eq_zero
def az:=@List.length_append
def aB:=@decide_eq_true_eq
def aC:=@List.mem_append
def aD:=@decide_eq_true
def aE:=@List.length_map
def aF:=@Int.le_refl
def aG:=@List.map_congr_left
def aH:=@decide_eq_false
def aI:=@Nat.le_refl
def aJ:=@not_true_eq_false
def aK:=@Int.toNat_natCast
def aL:=@List.getElem?_take
def aM:=@not_false_eq_true
def aN:=@Bool.not_eq_true'
def aO:=@List.getElem?_append_right
def aP:=@Array.getElem?_eq_some_iff
def aQ:=@Bool.not_eq_true
def aR:=@ByteArray.size_append
def aS:=@List.getElem?_drop
def aU:=@List.length_take
def aV:=@List.mem_append_right
def aW:=@List.map_cons
def aX:=@List.mem_append_left
def aY:=@List.not_mem_nil
def aZ:=@List.mem_map
def ba:=@Option.map_some
def bb:=@List.map_append
def bc:=@Bool.eq_false_iff
def be:=@List.getElem?_cons_zero
def bf:=@Nat.zero_le
def bh:=@List.take_of_length_le
def bi:=@List.getElem?_toArray
def bj:=@List.length_replicate
def bk:=@List.getElem?_append_left
def bn:=@List.getElem?_map
def bo:=@List.length_drop
def bp:=@Bool.or_eq_true
def br:=@Nat.lt_of_lt_of_le
def bu:=@Nat.le_trans
def bw:=@Int.le_trans
theorem own:ownKnob prog.godebug=none:=by kernel_rfl
theorem cF3:laidOutB prog=true:=by kernel_rfl
section
variable{H:Type}{enc:TypeId × Value->H}{P:Program}
theorem bD8(hl:laidOutB P=true){W W':World}(hb:Below W.heap.size W W'):
 ∀{ts:List TypeId} {vs:List Value} {ds:List (DataW H)} {ps:List MemPlace},
 ts.all (fun t=>P.readableRec t&&decide (t<P.types.size))=true->DataW.TrodAll enc P W 0 (fun _=>true) true ts vs ds ps->
 DataW.TrodAll enc P W' 0 (fun b=>decide (b<W.heap.size)) true ts vs ds ps
 | [],vs,ds,ps,_,h=>by
   obtain⟨rfl,rfl,rfl⟩:=trodAll_nil h;rfl
 | t::ts,vs,ds,ps,ha,h=>by
   obtain⟨v,vs',d,ds',p,q,rfl,rfl,rfl,h1,h2⟩:=trodAll_cons h;simp only[List.all_cons,m5,aB]at ha;have hlt:∀ x∈p,x.block<W.heap.size:=by obtain⟨m,hm⟩:=h1;exact DataW.trod_lt m _ _ _ hm
   exact trodAll_cons_mk (Below.trod hl ha.1.1 ha.1.2 h1 hb hlt) (bD8 hl hb ha.2 h2)
theorem a24{w:World}{base:Nat}{spare:Nat->Bool}{held:Bool}:
 ∀{ts:List TypeId} {vs:List Value} {ds:List (DataW H)} {ps:List MemPlace},DataW.TrodAll enc P w base spare held ts vs ds ps->ds.length=ts.length
 | [],vs,ds,ps,h=>by
   obtain⟨rfl,rfl,rfl⟩:=trodAll_nil h;rfl
 | t::ts,vs,ds,ps,h=>by
   obtain⟨v,vs',d,ds',p,q,rfl,rfl,rfl,h1,h2⟩:=trodAll_cons h;simp[a24 h2]
theorem by7{C:Checked}{os:Os}{f:FuncId}{fn:Func}{s:ChangeSpec}{tb:TypeId}(own:ownKnob C.prog.godebug=none)(hl:laidOutB C.prog=true)(started:os.Started)
 (noInit:C.prog.inits.idxOf? f=none) (hfn:C.prog.funcs[f]? =some fn)
 (witness:∃(w:World) (tape:Tape) (i:Input),w.os=os/\(w.forCall tape i).Shaped C.prog/\i.vars=[]/\Input.okWide C.prog (w.forCall tape i) .any w.heap.size f i/\
   s.pre6 enc C.prog fn [] false (w.forCall tape i).memory i.args/\({}:Assume).holds C.prog (lone (Frame.enter C.prog f i.args .normal) [] (w.forCall tape i)))
 (hall:fn.params.toList.all (fun t=>C.prog.readableRec t&&decide (t<C.prog.types.size))=true)
 (hres:fn.resultTypes.toList=[tb]) (hbool:C.prog.underlying tb=some .bool) (hvars:s.vars=[])
 (hspec:∀ ds:List (DataW H),ds.length=fn.params.toList.length->(s.fn H (ds++[])).results=[.lit (.bool true)]/\(s.fn H (ds++[])).args=ds/\(s.fn H (ds++[])).vars=[])
 (walk:∀(W:World) (base:Nat) (args:Array Value) (ds:List (DataW H)) (p:List MemPlace),
   (∀(j:Nat) t v,fn.params[j]? =some t->args[j]? =some v->Value.okWide C.prog W .any base t v)->
   DataW.TrodAll enc C.prog W 0 (fun _=>true) true fn.params.toList args.toList ds p->
   (DataW.weightsEach C.prog fn.params.toList ds).all (· <=reachBytes)=true->
   Calls C.prog f args W fun e W'=>e= .returned (.bool true)/\Below W.heap.size W W'):
 ReturnsInHanded {} C os f .any (s.pre6 enc C.prog fn [] false) (s.post enc C.prog fn false true false false):=by
 refine returnsInHanded_of_change_sized own started noInit hfn witness ?_;intro W base args ds gs before hval hW _ hsz _;obtain⟨p,q,hA,hV,rfl,hfz,hnd⟩:=id hW;rw[hvars]at hV;obtain⟨rfl,rfl⟩:=trodVars_none hV;have hlen:ds.length=fn.params.toList.length:=a24 hA;have hz:(DataW.weightsEach C.prog fn.params.toList ds).all (· <=reachBytes)=true:=by
  have h0:s.plain.varTypes C.prog=[]:=by simp[DataSpec.varTypes,ChangeSpec.plain,hvars]
  simpa[h0]using hsz
 obtain⟨e1,e2,e3⟩:=hspec ds hlen;refine(walk W base args ds p hval hA hz).mono fun e W' ⟨he,bel⟩=>?_
 subst he;have hr1:fn.resultTypes.size=1:=by have:=congrArg List.length hres;simpa using this
 refine⟨_,rfl,ds,[],_,[],p,[],hW,?_,?_,?_,bel.frame _,fun h=>by cases h⟩
 .rw[e1,hres,hr1];exact trodAll_mk1 (shut_bool hbool _)
 .rw[e2];exact bD8 hl bel hall hA
 .rw[e3,hvars];rfl
end
abbrev Leaf:=Option (Option IntKind)
def bz0:Leaf->Value->Prop
 | some (some k),v=>∃ n,v= .int k n/\(Lit.int k n).wf=true
 | some none,v=>∃ b,v= .bool b
 | none,v=>∃ s:ByteArray,v= .string s/\s.size<=maxLen
def T5:List Leaf->List Value->Prop
 | [],[]=>True
 | l::ls,v::vs=>bz0 l v/\T5 ls vs
 | _,_=>False
theorem ak8:∀{l1 l2:List Leaf} {v1 v2:List Value},T5 l1 v1->T5 l2 v2->T5 (l1++l2) (v1++v2)
 | [],_,[],_,_,h=>h
 | _::_,_,_::_,_,h1,h2=>⟨h1.1,ak8 h1.2 h2⟩
 | [],_,_::_,_,h,_=>h.elim
 | _::_,_,[],_,h,_=>h.elim
theorem aU4:∀{l:List Leaf} {v:List Value},T5 l v->v.length=l.length
 | [],[],_=>rfl
 | _::_,_::_,h=>by simp[aU4 h.2]
 | [],_::_,h=>h.elim
 | _::_,[],h=>h.elim
def ai0(P:Program):Nat->TypeId->Option (List Leaf)
 | 0,_=>none
 | n+1,t=>match P.underlying t with
   | some (.int k)=>some [some (some k)]
   | some .bool=>some [some none]
   | some .string=>some [none]
   | some (.struct fs)=>fs.toList.foldlM (fun acc f=>if acc.length=f.offset then(ai0 P n f.type).bind fun l=>if l.length=P.cellsOf f.type then some (acc++l)else none else none) [] |>.bind fun l=>if l.length=P.cellsOf t then some l else none
   | some (.array m e)=>(ai0 P n e).bind fun l=>if l.length=P.cellsOf e/\P.cellsOf t=m*P.cellsOf e then some (List.replicate m l).flatten else none
   | _=>none
section
variable{H:Type}{enc:TypeId × Value->H}{P:Program}{w:World}{base:Nat}{spare:Nat->Bool}{held:Bool}
theorem bD9{n:Nat}{cs:List Value}(ih:∀(t:TypeId) (m:Nat) (cs:List Value) (x:DataW H × List MemPlace) (l:List Leaf),ai0 P n t=some l->DataW.trod enc P w base spare held m t cs=some x->T5 l cs):
 ∀(fs:List Field) (acc l:List Leaf),
  fs.foldlM (fun acc f=>if acc.length=f.offset then(ai0 P n f.type).bind fun l=>if l.length=P.cellsOf f.type then some (acc++l)else none else none) acc=some l->
  T5 acc (cs.take acc.length)->(∀ f∈fs,∃(m:Nat) (x:DataW H × List MemPlace),DataW.trod enc P w base spare held m f.type ((cs.drop f.offset).take (P.cellsOf f.type))=some x)->
  T5 l (cs.take l.length)
 | [],acc,l,h,ha,_=>by
   simp at h;subst h;exact ha
 | f::fs,acc,l,h,ha,hf=>by
   rw[List.foldlM_cons]at h;obtain⟨acc',h1,h2⟩:=Option.bind_eq_some_iff.1 h;split at h1
   .rename_i ho;obtain⟨lf,h3,h4⟩:=Option.bind_eq_some_iff.1 h1;split at h4
    .rename_i hl;injection h4 with h4;subst h4;obtain⟨m,x,hx⟩:=hf f bM;have hlf:=ih _ m _ x lf h3 hx;refine bD9 ih fs _ l h2 ?_ (fun g hg=>hf g (by simp[hg]));rw[az,List.take_add];refine ak8 ha ?_;rw[ho,hl];exact hlf
    .cases h4
   .cases h1
theorem bF4{cs:List Value}{l:List Leaf}{c:Nat}(hc:l.length=c):∀(m:Nat),(∀ i,i<m->T5 l ((cs.drop (i*c)).take c))->T5 (List.replicate m l).flatten (cs.take (m*c))
 | 0,_=>by simp;trivial
 | m+1,h=>by
   have h1:=bF4 hc m (fun i hi=>h i U);rw[List.replicate_succ',List.flatten_concat,Nat.succ_mul,List.take_add];exact ak8 h1 (h m U)
theorem am7:∀(n:Nat) (t:TypeId) (m:Nat) (cs:List Value) (x:DataW H × List MemPlace) (l:List Leaf),ai0 P n t=some l->DataW.trod enc P w base spare held m t cs=some x->T5 l cs
 | 0,_,_,_,_,_,hl,_=>by simp[ai0]at hl
 | n+1,t,m,cs,x,l,hl,h=>by
   unfold ai0 at hl;split at hl
   .rename_i k hu;injection hl with hl;subst hl;obtain⟨a,rfl,_,hw⟩:=DataW.trod_int hu h;exact⟨⟨a,rfl,hw⟩,trivial⟩
   .rename_i hu;injection hl with hl;subst hl;obtain⟨a,rfl,_⟩:=DataW.trod_bool hu h;exact⟨⟨a,rfl⟩,trivial⟩
   .rename_i hu;injection hl with hl;subst hl;obtain⟨a,rfl,_,hw⟩:=DataW.trod_string hu h;exact⟨⟨a,rfl,hw⟩,trivial⟩
   .rename_i fs hu;obtain⟨l',h1,h2⟩:=Option.bind_eq_some_iff.1 hl;split at h2
    .rename_i hlen;injection h2 with h2;subst h2;obtain⟨xs,m',_,_,hcl,hxl,hf⟩:=DataW.trod_struct hu h;have hg:∀ f∈fs.toList,∃(m:Nat) (x:DataW H × List MemPlace),DataW.trod enc P w base spare held m f.type ((cs.drop f.offset).take (P.cellsOf f.type))=some x:=by
      intro f hf';obtain⟨i,hi,rfl⟩:=List.getElem_of_mem hf';have hi':i<fs.size:=by simpa using hi
      have:=hf i fs[i] (by simp[hi']);have hx:i<xs.length:=by omega
      exact⟨m',xs[i],by simpa[hx]using this⟩
     have:=bD9 (cs:=cs) (fun t m cs x l=>am7 n t m cs x l) fs.toList [] l' h1 (by simp;trivial) hg;rwa[bh U]at this
    .cases h2
   .rename_i k e hu;obtain⟨l',h1,h2⟩:=Option.bind_eq_some_iff.1 hl;split at h2
    .rename_i hlen;injection h2 with h2;subst h2;obtain⟨xs,m',_,_,hcl,hxl,hf⟩:=DataW.trod_array hu h;have hcl':cs.length=k*P.cellsOf e:=hcl.trans hlen.2;have:=bF4 (cs:=cs) hlen.1 k (fun i hi=>by
      have:=hf i hi;have hx:i<xs.length:=by omega
      exact am7 n e m' _ xs[i] l' h1 (by simpa[hx]using this))
     rwa[bh U]at this
    .cases h2
   .cases hl
theorem bn0{n:Nat}{t e:TypeId}{l:List Leaf}{a:Option Addr}{len cap:Nat}{d:DataW H}{p:List MemPlace}
 (ht:P.underlying t=some (.slice e)) (hl:ai0 P n e=some l) (hc:l.length=P.cellsOf e) (hpos:0<l.length) (h:DataW.Trod enc P w base spare held t (.slice a len cap) d p):
 (a=none/\len=0/\cap=0)\/∃ x:Addr,a=some x/\len<=cap/\cap<=maxLen/\(0<len->x.spot=none/\x.block<w.heap.size)/\
   ∃ C:Nat->List Value,∀ i,i<len->T5 l (C i)/\∀ j u,(C i)[j]? =some u->w.cell? (x.add (i*l.length+j))=some u:=by
 obtain⟨m,h⟩:=h;rcases Go.Deep.open_slice ht h with⟨hcs,_⟩|⟨x,len',cap',m',n',D,Pl,hcs,hb,hl1,hl2,hm,hx,hi⟩
 .left;simp[Value.cells]at hcs;exact hcs
 .right;simp[Value.cells]at hcs;obtain⟨rfl,rfl,rfl⟩:=hcs;have hlm:len<=m':=by rw[hm];split<;>omega
  have key:∀ i,i<len->∃ cs:List Value,T5 l cs/\∀ j u,cs[j]? =some u->w.cell? (x.add (i*l.length+j))=some u:=by
   intro i hi';obtain⟨cs',hcells,htr⟩:=hi i U;refine⟨cs',am7 n e n' cs' _ l hl htr,fun j u hu=>?_⟩;obtain⟨_,hlen,hcell⟩:=World.cells?_some hcells;have hj:j<cs'.length:=by
    rcases Nat.lt_or_ge j cs'.length with h0|h0
    .exact h0
    .rw[List.getElem?_eq_none h0]at hu;cases hu
   have:=hcell j U;rw[Go.Deep.add_add,<-hc]at this;rw[this,hu]
  obtain⟨C,hC⟩:=Go.Deep.choose_lt key;refine⟨x,rfl,hl1,hl2,fun h0=>?_,C,hC⟩;obtain⟨hlf,hcell⟩:=hC 0 h0;have hlen:=aU4 hlf;have hc0:=hcell 0 ((C 0)[0]' U) (ar U);simp[Addr.add]at hc0;exact⟨by simpa using World.cell?_spot hc0,World.block_lt_of_cell? w _ hc0⟩
theorem ae1{n:Nat}{t:TypeId}{l:List Leaf}{v:Value}{d:DataW H}{p:List MemPlace}
 (hl:ai0 P n t=some l) (h:DataW.Trod enc P w base spare held t v d p):T5 l v.cells.toList:=by
 obtain⟨m,h⟩:=h;exact am7 n t m _ _ l hl h
end
end Go.Proofs.YtnlcpcmdlcakgaaGreat
