/- A part of the proof that a connection answers as the document says: SyB Rows1 Mem SyC. -/
import Derived.WalkSpells
import Derived.WalkLawsBesides
import Derived.Handy
import Derived.Deep.Light
import Derived.Lib.Hide
import Derived.Deep.MidRow
import Derived.Laws.OwnMore
import Derived.MapKept
import Derived.Test.YtnlcpcmdlcakgaaGreatKh01
set_option maxRecDepth 100000
set_option maxHeartbeats 4000000
set_option linter.unusedVariables false
set_option linter.unusedSimpArgs false
set_option linter.unusedSectionVars false
namespace Go.Proofs.YtnlcpcmdlcakgaaGreat
namespace Sy
open Go
structure Cx where
 bs:List Bd
 pc:List Tm
 deriving Repr,Inhabited
structure Cx.ok(J:Env)(c:Cx):Prop where
 bs:X5 J c.bs
 pc:∀ t∈c.pc,(u9 J t).b=true
def aY7(t:Tm):List Tm->Bool
 | []=>false
 | x::l=>E7 t x||aY7 t l
theorem bB5{t:Tm}:∀{l:List Tm},aY7 t l=true->t∈l
 | [],h=>by cases h
 | x::l,h=>by
   simp only[aY7,bp]at h;rcases h with h|h
   .rw[H9 h];exact ae ..
   .exact aj _ (bB5 h)
def cW8:Rg->Option Bool
 | some (a,b)=>if Y6 1 a then some true else if Y6 b 0 then some false else none
 | none=>none
def cW9:Rg->Option Bool
 | some (a,b)=>if Y6 0 a then some true else if Y6 b (-1)then some false else none
 | none=>none
def cX0:Rg->Option Bool
 | some (a,b)=>if Y6 1 a||Y6 b (-1)then some false else if aP6 a 0&&aP6 b 0 then some true else none
 | none=>none
theorem dG0{r:Rg}{d:Int}{b:Bool}(h:cW8 r=some b)(hr:r.ok d):decide (0<d)=b:=by
 unfold cW8 at h;split at h
 .have:=hr _ _ rfl;split at h
  .rename_i q;simp[Y6]at q;injection h with h;subst h;simp;omega
  .split at h
   .rename_i q;simp[Y6]at q;injection h with h;subst h;simp;omega
   .cases h
 .cases h
theorem dG1{r:Rg}{d:Int}{b:Bool}(h:cW9 r=some b)(hr:r.ok d):decide (0<=d)=b:=by
 unfold cW9 at h;split at h
 .have:=hr _ _ rfl;split at h
  .rename_i q;simp[Y6]at q;injection h with h;subst h;simp;omega
  .split at h
   .rename_i q;simp[Y6]at q;injection h with h;subst h;simp;omega
   .cases h
 .cases h
theorem dG2{r:Rg}{d:Int}{b:Bool}(h:cX0 r=some b)(hr:r.ok d):decide (d=0)=b:=by
 unfold cX0 at h;split at h
 .have:=hr _ _ rfl;split at h
  .rename_i q;simp[Y6]at q;injection h with h;subst h;simp;omega
  .split at h
   .rename_i q;simp only[m5]at q;have h1:=aF8 q.1;have h2:=aF8 q.2;injection h with h;subst h;simp;omega
   .cases h
 .cases h
def cW0(c:Cx)(t:Tm):Option Bool:=if aY7 t c.pc then some true else if aY7 (.not t) c.pc then some false else none
def aH9(c:Cx):Tm->Option Bool
 | .bl b=>some b
 | .not x=>match aH9 c x with
   | some b=>some (!b)
   | none=>cW0 c (.not x)
 | .and x y=>match aH9 c x,aH9 c y with
   | some false,_=>some false
   | _,some false=>some false
   | some true,some true=>some true
   | _,_=>cW0 c (.and x y)
 | .or x y=>match aH9 c x,aH9 c y with
   | some true,_=>some true
   | _,some true=>some true
   | some false,some false=>some false
   | _,_=>cW0 c (.or x y)
 | .bq x y=>if E7 x y then some true else match x,y with
   | .bl a, .bl b=>some (a==b)
   | x,y=>cW0 c (.bq x y)
 | .lt x y=>match cW8 (rng c.bs (aB0 y x))with
   | some b=>some b
   | none=>if aY7 (.lt x y) c.pc then some true else if aY7 (.not (.lt x y)) c.pc then some false else none
 | .le x y=>match cW9 (rng c.bs (aB0 y x))with
   | some b=>some b
   | none=>if aY7 (.le x y) c.pc then some true else if aY7 (.not (.le x y)) c.pc then some false else none
 | .eq x y=>match cX0 (rng c.bs (aB0 y x))with
   | some b=>some b
   | none=>if aY7 (.eq x y) c.pc then some true else if aY7 (.not (.eq x y)) c.pc then some false else none
 | .seq x y=>if E7 x y then some true else if aY7 (.seq x y) c.pc then some true else if aY7 (.not (.seq x y)) c.pc then some false else none
 | t=>if aY7 t c.pc then some true else if aY7 (.not t) c.pc then some false else none
theorem ab7{J:Env}{c:Cx}(hc:c.ok J){t:Tm}{b:Bool}(h:(if aY7 t c.pc then some true else if aY7 (.not t) c.pc then some false else none)=some b):(u9 J t).b=b:=by
 split at h
 .rename_i q;injection h with h;subst h;exact hc.pc _ (bB5 q)
 .split at h
  .rename_i q;injection h with h;subst h;have:=hc.pc _ (bB5 q);change(!(u9 J t).b)=true at this;simpa using this
  .cases h
theorem aL5{J:Env}{c:Cx}(hc:c.ok J):∀{t:Tm} {b:Bool},aH9 c t=some b->(u9 J t).b=b:=by
 intro t
 induction t with
 | bl p=>intro b h;injection h
 | not x ih=>
   intro b h;simp only[aH9]at h;cases hx:aH9 c x with
   | none=>rw[hx]at h;exact ab7 hc h
   | some p=>
     rw[hx]at h;injection h with h;show(!(u9 J x).b)=b;rw[ih hx];exact h
 | and x y i1 i2=>
   intro b h;simp only[aH9]at h;cases hx:aH9 c x with
   | none=>
     cases hy:aH9 c y with
     | none=>rw[hx,hy]at h;exact ab7 hc h
     | some q=>
       rw[hx,hy]at h;cases q
       .injection h with h;show((u9 J x).b&&(u9 J y).b)=b;rw[i2 hy,<-h];simp
       .exact ab7 hc h
   | some p=>
     cases hy:aH9 c y with
     | none=>
       rw[hx,hy]at h;cases p
       .injection h with h;show((u9 J x).b&&(u9 J y).b)=b;rw[i1 hx,<-h];simp
       .exact ab7 hc h
     | some q=>
       rw[hx,hy]at h;show((u9 J x).b&&(u9 J y).b)=b;rw[i1 hx,i2 hy];cases p<;>cases q<;>simp at h ⊢ <;>exact h
 | or x y i1 i2=>
   intro b h;simp only[aH9]at h;cases hx:aH9 c x with
   | none=>
     cases hy:aH9 c y with
     | none=>rw[hx,hy]at h;exact ab7 hc h
     | some q=>
       rw[hx,hy]at h;cases q
       .exact ab7 hc h
       .injection h with h;show((u9 J x).b||(u9 J y).b)=b;rw[i2 hy,<-h];simp
   | some p=>
     cases hy:aH9 c y with
     | none=>
       rw[hx,hy]at h;cases p
       .exact ab7 hc h
       .injection h with h;show((u9 J x).b||(u9 J y).b)=b;rw[i1 hx,<-h];simp
     | some q=>
       rw[hx,hy]at h;show((u9 J x).b||(u9 J y).b)=b;rw[i1 hx,i2 hy];cases p<;>cases q<;>simp at h ⊢ <;>exact h
 | bq x y _ _=>
   intro b h;simp only[aH9]at h;split at h
   .rename_i q;injection h with h;subst h;rw[H9 q];show((u9 J y).b==(u9 J y).b)=true;simp
   .split at h
    .injection h with h
    .exact ab7 hc h
 | lt x y _ _=>
   intro b h;simp only[aH9]at h;split at h
   .rename_i q;injection h with h;subst h;have:=dG0 q (aK6 hc.bs _);rw[aA6]at this;rw[<-this];show decide ((u9 J x).i<(u9 J y).i)=_;congr 1;exact propext U
   .exact ab7 hc h
 | le x y _ _=>
   intro b h;simp only[aH9]at h;split at h
   .rename_i q;injection h with h;subst h;have:=dG1 q (aK6 hc.bs _);rw[aA6]at this;rw[<-this];show decide ((u9 J x).i<=(u9 J y).i)=_;congr 1;exact propext U
   .exact ab7 hc h
 | eq x y _ _=>
   intro b h;simp only[aH9]at h;split at h
   .rename_i q;injection h with h;subst h;have:=dG2 q (aK6 hc.bs _);rw[aA6]at this;rw[<-this];show((u9 J x).i==(u9 J y).i)=_;by_cases e:(u9 J x).i=(u9 J y).i
    .simp[e]
    .have e2:¬(u9 J y).i - (u9 J x).i=0:=by omega
     simp[e,e2]
   .exact ab7 hc h
 | seq x y _ _=>
   intro b h;simp only[aH9]at h;split at h
   .rename_i q;injection h with h;subst h;rw[H9 q];show((u9 J y).s.toList==(u9 J y).s.toList)=true;simp
   .exact ab7 hc h
 | _=>intro b h;exact ab7 hc h
def mkB(c:Cx)(t:Tm):Tm:=
 match aH9 c t with
 | some b=> .bl b
 | none=>t
theorem aK7{J:Env}{c:Cx}(hc:c.ok J)(t:Tm):(u9 J (mkB c t)).b=(u9 J t).b:=by
 unfold mkB;split
 .rename_i b h;exact(aL5 hc h).symm
 .rfl
def X1(c:Cx)(t:Tm):Bool:=
 match aH9 c t with
 | some true=>true
 | _=>false
theorem L0{J:Env}{c:Cx}(hc:c.ok J){t:Tm}(h:X1 c t=true):(u9 J t).b=true:=by
 unfold X1 at h;split at h
 .rename_i q;exact aL5 hc q
 .cases h
def isB:Tm->Option Bool
 | .bl b=>some b
 | _=>none
theorem bc5{t:Tm}{b:Bool}(h:isB t=some b):t= .bl b:=by
 cases t<;>simp[isB]at h;rw[h]
def aW4(x:Tm):Tm:=
 match x with
 | .bl b=> .bl (!b)
 | .not y=>y
 | x=> .not x
theorem al7(J:Env)(x:Tm):(u9 J (aW4 x)).b= !(u9 J x).b:=by
 unfold aW4;split
 .rfl
 .rename_i y;show _= !!(u9 J y).b;simp
 .rfl
def bu0(x y:Tm):Tm:=
 match isB x,isB y with
 | some true,_=>y
 | some false,_=> .bl false
 | _,some true=>x
 | _,some false=> .bl false
 | _,_=> .and x y
theorem b62(J:Env)(x y:Tm):(u9 J (bu0 x y)).b=((u9 J x).b&&(u9 J y).b):=by
 unfold bu0;cases hx:isB x with
 | none=>
   cases hy:isB y with
   | none=>rfl
   | some q=>
     rw[bc5 hy];cases q
     .show false=(_&&false);simp
     .show _=(_&&true);simp
 | some p=>
   rw[bc5 hx];cases p<;>rfl
def eH1(t:Tm):Bool:=(aC4 t).isSome
def a01(t:Tm)(r:Rg)(l:List Bd):List Bd:=
 match r with
 | some (a,b)=>if eH1 t then l else⟨t,a,b⟩::l
 | none=>l
theorem am1{J:Env}{t:Tm}{r:Rg}{l:List Bd}(hr:r.ok (u9 J t).i)(hl:X5 J l):X5 J (a01 t r l):=by
 unfold a01;split
 .split
  .exact hl
  .intro x hx;rcases aa.1 hx with rfl|hx
   .exact hr _ _ rfl
   .exact hl x hx
 .exact hl
def c92(o:Int):Rg->Rg->Rg
 | some (a,_),some (_,d)=>some (a,d - o)
 | _,_=>none
def b72(o:Int):Rg->Rg->Rg
 | some (a,_),some (_,d)=>some (a+o,d)
 | _,_=>none
def bl1(o:Int):Rg->Rg
 | some (_,b)=>some (o,b)
 | none=>none
theorem dl7{o x y:Int}{r s:Rg}(h:x+o<=y)(hr:r.ok x)(hs:s.ok y):(c92 o r s).ok x:=by
 unfold c92;split
 .have a:=hr _ _ rfl;have b:=hs _ _ rfl;exact Rg.X7 U
 .exact Rg.aD9 _
theorem cq1{o x y:Int}{r s:Rg}(h:x+o<=y)(hr:r.ok x)(hs:s.ok y):(b72 o r s).ok y:=by
 unfold b72;split
 .have a:=hr _ _ rfl;have b:=hs _ _ rfl;exact Rg.X7 U
 .exact Rg.aD9 _
theorem cY8{o d:Int}{r:Rg}(h:o<=d)(hr:r.ok d):(bl1 o r).ok d:=by
 unfold bl1;split
 .have a:=hr _ _ rfl;exact Rg.X7 U
 .exact Rg.aD9 _
def a51(o:Int)(x y:Tm)(l:List Bd):List Bd:=
 a01 x (c92 o (rng l x) (rng l y)) (a01 y (b72 o (rng l x) (rng l y)) (a01 (aB0 y x) (bl1 o (rng l (aB0 y x))) l))
theorem at5{J:Env}{o:Int}{x y:Tm}{l:List Bd}(h:(u9 J x).i+o<=(u9 J y).i)(hl:X5 J l):X5 J (a51 o x y l):=
 am1 (dl7 h (aK6 hl _) (aK6 hl _)) (am1 (cq1 h (aK6 hl _) (aK6 hl _)) (am1 (cY8 (by rw[aA6];omega) (aK6 hl _)) hl))
def cJ1(x y:Tm)(l:List Bd):List Bd:=a01 x (aV1 (rng l x) (rng l y)) (a01 y (aV1 (rng l x) (rng l y)) (a01 (aB0 y x) (some (0,0)) l))
theorem cV8{J:Env}{x y:Tm}{l:List Bd}(h:(u9 J x).i=(u9 J y).i)(hl:X5 J l):X5 J (cJ1 x y l):=
 am1 (aG4 (aK6 hl _) (by rw[h];exact aK6 hl _)) (am1 (aG4 (by rw[<-h];exact aK6 hl _) (aK6 hl _)) (am1 (Rg.X7 (by rw[aA6];omega)) hl))
def ax0:Tm->Bool->List Bd->List Bd
 | .not x,b,l=>ax0 x (!b) l
 | .and x y,true,l=>ax0 x true (ax0 y true l)
 | .or x y,false,l=>ax0 x false (ax0 y false l)
 | .lt x y,true,l=>a51 1 x y l
 | .lt x y,false,l=>a51 0 y x l
 | .le x y,true,l=>a51 0 x y l
 | .le x y,false,l=>a51 1 y x l
 | .eq x y,true,l=>cJ1 x y l
 | _,_,l=>l
theorem cp7{J:Env}:∀{t:Tm} {b:Bool} {l:List Bd},(u9 J t).b=b->X5 J l->X5 J (ax0 t b l):=by
 intro t
 induction t with
 | not x ih=>
   intro b l h hl;refine ih ?_ hl;change(!(u9 J x).b)=b at h;rw[<-h];simp
 | and x y i1 i2=>
   intro b l h hl;cases b with
   | false=>exact hl
   | true=>
     change((u9 J x).b&&(u9 J y).b)=true at h;simp only[m5]at h;exact i1 h.1 (i2 h.2 hl)
 | or x y i1 i2=>
   intro b l h hl;cases b with
   | true=>exact hl
   | false=>
     change((u9 J x).b||(u9 J y).b)=false at h;simp only[Bool.or_eq_false_iff]at h;exact i1 h.1 (i2 h.2 hl)
 | lt x y _ _=>
   intro b l h hl;change decide ((u9 J x).i<(u9 J y).i)=b at h;cases b with
   | true=>exact at5 (by simp at h;omega) hl
   | false=>exact at5 (by simp at h;omega) hl
 | le x y _ _=>
   intro b l h hl;change decide ((u9 J x).i<=(u9 J y).i)=b at h;cases b with
   | true=>exact at5 (by simp at h;omega) hl
   | false=>exact at5 (by simp at h;omega) hl
 | eq x y _ _=>
   intro b l h hl;change((u9 J x).i==(u9 J y).i)=b at h;cases b with
   | true=>exact cV8 cq hl
   | false=>exact hl
 | _=>intro b l h hl;exact hl
def Cx.dR9(c:Cx)(t:Tm):Cx:=⟨ax0 t true c.bs,t::c.pc⟩
theorem Cx.dI7{J:Env}{c:Cx}(hc:c.ok J){t:Tm}(h:(u9 J t).b=true):(c.dR9 t).ok J:=
 ⟨cp7 h hc.bs,fun x hx=>by
   rcases aa.1 hx with rfl|hx
   .exact h
   .exact hc.pc x hx⟩
end Sy
end Go.Proofs.YtnlcpcmdlcakgaaGreat
namespace Go.Proofs.YtnlcpcmdlcakgaaGreat
open Go.RowKit
theorem aL1{k:IntKind}{a b:Int}(h:a=b):Ending.returned (.int k a)= .returned (.int k b):=by rw[h]
theorem aR6{a b:Bool}(h:a=b):Ending.returned (.bool a)= .returned (.bool b):=by rw[h]
def Blk(w:World)(g:Nat)(t:TypeId)(cs:List Value):Prop:=w.heap[g]? =some (.cells cs.toArray t (0,0))
structure Only(S:Nat->Prop)(w w':World):Prop where
 os:w'.os=w.os
 tape:w'.tape=w.tape
 output:w'.output=w.output
 size:w.heap.size<=w'.heap.size
 block:∀ k,k<w.heap.size->¬S k->w'.heap[k]? =w.heap[k]?
section
variable{w w' w'':World}{g:Nat}{t:TypeId}{cs:List Value}{S S':Nat->Prop}
theorem Blk.lt(h:Blk w g t cs):g<w.heap.size:=by
 rcases Nat.lt_or_ge g w.heap.size with hlt|hge
 .exact hlt
 .unfold Blk at h;rw[Array.getElem?_eq_none hge]at h;cases h
theorem Blk.ag8(h:Blk w g t cs)(i:Nat):w.cell? ⟨g,i,none⟩=cs[i]? :=by
 rw[cell_of_row w g i cs.toArray t (0,0) h];simp
theorem Blk.at_(h:Blk w g t cs){i:Nat}{v:Value}(hv:cs[i]? =some v):w.cell? ⟨g,i,none⟩=some v:=by rw[h.ag8,hv]
theorem Blk.Z5(h:Blk w g t cs)(i:Nat):w.frozen? ⟨g,i,none⟩=false:=by
 unfold Blk at h;simp[World.frozen?,h]
theorem Blk.new(w:World)(t:TypeId)(cs:List Value):Blk (w.alloc (.cells cs.toArray t)) w.heap.size t cs:=heap_alloc_new w _
theorem Blk.ad2{cs':List Value}(h:Blk w g t cs)(e:cs=cs'):Blk w g t cs':=e ▸ h
theorem Blk.aA8(h:Blk w g t cs)(i:Nat)(u:Value):Blk (w.setCell ⟨g,i,none⟩ u) g t (cs.set i u):=by
 unfold Blk at h ⊢;simp[World.setCell,Array.getElem?_modify,h]
theorem Blk.eV3(h:Blk w g t cs):w.there g 0 cs.length:=fun j hj=>by
 rw[Nat.zero_add];exact⟨by rw[h.ag8,ar hj];rfl,h.Z5 j⟩
theorem Only.aF4(S:Nat->Prop)(w:World):Only S w w:=⟨rfl,rfl,rfl,aI _,fun _ _ _=>rfl⟩
theorem Only.dS3(h:Only S w w')(k:Only S w' w''):Only S w w'':=
 ⟨k.os.trans h.os,k.tape.trans h.tape,k.output.trans h.output,bu h.size k.size,fun i hi hs=>(k.block i (br hi h.size) hs).trans (h.block i hi hs)⟩
theorem Only.aj6(h:Only S w w')(hS:∀ k,k<w.heap.size->S k->S' k):Only S' w w':=
 ⟨h.os,h.tape,h.output,h.size,fun i hi hs=>h.block i hi fun hk=>hs (hS i hi hk)⟩
theorem Only.bU0(h:Only S w w'):Only S w w'.drew:=⟨h.os,h.tape,h.output,h.size,h.block⟩
theorem Only.bD4(h:Only S w w')(n:Nat):Only S w (w'.drewN n):=⟨h.os,h.tape,h.output,h.size,h.block⟩
theorem Only.ca0(h:Only S w w')(o:Obj):Only S w (w'.alloc o):=
 ⟨h.os,h.tape,h.output,bu h.size bM,fun i hi hs=>(Below.heap_alloc w' o i (br hi h.size)).trans (h.block i hi hs)⟩
theorem Only.cK6(h:Only S w w'){p:Addr}(hp:S p.block\/w.heap.size<=p.block)(u:Value):Only S w (w'.setCell p u):=
 ⟨h.os,h.tape,h.output,by simpa[World.setCell]using h.size,fun i hi hs=>(Below.heap_setCell w' p u i (by
   rintro rfl;rcases hp with hp|hp
   .exact hs hp
   .omega)).trans (h.block i hi hs)⟩
theorem Only.aB7{i:Nat}{u:Value}(h:Only (fun k=>k=g) w w'):Only (fun k=>k=g) w (w'.setCell ⟨g,i,none⟩ u):=h.cK6 (p:=⟨g,i,none⟩) (.inl rfl) u
theorem Only.aa7(h:Below w.heap.size w w')(S:Nat->Prop):Only S w w':=⟨h.os,h.tape,h.output,h.size,fun i hi _=>h.block i hi⟩
theorem Only.bD3(h:Only S w w')(k:Below w'.heap.size w' w''):Only S w w'':=h.dS3 (.aa7 k S)
theorem Only.ed4(h:Only S w w'){p:Addr}(hl:p.block<w.heap.size)(hs:¬S p.block):w'.cell? p=w.cell? p:=World.cell?_of_block (w:=w) (h.block p.block hl hs)
theorem Only.dS4{b o:Nat}(h:Only S w w'){cs:List Value}(hr:w.rangeAt b o cs)(hs:¬S b):w'.rangeAt b o cs:=fun j v hv=>by
 have:=hr j v hv;rw[h.ed4 (p:=⟨b,o+j,none⟩) (World.block_lt_of_cell? w _ this) hs];exact this
theorem a25(w:World)(t:TypeId):∀(vs:List Value) (o:Nat) (zs:List Value),o+vs.length=zs.length->
 (w.alloc (.cells zs.toArray t)).setCells w.heap.size o vs=w.alloc (.cells (zs.take o++vs).toArray t)
 | [],o,zs,h=>by
   simp only[World.setCells,ao];rw[bh (by simpa using Nat.le_of_eq h.symm)]
 | v::vs,o,zs,h=>by
   rw[World.setCells,World.setCell_alloc_new];have h1:=a25 w t vs (o+1) (zs.set o v) (by simp only[List.length_cons]at h;simp;omega);simp only[List.setIfInBounds_toArray]at h1 ⊢;rw[h1];congr 2;have hlt:o<zs.length:=by simp only[List.length_cons]at h;omega
   rw[List.take_succ_eq_append_getElem (by simpa using hlt),List.take_set_of_le (aI o)];simp
end
section
variable{P:Program}
theorem bO2{ops:Array Oper}{rest:List Oper}{op:Oper}{a:Act}{w:World}{Q:Exit->Act->World->Prop}(hgd:op.guard=none)(ty:TypeId)(x y:Operand)(ho:op.op= .store ty x y)
 (zs cs:List Value) (hx:a.eval x= .pointer (some ⟨w.heap.size,0,none⟩)) (hy:a.eval y= .agg cs.toArray)
 (hl:cs.length=zs.length) (hi:(P.info? ty).map (·.size)=some cs.length) (h1:∀ v∈cs,v.oneCell'=true)
 (h:wpList P ops Q rest (a.put op.dst undef) (w.alloc (.cells cs.toArray ty))):wpList P ops Q (op::rest) a (w.alloc (.cells zs.toArray ty)):=by
 have hb:=Blk.new w ty zs;refine wpList_store_mid hgd ty x y ho w.heap.size 0 cs.toArray hx hy ?_ bQ (all_oneCell_toArray h1) ?_
 .have:=hb.eV3;rw[<-hl]at this;simpa using this
 .have:=a25 w ty cs 0 zs U;simp only[List.take_zero,List.nil_append]at this;simp only[this];exact h
end
end Go.Proofs.YtnlcpcmdlcakgaaGreat
namespace Go.Proofs.YtnlcpcmdlcakgaaGreat
namespace Sy
open Go Go.RowKit
inductive C where
 | int (k:IntKind) (t:Tm)|bool (t:Tm)|str (t:Tm)
 | ptr (l off:Nat)|nptr
 | slc (l off:Nat) (len cap:Tm)|nslc
 | slr (l:Nat) (off len an:Tm)|ptx (l:Nat) (off:Tm)
 | fn (f:FuncId) (ls:List Nat)|nmap|map (l:Nat)
 | opq (i:Nat)
 | slt (l m:Nat) (off len an:Tm)|pta (l base m:Nat) (i:Tm) (f:Nat)|ptv (t:Tm)|slz (l m:Nat) (len:Tm)|vls (t:Tm)
 deriving Repr,Inhabited
inductive V1 where
 | c (x:C)|agg (l:List C)
 deriving Repr,Inhabited
inductive SV where
 | one (x:V1)|tup (l:List V1)|any (n:Nat)
 deriving Repr,Inhabited
abbrev Bn:=Nat->Nat
def C.G2(J:Env)(N:Bn):C->Value
 | .int k t=> .int k (Sy.u9 J t).i
 | .bool t=> .bool (Sy.u9 J t).b
 | .str t=> .string (Sy.u9 J t).s
 | .ptr l off=> .pointer (some ⟨N l,off,none⟩)
 | .nptr=> .pointer none
 | .slc l off len cap=> .slice (some ⟨N l,off,none⟩) (Sy.u9 J len).i.toNat (Sy.u9 J cap).i.toNat
 | .nslc=> .slice none 0 0
 | .ptx l off=> .pointer (some ⟨N l,(Sy.u9 J off).i.toNat,none⟩)
 | .slr l off len an=>if N (l+1)=0 then .slice none 0 0 else .slice (some ⟨N l,if N (l+1)=(Sy.u9 J off).i.toNat then(Sy.u9 J an).i.toNat else(Sy.u9 J off).i.toNat,none⟩) (Sy.u9 J len).i.toNat (N (l+1) - (Sy.u9 J off).i.toNat)
 | .fn f ls=> .func (.func f) #[] (ls.map fun l=>Value.pointer (some ⟨N l,0,none⟩)).toArray
 | .nmap=> .map none
 | .map l=> .map (some (N l))
 | .opq i=>J.v i
 | .slt l m off len an=>if N (l+1)=0 then .slice none 0 0 else .slice (some ⟨N l,(if N (l+1)=(Sy.u9 J off).i.toNat then(Sy.u9 J an).i.toNat else(Sy.u9 J off).i.toNat)*m,none⟩) (Sy.u9 J len).i.toNat (N (l+1) - (Sy.u9 J off).i.toNat)
 | .pta l base m i f=> .pointer (some ⟨N l,base+(Sy.u9 J i).i.toNat*m+f,none⟩)
 | .ptv t=> .pointer (some ⟨(Sy.u9 J t).i.toNat,0,none⟩)
 | .vls t=>mkV .sls (Sy.u9 J t)
 | .slz l m len=>if N l=0/\N (l+1)=0 then .slice none 0 0 else .slice (some ⟨N l,0,none⟩) (Sy.u9 J len).i.toNat (N (l+1))
def A5(J:Env)(N:Bn)(l:List C):List Value:=l.map (C.G2 J N)
def V1.W7(J:Env)(N:Bn):V1->Value
 | .c x=>x.G2 J N
 | .agg l=> .agg (A5 J N l).toArray
def SV.A1(J:Env)(N:Bn):SV->Value
 | .one x=>x.W7 J N
 | .tup l=> .tuple (l.map (V1.W7 J N)).toArray
 | .any n=>J.u n
def Env.R8(J:Env):Prop:=∀ i,(J.v i).oneCell'=true
theorem dm2(v:Value):(slV v).oneCell'=true:=by cases v<;>rfl
theorem C.one{J:Env}(hJ:J.R8)(N:Bn)(x:C):(x.G2 J N).oneCell'=true:=by
 cases x<;>first|rfl|exact hJ _|exact dm2 _|(simp only[C.G2];split<;>rfl)
theorem al8{J:Env}(hJ:J.R8)(N:Bn)(l:List C):∀ v∈A5 J N l,v.oneCell'=true:=fun v hv=>by
 obtain⟨x,_,rfl⟩:=aZ.1 hv;exact x.one hJ N
def C.has(n:Nat):C->Bool
 | .ptr l _=>Nat.beq l n
 | .slc l _ _ _=>Nat.beq l n
 | .ptx l _=>Nat.beq l n
 | .slr l _ _ _=>Nat.beq l n||Nat.beq (l+1) n
 | .map l=>Nat.beq l n
 | .fn _ ls=>ls.any fun l=>Nat.beq l n
 | .slt l _ _ _ _=>Nat.beq l n||Nat.beq (l+1) n
 | .pta l _ _ _ _=>Nat.beq l n
 | .slz l _ _=>Nat.beq l n||Nat.beq (l+1) n
 | _=>false
def bB7(n:Nat)(l:List C):Bool:=l.any (C.has n)
def V1.has(n:Nat):V1->Bool
 | .c x=>x.has n
 | .agg l=>bB7 n l
def SV.has(n:Nat):SV->Bool
 | .one x=>x.has n
 | .tup l=>l.any (V1.has n)
 | .any _=>false
def E8(N:Bn)(n v:Nat):Bn:=fun l=>if l=n then v else N l
theorem B3{N:Bn}{n v l:Nat}(h:l≠n):E8 N n v l=N l:=by unfold E8;rw[if_neg h]
theorem K7(N:Bn)(n v:Nat):E8 N n v n=v:=by unfold E8;rw[if_pos rfl]
theorem T3{a b:Nat}(h:Nat.beq a b=false):a≠b:=fun e=>by rw[e,Nat.beq_refl]at h;cases h
theorem C.bM4(J:Env){N:Bn}{n v:Nat}{x:C}(hx:x.has n=false):x.G2 J (E8 N n v)=x.G2 J N:=by
 cases x with
 | ptr l off=>simp only[C.G2];rw[B3 (T3 hx)]
 | slc l off a b=>simp only[C.G2];rw[B3 (T3 hx)]
 | ptx l off=>simp only[C.G2];rw[B3 (T3 hx)]
 | slr l off a an=>
   simp only[C.has,Bool.or_eq_false_iff]at hx;simp only[C.G2];rw[B3 (T3 hx.1),B3 (T3 hx.2)]
 | map l=>simp only[C.G2];rw[B3 (T3 hx)]
 | pta l _ _ _ _=>simp only[C.G2];rw[B3 (T3 hx)]
 | slz l m a=>
   simp only[C.has,Bool.or_eq_false_iff]at hx;simp only[C.G2];rw[B3 (T3 hx.1),B3 (T3 hx.2)]
 | slt l m off a an=>
   simp only[C.has,Bool.or_eq_false_iff]at hx;simp only[C.G2];rw[B3 (T3 hx.1),B3 (T3 hx.2)]
 | fn f ls=>
   simp only[C.G2];congr 2;apply aG;intro l hl;have h:=List.any_eq_false.1 hx l hl;rw[B3 (fun e=>h (by rw[e,Nat.beq_refl]))]
 | _=>rfl
theorem aA2(J:Env){N:Bn}{n v:Nat}{l:List C}(hl:bB7 n l=false):A5 J (E8 N n v) l=A5 J N l:=by
 apply aG;intro x hx;have h:=List.any_eq_false.1 hl x hx;exact C.bM4 J cq
theorem V1.cK3(J:Env){N:Bn}{n v:Nat}{x:V1}(hx:x.has n=false):x.W7 J (E8 N n v)=x.W7 J N:=by
 cases x with
 | c x=>exact C.bM4 J hx
 | agg l=>simp only[V1.W7];rw[aA2 J hx]
theorem SV.aY5(J:Env){N:Bn}{n v:Nat}{x:SV}(hx:x.has n=false):x.A1 J (E8 N n v)=x.A1 J N:=by
 cases x with
 | one x=>exact V1.cK3 J hx
 | tup l=>
   simp only[SV.A1];congr 2;apply aG;intro x hm;have h:=List.any_eq_false.1 hx x hm;exact V1.cK3 J cq
 | any n=>rfl
structure Ins where
 pos:Nat
 lv:List Kd
 n:Nat
 t:Tm
 deriving Repr,Inhabited
inductive Xt where
 | no|tab (lv:List Kd) (t:Tm)|arr (ins:List Ins)|mp (ks:List Kd) (ag:Bool) (v:Kd) (t:Tm)|own (k:Nat) (t:Tm)|al (t:Tm)
 deriving Repr,Inhabited
structure Bk where
 l:Nat
 ty:TypeId
 cs:List C
 rw:Bool
 str:Option Tm
 x:Xt:= .no
 deriving Repr,Inhabited
def Xt.ae6:Xt->Bool
 | .tab _ _=>true
 | _=>false
def Xt.isOwn:Xt->Bool
 | .own _ _=>true
 | _=>false
def Xt.cZ1:Xt->Bool
 | .al _=>true
 | _=>false
def Xt.bl3:Xt->Bool
 | .no=>true
 | _=>false
theorem Xt.a56{x:Xt}(h:x.bl3=true):x= .no:=by cases x<;>first|rfl|cases h
def kOK:Kd->Value->Prop
 | .int k,v=>∃ n,v= .int k n/\(Lit.int k n).wf=true
 | .bool,v=>∃ b,v= .bool b
 | .str,v=>∃ s:ByteArray,v= .string s/\s.size<=maxLen
 | .ptr,v=>∃ n,v= .pointer (some ⟨n,0,none⟩)
 | .sls,v=>∃ a n c,v= .slice a n c
def S1:List Kd->List Value->Prop
 | [],[]=>True
 | k::l,v::vs=>kOK k v/\S1 l vs
 | _,_=>False
structure RowT(w:World)(g c:Nat)(ty:TypeId)(lv:List Kd)(l:List (List Value)):Prop where
 row:c≠0->∃ cur:Array Value,w.heap[g]? =some (.cells cur ty (0,0))/\cur.size=c*lv.length/\c<=maxLen/\cur.toList.take (l.length*lv.length)=l.flatten
 len:l.length<=c
 ok:∀ r∈l,S1 lv r
def aK4(ag:Bool)(n:Nat)(r:List Value):Value × Value:=(if ag then .agg (r.take n).toArray else r.headD (.bool false),r.getD n (.bool false))
structure MapT(w:World)(g:Nat)(ks:List Kd)(ag:Bool)(v:Kd)(l:List (List Value)):Prop where
 obj:∃ es clock,w.heap[g]? =some (.map es clock)/\es.toList.map (fun e=>(e.key,e.val))=l.map (aK4 ag ks.length)/\Go.MapKept.Stamped es clock
 ok:∀ r∈l,S1 (ks++[v]) r
def aC2(J:Env):List Value->List Ins->List Value
 | cs,[]=>cs
 | cs,x::l=>cs.take x.pos++((Sy.u9 J x.t).c.flatten++aC2 J (cs.drop x.pos) l)
def insOk(J:Env)(l:List Ins):Prop:=∀ x∈l,(Sy.u9 J x.t).c.length=x.n/\∀ r∈(Sy.u9 J x.t).c,S1 x.lv r
def W4(l:List UInt8):List Value:=l.map fun b=> .int .u8 (b.toNat:Int)
structure RowB(w:World)(g c:Nat)(ty:TypeId)(own:Bool)(l:List UInt8):Prop where
 row:c≠0->∃(cur:Array Value) (fr:Nat × Nat),w.heap[g]? =some (.cells cur ty fr)/\(fr=(0,0)\/own=false/\c<=fr.1)/\cur.size=c/\c<=maxLen/\cur.toList.take l.length=W4 l
 len:l.length<=c
def aI4(N:Bn):List C->Nat->Prop
 | [.ptr fl _],g=>(N fl).testBit g=true
 | _,_=>False
theorem bC5{J:Env}{N N':Bn}{cs:List C}(h:A5 J N' cs=A5 J N cs):aI4 N' cs=aI4 N cs:=by
 funext g;unfold aI4;split
 .rename_i fl o;injection h with h _;injection h with h;injection h with h;injection h with h _;rw[h]
 .rfl
def BkOk(J:Env)(N:Bn)(w:World)(b:Bk):Prop:=
 match b.str with
 | none=>match b.x with
   | .no=>Blk w (N b.l) b.ty (A5 J N b.cs)
   | .tab lv t=>RowT w (N b.l) (N (b.l+1)) b.ty lv (Sy.u9 J t).c
   | .arr ins=>Blk w (N b.l) b.ty (aC2 J (A5 J N b.cs) ins)/\insOk J ins
   | .mp ks ag v t=>MapT w (N b.l) ks ag v (Sy.u9 J t).c
   | .al t=>N (b.l+1)=0/\(A5 J N b.cs=[.pointer (some ⟨(Sy.u9 J t).i.toNat,0,none⟩)]\/A5 J N b.cs=[mkV .sls (Sy.u9 J t)])
   | .own k t=>(J.o k).P w (N b.l) (aI4 N b.cs) (Sy.u9 J t).c
 | some s=>RowB w (N b.l) (N (b.l+1)) b.ty b.cs.isEmpty (Sy.u9 J s).s.data.toList
def Bk.L4(b:Bk):Bool:=b.str.isSome||(b.x.ae6||b.x.cZ1)
def Bk.G0(N:Bn)(b:Bk):Prop:=b.L4=false\/N (b.l+1)≠0
theorem Bk.dS1{b:Bk}(h:b.str=none)(hx:b.x= .no)(N:Bn):b.G0 N:= .inl (by unfold Bk.L4;rw[h,hx];rfl)
section
variable{J:Env}{N N':Bn}{w w':World}{b:Bk}
def Bk.own(b:Bk):Bool:=b.str.isNone&&b.x.isOwn
def fp(N:Bn)(b:Bk)(g:Nat):Prop:=g=N b.l\/(b.own=true/\aI4 N b.cs g)
def apart(N:Bn)(x y:Bk):Prop:=∀ g,fp N x g->¬fp N y g
theorem I4(N:Bn)(b:Bk):fp N b (N b.l):= .inl rfl
theorem Q9{N:Bn}{b:Bk}(h:b.own=false){g:Nat}(hg:fp N b g):g=N b.l:=hg.resolve_right fun q=>by rw[h]at q;cases q.1
theorem apart.ne{N:Bn}{x y:Bk}(h:apart N x y):N x.l≠N y.l:=fun e=>h _ (I4 N x) (e ▸ I4 N y)
theorem apart.b91{N:Bn}{x y:Bk}(h:apart N x y):apart N y x:=fun g hy hx=>h g hx hy
theorem apart.of{N:Bn}{x y:Bk}(hx:x.own=false)(hy:y.own=false)(h:N x.l≠N y.l):apart N x y:=fun g gx gy=>h ((Q9 hx gx).symm.trans (Q9 hy gy))
theorem bb0{b:Bk}(h:b.x.isOwn=false):b.own=false:=by unfold Bk.own;rw[h];simp
theorem Z9{J:Env}{N N':Bn}{b:Bk}(h1:N' b.l=N b.l)(h3:A5 J N' b.cs=A5 J N b.cs)(g:Nat):fp N' b g↔fp N b g:=by
 unfold fp;rw[h1,bC5 h3]
theorem apart.bM1{J:Env}{N N':Bn}{x y:Bk}(h:apart N x y)(h1:N' x.l=N x.l)(h2:A5 J N' x.cs=A5 J N x.cs)(h3:N' y.l=N y.l)(h4:A5 J N' y.cs=A5 J N y.cs):apart N' x y:=
 fun g hx hy=>h g ((Z9 h1 h2 g).1 hx) ((Z9 h3 h4 g).1 hy)
theorem bA0{N:Bn}{b:Bk}(ho:b.own=true):b.G0 N:=by
 unfold Bk.own at ho;rw[m5]at ho;refine .inl ?_;unfold Bk.L4;rw[Option.isNone_iff_eq_none.1 ho.1];have h2:=ho.2;cases hx:b.x<;>rw[hx]at h2<;>first|rfl|exact Bool.noConfusion (show false=true from h2)
theorem BkOk.ax9(h:BkOk J N w b)(hr:b.G0 N){g:Nat}(hg:fp N b g):g<w.heap.size:=by
 have up:∀{i:Nat} {o:Obj},w.heap[i]? =some o->i<w.heap.size:=fun{i o} ho=>by
  rcases Nat.lt_or_ge i w.heap.size with hlt|hge
  .exact hlt
  .rw[Array.getElem?_eq_none hge]at ho;cases ho
 unfold BkOk at h;cases hs:b.str with
 | none=>
   rw[hs]at h;cases hx:b.x with
   | no=>rw[hx]at h;rw[Q9 (bb0 (by rw[hx];rfl)) hg];exact up h
   | tab lv t=>
     rw[hx]at h;obtain⟨cur,hc,_⟩:=h.row (hr.resolve_left (by unfold Bk.L4;rw[hs,hx];simp[Xt.ae6]));rw[Q9 (bb0 (by rw[hx];rfl)) hg];exact up hc
   | arr ins=>rw[hx]at h;rw[Q9 (bb0 (by rw[hx];rfl)) hg];exact up h.1
   | mp ks ag v t=>
     rw[hx]at h;obtain⟨es,clock,ho,_⟩:=h.obj;rw[Q9 (bb0 (by rw[hx];rfl)) hg];exact up ho
   | own k t=>
     rw[hx]at h;rcases hg with rfl|⟨_,hg⟩
     .exact(J.o k).lt h _ ((J.o k).root h)
     .exact(J.o k).lt h _ hg
   | al t=>
     rw[hx]at h;exact absurd h.1 (hr.resolve_left (by unfold Bk.L4;rw[hs,hx];simp[Xt.cZ1]))
 | some s=>
   rw[hs]at h;obtain⟨cur,fr,hc,_⟩:=h.row (hr.resolve_left (by unfold Bk.L4;rw[hs];simp));rw[Q9 (by unfold Bk.own;rw[hs];rfl) hg];exact up hc
theorem BkOk.lt(h:BkOk J N w b)(hr:b.G0 N):N b.l<w.heap.size:=h.ax9 hr (I4 N b)
theorem BkOk.bD0(h:BkOk J N w b)(hk:b.G0 N->∀ g,fp N b g->g<w.heap.size->w'.heap[g]? =w.heap[g]?):BkOk J N w' b:=by
 have hl:=h;unfold BkOk at h ⊢;cases hs:b.str with
 | none=>
   rw[hs]at h;cases hx:b.x with
   | no=>rw[hx]at h;have hr:=Bk.dS1 hs hx N;exact(hk hr _ (I4 N b) (hl.lt hr)).trans h
   | tab lv t=>
     rw[hx]at h;refine⟨fun hc=>?_,h.len,h.ok⟩;obtain⟨cur,h1,h2⟩:=h.row hc;exact⟨cur,(hk (.inr hc) _ (I4 N b) (hl.lt (.inr hc))).trans h1,h2⟩
   | arr ins=>
     rw[hx]at h;have hr:b.G0 N:= .inl bI;exact⟨(hk hr _ (I4 N b) (hl.lt hr)).trans h.1,h.2⟩
   | mp ks ag v t=>
     rw[hx]at h;obtain⟨es,clock,ho,he⟩:=h.obj;have hr:b.G0 N:= .inl bI;exact⟨⟨es,clock,(hk hr _ (I4 N b) (hl.lt hr)).trans ho,he⟩,h.ok⟩
   | own k t=>
     rw[hx]at h;have hr:b.G0 N:= .inl bI;exact(J.o k).keep h fun i hi=>hk hr i (.inr ⟨by unfold Bk.own;rw[hs,hx];rfl,hi⟩) ((J.o k).lt h i hi)
   | al t=>rw[hx]at h;exact h
 | some s=>
   rw[hs]at h;refine⟨fun hc=>?_,h.len⟩;obtain⟨cur,fr,h1,h2⟩:=h.row hc;exact⟨cur,fr,(hk (.inr hc) _ (I4 N b) (hl.lt (.inr hc))).trans h1,h2⟩
theorem BkOk.cZ4(h:BkOk J N w b)(hb:Below w.heap.size w w'):BkOk J N w' b:=h.bD0 fun hr g _ hg=>hb.block _ hg
theorem BkOk.cZ5(h:BkOk J N w b)(o:Obj):BkOk J N (w.alloc o) b:=h.bD0 fun hr g _ hg=>Below.heap_alloc w o _ hg
theorem BkOk.dI8(h:BkOk J N w b):BkOk J N w.drew b:=h.bD0 fun _ _ _ _=>rfl
theorem BkOk.at7(h:BkOk J N w b)(h1:N' b.l=N b.l)(h2:b.L4=true->N' (b.l+1)=N (b.l+1))(h3:A5 J N' b.cs=A5 J N b.cs):BkOk J N' w b:=by
 unfold BkOk at h ⊢;cases hs:b.str with
 | none=>
   rw[hs]at h;cases hx:b.x with
   | no=>rw[hx]at h;simp only[]at h ⊢;rw[h1,h3];exact h
   | tab lv t=>rw[hx]at h;simp only[]at h ⊢;rw[h1,h2 bI];exact h
   | arr ins=>rw[hx]at h;simp only[]at h ⊢;rw[h1,h3];exact h
   | mp ks ag v t=>rw[hx]at h;simp only[]at h ⊢;rw[h1];exact h
   | own k t=>rw[hx]at h;simp only[]at h ⊢;rw[h1,bC5 h3];exact h
   | al t=>rw[hx]at h;simp only[]at h ⊢;rw[h2 bI,h3];exact h
 | some s=>rw[hs]at h;simp only[]at h ⊢;rw[h1,h2 (by unfold Bk.L4;rw[hs];rfl)];exact h
end
structure St where
 tm:List SV
 hp:List Bk
 cx:Cx
 nx:Nat
 deriving Repr,Inhabited
structure Md(J:Env)(S:Nat->Prop)(w0:World)(N0:Bn)(n0:Nat)(s:St)(N:Bn)(a:Act)(w:World):Prop where
 act:a=⟨(s.tm.map (SV.A1 J N)).toArray,[]⟩
 hp:∀ b∈s.hp,BkOk J N w b
 ne:∀ x∈s.hp,∀ y∈s.hp,x.l≠y.l->x.G0 N->y.G0 N->apart N x y
 may:∀ b∈s.hp,b.rw=true->b.G0 N->∀ g,fp N b g->S g\/w0.heap.size<=g
 cx:s.cx.ok J
 only:Only S w0 w
 old:∀ l,l<n0->N l=N0 l
section
variable{J:Env}{S:Nat->Prop}{w0 w:World}{N0:Bn}{n0:Nat}{s:St}{N:Bn}{a:Act}
theorem Md.neq(h:Md J S w0 N0 n0 s N a w):∀ x∈s.hp,∀ y∈s.hp,x.l≠y.l->x.G0 N->y.G0 N->N x.l≠N y.l:=fun x hx y hy hne h1 h2=>(h.ne x hx y hy hne h1 h2).ne
theorem Md.ar5(h:Md J S w0 N0 n0 s N a w):∀ b∈s.hp,b.rw=true->b.G0 N->S (N b.l)\/w0.heap.size<=N b.l:=fun b hb hw hr=>h.may b hb hw hr _ (I4 N b)
end
def ofC:Value->Option C
 | .int k n=>some (.int k (.il n))
 | .bool b=>some (.bool (.bl b))
 | .string s=>some (.str (.sl s.data.toList))
 | .pointer none=>some .nptr
 | .slice none 0 0=>some .nslc
 | .map none=>some .nmap
 | .func (.func f) first captured=>if first.size=0/\captured.size=0 then some (.fn f [])else none
 | _=>none
theorem b56{J:Env}{N:Bn}{v:Value}{x:C}(h:ofC v=some x):x.G2 J N=v:=by
 unfold ofC at h;split at h<;>first
  | (injection h with h;subst h;exact rfl)
  | skip
 .split at h
  .rename_i f first captured q
   injection h with h;subst h;have e1:first=#[]:=Array.eq_empty_of_size_eq_zero q.1
   have e2:captured=#[]:=Array.eq_empty_of_size_eq_zero q.2;subst e1 e2;rfl
  .cases h
 .cases h
def bG7:List Value->Option (List C)
 | []=>some []
 | v::l=>match ofC v,bG7 l with
   | some x,some xs=>some (x::xs)
   | _,_=>none
theorem al5{J:Env}{N:Bn}:∀{l:List Value} {xs:List C},bG7 l=some xs->A5 J N xs=l
 | [],xs,h=>by injection h with h;subst h;exact rfl
 | v::l,xs,h=>by
   simp only[bG7]at h;split at h
   .rename_i x ys h1 h2;injection h with h;subst h;have a:=b56 (J:=J) (N:=N) h1;have b:=al5 (J:=J) (N:=N) h2;simp only[A5,aW]at b ⊢;rw[a,b]
   .cases h
def ofV(v:Value):Option SV:=
 match ofC v with
 | some x=>some (.one (.c x))
 | none=>
   match v with
   | .agg cs=>(bG7 cs.toList).map fun l=> .one (.agg l)
   | .tuple vs=>if vs.size=0 then some (.tup [])else none
   | _=>none
theorem eG2{J:Env}{N:Bn}{v:Value}{x:SV}(h:ofV v=some x):x.A1 J N=v:=by
 unfold ofV at h;split at h
 .rename_i y q;injection h with h;subst h;exact b56 q
 .split at h
  .rename_i cs _;cases hq:bG7 cs.toList with
   | none=>rw[hq]at h;cases h
   | some l=>
     rw[hq]at h;injection h with h;subst h;show Value.agg (A5 J N l).toArray=_;rw[al5 (J:=J) (N:=N) hq]
  .split at h
   .rename_i vs _ q;injection h with h;subst h;rw[Array.eq_empty_of_size_eq_zero q];rfl
   .cases h
  .cases h
def opd(tm:List SV):Operand->Option SV
 | .tmp t=>tm[t]?
 | .const v=>ofV v
 | .func f=>some (.one (.c (.fn f [])))
 | .global _=>none
def aE3:SV:= .tup []
theorem a93(J:Env)(N:Bn):aE3.A1 J N=undef:=rfl
section
variable{J:Env}{S:Nat->Prop}{w0 w:World}{N0:Bn}{n0:Nat}{s:St}{N:Bn}{a:Act}
theorem Md.opd(h:Md J S w0 N0 n0 s N a w){x:Operand}{v:SV}(hx:opd s.tm x=some v):a.eval x=v.A1 J N:=by
 cases x with
 | tmp t=>
   change s.tm[t]? =some v at hx;rw[h.act];show((s.tm.map (SV.A1 J N)).toArray).getD t undef=_;simp[hx]
 | const c=>exact(eG2 (J:=J) (N:=N) (show ofV c=some v from hx)).symm
 | global g=>cases hx
 | func f=>
   change some _=some v at hx;injection hx with hx;subst hx;rfl
def cT9(tm:List SV)(d:Option Tmp)(v:SV):List SV:=
 match d with
 | some d=>tm.set d v
 | none=>tm
theorem cK2(tm:List SV)(d:Option Tmp)(v:SV):(⟨(tm.map (SV.A1 J N)).toArray,[]⟩:Act).put d (v.A1 J N)=⟨((cT9 tm d v).map (SV.A1 J N)).toArray,[]⟩:=by
 cases d with
 | none=>rfl
 | some d=>simp[Act.put,cT9,List.map_set]
def St.put(s:St)(d:Option Tmp)(v:SV):St:= { s with tm:=cT9 s.tm d v }
theorem Md.put(h:Md J S w0 N0 n0 s N a w)(d:Option Tmp)(v:SV):Md J S w0 N0 n0 (s.put d v) N (a.put d (v.A1 J N)) w:=
 ⟨by rw[h.act];exact cK2 _ _ _,h.hp,h.ne,h.may,h.cx,h.only,h.old⟩
def St.aL6(s:St)(t:Tm):St:= { s with cx:=s.cx.dR9 t }
theorem Md.ao2(h:Md J S w0 N0 n0 s N a w){t:Tm}(ht:(Sy.u9 J t).b=true):Md J S w0 N0 n0 (s.aL6 t) N a w:=
 ⟨h.act,h.hp,h.ne,h.may,Cx.dI7 h.cx ht,h.only,h.old⟩
def aD0(l:Nat):List Bk->Option Bk
 | []=>none
 | b::bs=>if Nat.beq b.l l then some b else aD0 l bs
theorem U4{l:Nat}:∀{hp:List Bk} {b:Bk},aD0 l hp=some b->b∈hp/\b.l=l
 | [],b,h=>by cases h
 | x::hp,b,h=>by
   simp only[aD0]at h;split at h
   .rename_i q;injection h with h;subst h;exact⟨ae ..,af q⟩
   .have:=U4 h;exact⟨aj _ this.1,this.2⟩
end
abbrev qaa:SV:= .one (.c (.bool l6))
abbrev qad:SV:= .one (.c (.int .i64 i9))
abbrev qal:SV:= .one (.c (.bool l4))
abbrev qas:SV:= .one (.c (.int .i64 l9))
abbrev qbd:SV:= .one (.c (.int .i64 u0))
abbrev qbe:SV:= .one (.c (.int .i64 s8))
abbrev qbu:SV:= .one (.c (.int .i64 (.il 10)))
abbrev qcj:SV:= .one (.c (.int .i64 (.il 6)))
abbrev qc9:SV:= .one (.c (.ptr 0 0))
abbrev qdz:SV:= .one (.c (.int .i64 m8))
abbrev qeo:SV:= .one (.c (.int .i64 (.il 17)))
abbrev qep:SV:= .one (.c (.int .i64 (.il 3)))
abbrev qfn:SV:= .one (.c (.ptr 4 0))
end Sy
end Go.Proofs.YtnlcpcmdlcakgaaGreat
