/- A part of the proof that a connection answers as the document says: CnH CnJ CnK. -/
import Derived.Test.YtnlcpcmdlcakgaaGreatKh26
set_option maxRecDepth 100000
set_option maxHeartbeats 4000000
set_option linter.unusedVariables false
set_option linter.unusedSimpArgs false
set_option linter.unusedSectionVars false
open Go.Proofs.Tryz
namespace Go.Proofs.YtnlcpcmdlcakgaaGreat
open Go.RowKit Sy
structure Pa where
 o:Nat
 Fo:List Nat
 i:Nat
 t:Nat
 w:Nat
 r:Nat
 cr:Nat
def ah7(n:Nat):Value:= .pointer (some ⟨n,0,none⟩)
def aU1(c:Cn)(a:Pa)(n:Nat):List Value:=[.int .u32 c.la, .int .i64 c.lp, .int .u32 c.ra, .int .i64 c.rp, .int .i64 c.st, .int .i64 c.why,ah7 a.o,if c.has then ah7 a.i else .pointer none, .int .u32 c.iss, .int .u32 c.irs, .int .i64 c.own, .int .i64 c.mss, .int .i64 c.wnd, .int .i64 c.wat, .int .i64 c.wak,ah7 a.t,if c.has then ah7 a.w else .pointer none, .int .i64 c.now, .int .i64 c.clk, .int .i64 c.gone, .int .i64 c.same, .int .i64 c.ends, .bool c.owed, .bool c.again, .bool c.prb, .bool c.shut, .int .i64 c.meas, .int .i64 c.wen,aC9 a.r a.cr n]
def X4(a:Pa)(g:Nat)(has:Bool):List Nat:=g::(a.Fo++(a.t::((if has then [a.i,a.w]else [])++(if a.cr=0 then []else [a.r]))))
structure PcW(w:World)(g:Nat)(a:Pa)(X:Cs):Prop where
 root:Blk w g 72 (aU1 X.c a X.R.length)
 out:OuP w a.o a.Fo X.c.ou
 tm:TmP w a.t X.c.mean X.c.spr X.c.dbl
 inq:X.c.has=true->InP w a.i X.c.rd X.c.fin X.L
 win:X.c.has=true->Blk w a.w 137 (aO4 X.c.cm X.c.cz X.c.cs)
 tab:RowT w a.r a.cr 22 [.int .u32] (Y3 X.R)
 nd:(X4 a g X.c.has).Nodup
def PcP(w:World)(g:Nat)(F:List Nat)(X:Cs):Prop:=∃ a,PcW w g a X/\F=X4 a g X.c.has
def aS4(w w':World)(g:Nat)(F:List Nat)(X':Cs):Prop:=∃ F',PcP w' g F' X'/\Only (fun i=>i∈F) w w'/\∀ i∈F',i∈F\/w.heap.size<=i
def ah8(l n:Nat)(has:Bool)(ts:List Tm)(R:Tm):Bk:=⟨l,72,[.int .u32 (tj ts 0), .int .i64 (tj ts 1), .int .u32 (tj ts 2), .int .i64 (tj ts 3), .int .i64 (tj ts 4), .int .i64 (tj ts 5), .ptr n 0,if has then .ptr (n+6) 0 else .nptr, .int .u32 (tj ts 6), .int .u32 (tj ts 7), .int .i64 (tj ts 8), .int .i64 (tj ts 9), .int .i64 (tj ts 10), .int .i64 (tj ts 11), .int .i64 (tj ts 12), .ptr (n+2) 0,if has then .ptr (n+8) 0 else .nptr, .int .i64 (tj ts 13), .int .i64 (tj ts 14), .int .i64 (tj ts 15), .int .i64 (tj ts 16), .int .i64 (tj ts 17), .bool (tj ts 18), .bool (tj ts 19), .bool (tj ts 20), .bool (tj ts 23), .int .i64 (tj ts 21), .int .i64 (tj ts 22), .slt (n+4) 1 i9 (aB4 ab8 R) i9],true,none, .no⟩
def aU2(n:Nat)(has:Bool)(ts:List Tm)(L R:Tm):List Bk:=
 ownB n (n+1) 0 110 (ouT (tj ts 27) (tj ts 23) (tj ts 24) (tj ts 25) (tj ts 26))::ownB (n+2) (n+3) 2 120 (tmC (tj ts 31) (tj ts 32) (tj ts 33))::⟨n+4,22,[],true,none, .tab [.int .u32] R⟩::
  (if has then [ownB (n+6) (n+7) 1 132 (ac7 (tj ts 29) (tj ts 30) L),av0 (n+8) 137 (tj ts 34) (tj ts 35) (tj ts 36)]else [])
def V0(N:Bn)(n:Nat)(a:Pa):Bn:=fun k=>if k<n then N k else if k=n then a.o else if k=n+1 then X3 a.Fo else if k=n+2 then a.t else if k=n+3 then X3 [a.t]else if k=n+4 then a.r else if k=n+5 then a.cr else if k=n+6 then a.i else if k=n+7 then X3 [a.i]else a.w
section
variable(N:Bn)(n:Nat)(a:Pa)
theorem a30{k:Nat}(h:k<n):V0 N n a k=N k:=if_pos h
theorem cN8:V0 N n a n=a.o:=by unfold V0;rw[if_neg U,if_pos rfl]
theorem dL8:V0 N n a (n+1)=X3 a.Fo:=by unfold V0;rw[if_neg U,if_neg U,if_pos rfl]
theorem cN7:V0 N n a (n+2)=a.t:=by unfold V0;rw[if_neg U,if_neg U,if_neg U,if_pos rfl]
theorem dL7:V0 N n a (n+3)=X3 [a.t]:=by unfold V0;rw[if_neg U,if_neg U,if_neg U,if_neg U,if_pos rfl]
theorem cN6:V0 N n a (n+4)=a.r:=by unfold V0;rw[if_neg U,if_neg U,if_neg U,if_neg U,if_neg U,if_pos rfl]
theorem cN5:V0 N n a (n+5)=a.cr:=by unfold V0;rw[if_neg U,if_neg U,if_neg U,if_neg U,if_neg U,if_neg U,if_pos rfl]
theorem cN4:V0 N n a (n+6)=a.i:=by unfold V0;rw[if_neg U,if_neg U,if_neg U,if_neg U,if_neg U,if_neg U,if_neg U,if_pos rfl]
theorem dL6:V0 N n a (n+7)=X3 [a.i]:=by unfold V0;rw[if_neg U,if_neg U,if_neg U,if_neg U,if_neg U,if_neg U,if_neg U,if_neg U,if_pos rfl]
theorem cN3:V0 N n a (n+8)=a.w:=by unfold V0;rw[if_neg U,if_neg U,if_neg U,if_neg U,if_neg U,if_neg U,if_neg U,if_neg U,if_neg U]
end
structure PaD(a:Pa)(g:Nat)(has:Bool):Prop where
 go:g∉a.Fo
 gt:g≠a.t
 to:a.t∉a.Fo
 r:a.cr≠0->a.r≠g/\a.r∉a.Fo/\a.r≠a.t
 h:has=true->(a.i≠g/\a.i∉a.Fo/\a.i≠a.t)/\(a.w≠g/\a.w∉a.Fo/\a.w≠a.t)/\a.i≠a.w/\(a.cr≠0->a.r≠a.i/\a.r≠a.w)
theorem paD{a:Pa}{g:Nat}{has:Bool}(h:(X4 a g has).Nodup):PaD a g has:=by
 unfold X4 at h;rw[List.nodup_cons,List.nodup_append,List.nodup_cons]at h;obtain⟨h1,h2,⟨h3,h4⟩,h5⟩:=h;simp only[aC,aa,not_or]at h1 h3 h5;refine⟨h1.1,h1.2.1,fun q=>h5 _ q _ (.inl rfl) rfl,fun hc=>?_,fun hh=>?_⟩
 .have hr:a.r∈(if a.cr=0 then []else [a.r]):=by rw[if_neg hc];exact ae ..
  exact⟨fun e=>h1.2.2.2 (e ▸ hr),fun q=>h5 _ q _ (.inr (.inr hr)) rfl,fun e=>h3.2 (e ▸ hr)⟩
 .subst hh;rw[if_pos rfl]at h1 h3 h4 h5;rw[List.nodup_append,List.nodup_cons]at h4;obtain⟨⟨h6,h7⟩,h8,h9⟩:=h4;simp only[aa,aY,or_false,not_or]at h1 h3 h6;have hi:a.i∈[a.i,a.w]:=ae ..;have hw:a.w∈[a.i,a.w]:=aj _ (ae ..);refine⟨⟨fun e=>h1.2.2.1.1 e.symm,fun q=>h5 _ q _ (.inr (.inl hi)) rfl,fun e=>h3.1.1 e.symm⟩,⟨fun e=>h1.2.2.1.2 e.symm,fun q=>h5 _ q _ (.inr (.inl hw)) rfl,fun e=>h3.1.2 e.symm⟩,h6,fun hc=>?_⟩;have hr:a.r∈(if a.cr=0 then []else [a.r]):=by rw[if_neg hc];exact ae ..
  exact⟨fun e=>h9 _ hi _ hr e.symm,fun e=>h9 _ hw _ hr e.symm⟩
theorem cg8{a:Pa}{g:Nat}{has:Bool}(D:PaD a g has)(ho:a.Fo.Nodup):(X4 a g has).Nodup:=by
 obtain⟨d1,d2,d3,d4,d5⟩:=D;unfold X4;rw[List.nodup_cons,List.nodup_append,List.nodup_cons];have key:∀ x,x∈(if has then [a.i,a.w]else [])++(if a.cr=0 then []else [a.r])->x≠g/\x∉a.Fo/\x≠a.t:=by
  intro x hx;rcases aC.1 hx with hx|hx
  .split at hx
   .rename_i hh;obtain⟨e1,e2,_⟩:=d5 hh;simp only[aa,aY,or_false]at hx;rcases hx with rfl|rfl
    .exact e1
    .exact e2
   .cases hx
  .split at hx
   .cases hx
   .rename_i hc;rw[ah.1 hx];exact d4 hc
 refine⟨fun q=>?_,ho,⟨fun q=>(key _ q).2.2 rfl,?_⟩,fun x hx y hy e=>?_⟩
 .rcases aC.1 q with q|q
  .exact d1 q
  .rcases aa.1 q with q|q
   .exact d2 q
   .exact(key _ q).1 rfl
 .cases has with
  | false=>
    show(([]:List Nat)++_).Nodup;rw[List.nil_append];split
    .exact List.nodup_nil
    .simp
  | true=>
    obtain⟨e1,e2,e3,e4⟩:=d5 rfl;show([a.i,a.w]++_).Nodup;rw[List.nodup_append];refine⟨by simp[e3],?_,fun x hx y hy e=>?_⟩
    .split
     .exact List.nodup_nil
     .simp
    .split at hy
     .cases hy
     .rename_i hc;obtain⟨q1,q2⟩:=e4 hc;rw[ah.1 hy]at e;simp only[aa,aY,or_false]at hx;rcases hx with rfl|rfl
      .exact q1 e.symm
      .exact q2 e.symm
 .subst e;rcases aa.1 hy with rfl|hy
  .exact d3 hx
  .exact(key _ hy).2.1 hx
theorem ao7{N:Bn}{l fl j:Nat}{ty:TypeId}{t:Tm}{F:List Nat}(h:N fl=X3 F)(hr:N l∈F)(k:Nat):fp N (ownB l fl j ty t) k↔k∈F:=by
 constructor
 .rintro(e|⟨_,e⟩)
  .rw[e];exact hr
  .change(N fl).testBit k=true at e;rw[h,ad7]at e;exact e
 .intro e;refine .inr ⟨rfl,?_⟩;show(N fl).testBit k=true;rw[h,ad7];exact e
structure Tells(J:Env)(has:Bool)(ts:List Tm)(L R:Tm)(X:Cs):Prop where
 c:∀ a n,aU1 (cnT J ts) a n=aU1 X.c a n
 hb:(u9 J (tj ts 28)).b=has
 xhas:X.c.has=has
 ou:(cnT J ts).ou=X.c.ou
 tm:(cnT J ts).mean=X.c.mean/\(cnT J ts).spr=X.c.spr/\(cnT J ts).dbl=X.c.dbl
 inq:has=true->(cnT J ts).rd=X.c.rd/\(cnT J ts).fin=X.c.fin/\(u9 J L).c=X.L
 win:has=true->(cnT J ts).cm=X.c.cm/\(cnT J ts).cz=X.c.cz/\(cnT J ts).cs=X.c.cs
 R:(u9 J R).c=Y3 X.R
theorem aT8(l:List Int):(Y3 l).length=l.length:=aE ..
section
variable{J:Env}(hO:J.o=cnO){w:World}{N:Bn}{l n:Nat}{a:Pa}{X:Cs}{has:Bool}{ts:List Tm}{L R:Tm}
theorem bf4(hl:l<n)(T:Tells J has ts L R X)(W:PcW w (N l) a X):BkOk J (V0 N n a) w (ah8 l n has ts R):=by
 have e0:V0 N n a l=N l:=a30 N n a hl;have hR:(u9 J (aB4 ab8 R)).i.toNat=X.R.length:=by
  rw[aH1 (al6 J),T.R,aT8];rfl
 have:=W.root;rw[<-T.c]at this;have hh:(cnT J ts).has=has:=T.hb;show Blk w (V0 N n a l) 72 (A5 J (V0 N n a) _);rw[e0];refine this.ad2 ?_;unfold aU1;rw[hh];have p0:C.G2 J (V0 N n a) (.ptr n 0)=ah7 a.o:=by show Value.pointer (some ⟨V0 N n a n,0,none⟩)=_;rw[cN8];rfl
 have p2:C.G2 J (V0 N n a) (.ptr (n+2) 0)=ah7 a.t:=by show Value.pointer (some ⟨V0 N n a (n+2),0,none⟩)=_;rw[cN7];rfl
 have p6:C.G2 J (V0 N n a) (if has then .ptr (n+6) 0 else .nptr)=if has=true then ah7 a.i else .pointer none:=by
  cases has
  .rfl
  .show Value.pointer (some ⟨V0 N n a (n+6),0,none⟩)=_;rw[cN4];rfl
 have p8:C.G2 J (V0 N n a) (if has then .ptr (n+8) 0 else .nptr)=if has=true then ah7 a.w else .pointer none:=by
  cases has
  .rfl
  .show Value.pointer (some ⟨V0 N n a (n+8),0,none⟩)=_;rw[cN3];rfl
 have p4:C.G2 J (V0 N n a) (.slt (n+4) 1 i9 (aB4 ab8 R) i9)=aC9 a.r a.cr X.R.length:=by
  rw[aE6,cN6,show n+4+1=n+5 from rfl,cN5,hR];exact aD2 _ _ _ _
 show _=[.int .u32 (u9 J (tj ts 0)).i, .int .i64 (u9 J (tj ts 1)).i, .int .u32 (u9 J (tj ts 2)).i, .int .i64 (u9 J (tj ts 3)).i, .int .i64 (u9 J (tj ts 4)).i, .int .i64 (u9 J (tj ts 5)).i,C.G2 J (V0 N n a) (.ptr n 0),C.G2 J (V0 N n a) (if has then .ptr (n+6) 0 else .nptr), .int .u32 (u9 J (tj ts 6)).i, .int .u32 (u9 J (tj ts 7)).i, .int .i64 (u9 J (tj ts 8)).i, .int .i64 (u9 J (tj ts 9)).i, .int .i64 (u9 J (tj ts 10)).i, .int .i64 (u9 J (tj ts 11)).i, .int .i64 (u9 J (tj ts 12)).i,C.G2 J (V0 N n a) (.ptr (n+2) 0),C.G2 J (V0 N n a) (if has then .ptr (n+8) 0 else .nptr), .int .i64 (u9 J (tj ts 13)).i, .int .i64 (u9 J (tj ts 14)).i, .int .i64 (u9 J (tj ts 15)).i, .int .i64 (u9 J (tj ts 16)).i, .int .i64 (u9 J (tj ts 17)).i, .bool (u9 J (tj ts 18)).b, .bool (u9 J (tj ts 19)).b, .bool (u9 J (tj ts 20)).b, .bool (u9 J (tj ts 23)).b, .int .i64 (u9 J (tj ts 21)).i, .int .i64 (u9 J (tj ts 22)).i,C.G2 J (V0 N n a) (.slt (n+4) 1 i9 (aB4 ab8 R) i9)];rw[p0,p2,p4,p6,p8];rfl
include hO
theorem bi1(T:Tells J has ts L R X){g:Nat}(W:PcW w g a X):∀ b∈aU2 n has ts L R,BkOk J (V0 N n a) w b:=by
 intro b hb;unfold aU2 at hb;rcases aa.1 hb with rfl|hb
 .show(J.o 0).P w (V0 N n a n) (fun i=>(V0 N n a (n+1)).testBit i=true) _;rw[hO,cN8,dL8,ai4];have e:aM5 ((u9 J (ouT (tj ts 27) (tj ts 23) (tj ts 24) (tj ts 25) (tj ts 26))).c.headD [])=X.c.ou:=T.ou;refine⟨a.Fo,?_,fun i=>Iff.rfl⟩;rw[e];exact W.out
 rcases aa.1 hb with rfl|hb
 .show(J.o 2).P w (V0 N n a (n+2)) (fun i=>(V0 N n a (n+3)).testBit i=true) _;rw[hO,cN7,dL7,ai4];refine⟨?_,fun i=>ah⟩;have:=W.tm;rw[<-T.tm.1,<-T.tm.2.1,<-T.tm.2.2]at this;exact this
 rcases aa.1 hb with rfl|hb
 .show RowT w (V0 N n a (n+4)) (V0 N n a (n+4+1)) 22 [.int .u32] (u9 J R).c;rw[cN6,show n+4+1=n+5 from rfl,cN5,T.R];exact W.tab
 split at hb
 .rename_i hh;have hx:X.c.has=true:=T.xhas.trans hh;rcases aa.1 hb with rfl|hb
  .show(J.o 1).P w (V0 N n a (n+6)) (fun i=>(V0 N n a (n+7)).testBit i=true) _;rw[hO,cN4,dL6,ai4];refine⟨?_,fun i=>ah⟩;have:=W.inq hx;rw[<-(T.inq hh).1,<-(T.inq hh).2.1,<-(T.inq hh).2.2]at this;exact this
  .rw[ah.1 hb];show Blk w (V0 N n a (n+8)) 137 [.int .i64 (cnT J ts).cm, .int .i64 (cnT J ts).cz, .int .i64 (cnT J ts).cs];rw[cN3,(T.win hh).1,(T.win hh).2.1,(T.win hh).2.2];exact W.win hx
 .cases hb
omit hO
theorem bi3(ho:a.o∈a.Fo){b:Bk}(hb:b∈aU2 n has ts L R)(hr:b.G0 (V0 N n a)){k:Nat}(hk:fp (V0 N n a) b k):
 (b.l=n/\k∈a.Fo)\/(b.l=n+2/\k=a.t)\/(b.l=n+4/\k=a.r/\a.cr≠0)\/(has=true/\((b.l=n+6/\k=a.i)\/(b.l=n+8/\k=a.w))):=by
 unfold aU2 at hb;rcases aa.1 hb with rfl|hb
 .exact .inl ⟨rfl,(ao7 (dL8 N n a) (by rw[cN8];exact ho) k).1 hk⟩
 rcases aa.1 hb with rfl|hb
 .exact .inr (.inl ⟨rfl,ah.1 ((ao7 (dL7 N n a) (by rw[cN7];exact ah.2 rfl) k).1 hk)⟩)
 rcases aa.1 hb with rfl|hb
 .have e:=Q9 (show Bk.own ⟨n+4,22,[],true,none, .tab [.int .u32] R⟩=false from rfl) hk;have hc:V0 N n a (n+5)≠0:=hr.resolve_left fun e=>Bool.noConfusion (show true=false from e)
  rw[cN5]at hc;exact .inr (.inr (.inl ⟨rfl,e.trans (cN6 N n a),hc⟩))
 split at hb
 .rename_i hh;rcases aa.1 hb with rfl|hb
  .exact .inr (.inr (.inr ⟨hh, .inl ⟨rfl,ah.1 ((ao7 (dL6 N n a) (by rw[cN4];exact ah.2 rfl) k).1 hk)⟩⟩))
  .rw[ah.1 hb]at hk ⊢;have e:=Q9 (show Bk.own (av0 (n+8) 137 (tj ts 34) (tj ts 35) (tj ts 36))=false from rfl) hk;exact .inr (.inr (.inr ⟨hh, .inr ⟨rfl,e.trans (cN3 N n a)⟩⟩))
 .cases hb
theorem a38(ho:a.o∈a.Fo){g:Nat}{b:Bk}(hb:b∈aU2 n has ts L R)(hr:b.G0 (V0 N n a)){k:Nat}(hk:fp (V0 N n a) b k):k∈X4 a g has/\(PaD a g has->k≠g):=by
 unfold X4;rcases bi3 ho hb hr hk with⟨_,h⟩|⟨_,h⟩|⟨_,h,hc⟩|⟨hh,h⟩
 .exact⟨aj _ (aX _ h),fun D e=>D.go (e ▸ h)⟩
 .exact⟨aj _ (aV _ (h ▸ ae ..)),fun D e=>D.gt (e.symm.trans h)⟩
 .refine⟨aj _ (aV _ (aj _ (aV _ ?_))),fun D e=>(D.r hc).1 (h.symm.trans e)⟩;rw[if_neg hc,h];exact ah.2 rfl
 .refine⟨aj _ (aV _ (aj _ (aX _ ?_))),fun D e=>?_⟩
  .rw[if_pos hh];rcases h with⟨_,h⟩|⟨_,h⟩
   .rw[h];exact ae ..
   .rw[h];exact aj _ (ae ..)
  .obtain⟨d1,d2,_⟩:=D.h hh;rcases h with⟨_,h⟩|⟨_,h⟩
   .exact d1.1 (h.symm.trans e)
   .exact d2.1 (h.symm.trans e)
theorem bi2(ho:a.o∈a.Fo){g:Nat}(D:PaD a g has):∀ x∈aU2 n has ts L R,∀ y∈aU2 n has ts L R,x.l≠y.l->x.G0 (V0 N n a)->y.G0 (V0 N n a)->apart (V0 N n a) x y:=by
 intro x hx y hy hxy rx ry k kx ky;rcases bi3 ho hx rx kx with⟨a1,h⟩|⟨a1,h⟩|⟨a1,h,hc⟩|⟨hh,⟨a1,h⟩|⟨a1,h⟩⟩<;>rcases bi3 ho hy ry ky with⟨b1,h'⟩|⟨b1,h'⟩|⟨b1,h',hc'⟩|⟨hh',⟨b1,h'⟩|⟨b1,h'⟩⟩;all_goals first
  | exact hxy (a1.trans b1.symm)
  | (subst h;exact D.to h')
  | (subst h';exact D.to h)
  | (subst h;exact(D.r hc).2.1 h')
  | (subst h';exact(D.r hc').2.1 h)
  | exact(D.r hc).2.2 (h.symm.trans h')
  | exact(D.r hc').2.2 (h'.symm.trans h)
  | (subst h;exact(D.h hh).1.2.1 h')
  | (subst h';exact(D.h hh').1.2.1 h)
  | (subst h;exact(D.h hh).2.1.2.1 h')
  | (subst h';exact(D.h hh').2.1.2.1 h)
  | exact(D.h hh).1.2.2 (h.symm.trans h')
  | exact(D.h hh').1.2.2 (h'.symm.trans h)
  | exact(D.h hh).2.1.2.2 (h.symm.trans h')
  | exact(D.h hh').2.1.2.2 (h'.symm.trans h)
  | exact(D.h hh).2.2.1 (h.symm.trans h')
  | exact(D.h hh).2.2.1 (h'.symm.trans h)
  | exact((D.h hh').2.2.2 hc).1 (h.symm.trans h')
  | exact((D.h hh').2.2.2 hc).2 (h.symm.trans h')
  | exact((D.h hh).2.2.2 hc').1 (h'.symm.trans h)
  | exact((D.h hh).2.2.2 hc').2 (h'.symm.trans h)
end
def aT3:Tm->Tm
 | .ap _ _ Y _=>Y
 | t=>t
def cL8(s:Sy.St):C->Option (List Tm × List Nat × Tm)
 | .slt l m off len an=>match aD0 l s.hp with
   | some b=>if b.rw then(bf0 s.cx s.hp 22 [.int .u32] (.slt l m off len an)).map fun x=>(x.1,[x.2.1],x.2.2)else none
   | none=>none
 | .nslc=>some ([],[],tn)
 | _=>none
structure Cr where
 has:Bool
 ts:List Tm
 L:Tm
 R:Tm
 ms:List Tm
 drops:List Nat
 Y:Tm
def ad3:List Nat->Bool
 | []=>true
 | x::l=> !(aS3 x l)&&ad3 l
def crP(s:Sy.St)(l:Nat):Option Cr:=match aD0 l s.hp with
 | some ⟨_,ty,[.int .u32 t0, .int .i64 t1, .int .u32 t2, .int .i64 t3, .int .i64 t4, .int .i64 t5, .ptr lo 0,ci, .int .u32 t6, .int .u32 t7, .int .i64 t8, .int .i64 t9, .int .i64 t10, .int .i64 t11, .int .i64 t12, .ptr lt 0,cw, .int .i64 t13, .int .i64 t14, .int .i64 t15, .int .i64 t16, .int .i64 t17, .bool t18, .bool t19, .bool t20, .bool t23, .int .i64 t21, .int .i64 t22,rs],true,none, .no⟩=>
   match ouC s lo,tmG s lt,cL8 s rs with
   | some (tyo,flo,a,b,u,c,z),some (tyt,flt,m,p,d),some (ms,dr,R)=>
     if Nat.beq ty 72&&(E7 t23 b&&Nat.blt (l+1) s.nx)then
      match ci,cw with
      | .ptr li 0, .ptr lw 0=>match bh3 s li,a62 137 s lw with
        | some (tyi,fli,r,f,L),some (cm,cz,cp)=>if ad3 (l::lo::lt::li::lw::dr)then some ⟨true,[t0,t1,t2,t3,t4,t5,t6,t7,t8,t9,t10,t11,t12,t13,t14,t15,t16,t17,t18,t19,t20,t21,t22,b,u,c,z,a, .bl true,r,f,m,p,d,cm,cz,cp,S0 37 (aT3 t0)],L,R,ms,lo::lt::li::lw::dr,aT3 t0⟩else none
        | _,_=>none
      | .nptr, .nptr=>if ad3 (l::lo::lt::dr)then some ⟨false,[t0,t1,t2,t3,t4,t5,t6,t7,t8,t9,t10,t11,t12,t13,t14,t15,t16,t17,t18,t19,t20,t21,t22,b,u,c,z,a, .bl false,S0 29 (aT3 t0),S0 30 (aT3 t0),m,p,d,S0 34 (aT3 t0),S0 35 (aT3 t0),S0 36 (aT3 t0),S0 37 (aT3 t0)], .cv 1,R,ms,lo::lt::dr,aT3 t0⟩else none
      | _,_=>none
     else none
   | _,_,_=>none
 | _=>none
def rsL(l:Rws):List Int:=l.map fun r=>z9 r 0
theorem bW6{l:Rws}(h:∀ r∈l,S1 [.int .u32] r):Y3 (rsL l)=l:=by
 unfold Y3 rsL;rw[List.map_map];refine(aG fun r hr=>?_).trans (List.map_id l);obtain⟨v,r',rfl,⟨n,rfl,_⟩,h2⟩:=ci4 (h r hr);rw[cz5 h2];rfl
structure CrOk(J:Env)(N:Bn)(w:World)(s:Sy.St)(l:Nat)(rd:Cr)(a:Pa):Prop where
 W:PcW w (N l) a ⟨cnT J rd.ts,(u9 J rd.L).c,rsL (u9 J rd.R).c⟩
 has:(cnT J rd.ts).has=rd.has
 R:Y3 (rsL (u9 J rd.R).c)=(u9 J rd.R).c
 cov:∀ k∈X4 a (N l) rd.has,k=N l\/∃ d∈s.hp,aS3 d.l rd.drops=true/\d.rw=true/\d.G0 N/\fp N d k
 root:∃ d∈s.hp,d.l=l/\d.L4=false/\d.own=false/\d.rw=true
 lt:l+1<s.nx
theorem bI7{J:Env}{N:Bn}{w:World}{s:Sy.St}(hb:∀ b∈s.hp,BkOk J N w b)(hc:s.cx.ok J){rs:C}{ms:List Tm}{dr:List Nat}{R:Tm}(h:cL8 s rs=some (ms,dr,R))(hm:Sy.Met J ms):
 ∃ r cr,C.G2 J N rs=aC9 r cr (u9 J R).c.length/\RowT w r cr 22 [.int .u32] (u9 J R).c/\(cr≠0->∃ d∈s.hp,dr=[d.l]/\d.G0 N/\r=N d.l/\d.own=false/\d.rw=true):=by
 unfold cL8 at h;split at h
 .rename_i l m off len an;split at h
  case h_2=>cases h
  rename_i b0 hf0;split at h
  case isFalse=>cases h
  rename_i hrw0;cases ht:bf0 s.cx s.hp 22 [.int .u32] (.slt l m off len an)with
  | none=>rw[ht]at h;cases h
  | some x=>
    obtain⟨m',l',t'⟩:=x;rw[ht]at h;injection h with h;injection h with h1 h;injection h with h2 h3;subst h1 h2 h3;have e:=cD1 hb hc ht hm;obtain⟨⟨_,_,_,_⟩,e1,e2⟩:=e;obtain⟨el,d,hd,hdl,hdn,hdw⟩:l'=l/\∃ d∈s.hp,d.l=l'/\d.L4=true/\d.rw=true:=by
     unfold bf0 at ht;simp only[hf0]at ht;split at ht
     .rename_i lv' t2 hs hx;split at ht
      .injection ht with ht;injection ht with _ ht;injection ht with ht1 ht2;obtain⟨q1,q2⟩:=U4 hf0;exact⟨ht1.symm,b0,q1,q2.trans ht1,by unfold Bk.L4;rw[hs,hx];rfl,hrw0⟩
      .cases ht
     .cases ht
    refine⟨N l',N (l'+1),e1,e2,fun hcr=>⟨d,hd,by rw[hdl], .inr (by rw[hdl];exact hcr),by rw[hdl],?_,hdw⟩⟩;unfold Bk.own;unfold Bk.L4 at hdn;cases q:d.str with
    | some _=>rfl
    | none=>
      rw[q]at hdn;cases q2:d.x<;>first|rfl|(rw[q2]at hdn;cases hdn)
 .injection h with h;injection h with h1 h;injection h with h2 h3;subst h1 h2 h3;exact⟨0,0,rfl,RowT.bC7 ..,fun h=>absurd rfl h⟩
 .cases h
theorem ch1{w:World}{g:Nat}{F:List Nat}{o:Ou}(h:OuP w g F o):F.Nodup:=by
 obtain⟨gb,cap,bytes,base,h1,h2,h3,h4,rfl⟩:=h;unfold ouF;split
 .simp
 .rename_i hc;have:=h3 hc;simp[this]
theorem T4{x y:Nat}{l:List Nat}(h:ad3 (x::l)=true)(hy:aS3 y l=true):x≠y:=by
 unfold ad3 at h;rw[m5,aN]at h;intro e;rw[e,hy]at h;cases h.1
theorem aN9{x:Nat}{l:List Nat}(h:ad3 (x::l)=true):ad3 l=true:=by
 unfold ad3 at h;rw[m5]at h;exact h.2
theorem R5(x:Nat)(l:List Nat):aS3 x (x::l)=true:=by unfold aS3;rw[List.any_cons,Nat.beq_refl];rfl
theorem L2{x y:Nat}{l:List Nat}(h:aS3 x l=true):aS3 x (y::l)=true:=by unfold aS3 at h ⊢;rw[List.any_cons,h,Bool.or_true]
theorem fpO{N:Bn}{l fl j:Nat}{ty:TypeId}{t:Tm}{F:List Nat}(h:∀ i,(N fl).testBit i=true↔i∈F)(k:Nat)(hk:k∈F):fp N (ownB l fl j ty t) k:= .inr ⟨rfl,(h k).2 hk⟩
theorem ct5{J:Env}{N:Bn}{w:World}{ty:TypeId}{s:Sy.St}{l:Nat}{m z p:Tm}(h:a62 ty s l=some (m,z,p)):av0 l ty m z p∈s.hp:=by
 unfold a62 at h;split at h
 .rename_i l' ty' m' z' p' hf;split at h
  .rename_i q;injection h with h;injection h with h1 h;injection h with h2 h3;subst h1 h2 h3;obtain⟨hm,hl⟩:=U4 hf;have e:l'=l:=hl;subst e;have:=af q;subst this;exact hm
  .cases h
 .cases h
theorem bY9{J:Env}(hO:J.o=cnO){N:Bn}{w:World}{s:Sy.St}{l:Nat}{rd:Cr}(h:crP s l=some rd)(hc:s.cx.ok J)(hm:Sy.Met J rd.ms)(hb:∀ b∈s.hp,BkOk J N w b)(hne:∀ x∈s.hp,∀ y∈s.hp,x.l≠y.l->x.G0 N->y.G0 N->apart N x y):∃ a,CrOk J N w s l rd a:=by
 unfold crP at h;split at h
 .rename_i l0 ty t0 t1 t2 t3 t4 t5 lo ci t6 t7 t8 t9 t10 t11 t12 lt cw t13 t14 t15 t16 t17 t18 t19 t20 t23 t21 t22 rs hf;obtain⟨hm0,hl0⟩:=U4 hf;have hl0:l0=l:=hl0;subst hl0;split at h
  .rename_i tyo flo a b u c z tyt flt m p d ms dr R ho ht hr;split at h
   .rename_i q;rw[m5,m5]at q;obtain⟨q1,q2,q3⟩:=q;have e1:=af q1;subst e1;have e2:=H9 q2;subst e2;have hlt:l0+1<s.nx:=aB1 q3;obtain⟨Fo,O⟩:=bx9 hO ho hb;have T:=bV6 hO ht hb;have B0:=hb _ hm0;have ne_o:l0≠lo->apart N _ _:=fun q=>hne _ hm0 _ O.mem q (.inl rfl) (.inl rfl)
    have ne_t:l0≠lt->apart N _ _:=fun q=>hne _ hm0 _ T.mem q (.inl rfl) (.inl rfl)
    have ne_ot:lo≠lt->apart N _ _:=fun q=>hne _ O.mem _ T.mem q (.inl rfl) (.inl rfl)
    split at h
    .rename_i li lw;split at h
     .rename_i tyi fli r f L cm cz cp hi hw;split at h
      .rename_i hn;injection h with h;subst h;have I:=bJ8 hO hi hb;have Wm:=ct5 (J:=J) (N:=N) (w:=w) hw;have WB:=be4 hw hb;obtain⟨ra,rc,R1,R2,R3⟩:=bI7 hb hc hr hm;have n1:=aN9 hn;have n2:=aN9 n1;have n3:=aN9 n2;have n4:=aN9 n3;have a1:=ne_o (T4 hn (R5 ..));have a2:=ne_t (T4 hn (L2 (R5 ..)));have a3:=ne_ot (T4 n1 (R5 ..));have a4:=hne _ hm0 _ I.mem (T4 hn (L2 (L2 (R5 ..)))) (.inl rfl) (.inl rfl);have a5:=hne _ hm0 _ Wm (T4 hn (L2 (L2 (L2 (R5 ..))))) (.inl rfl) (.inl rfl);have a6:=hne _ O.mem _ I.mem (T4 n1 (L2 (R5 ..))) (.inl rfl) (.inl rfl);have a7:=hne _ O.mem _ Wm (T4 n1 (L2 (L2 (R5 ..)))) (.inl rfl) (.inl rfl);have a8:=hne _ T.mem _ I.mem (T4 n2 (R5 ..)) (.inl rfl) (.inl rfl);have a9:=hne _ T.mem _ Wm (T4 n2 (L2 (R5 ..))) (.inl rfl) (.inl rfl);have aA:=hne _ I.mem _ Wm (T4 n3 (R5 ..)) (.inl rfl) (.inl rfl);have D:PaD ⟨N lo,Fo,N li,N lt,N lw,ra,rc⟩ (N l0) true:=by
        refine⟨fun q=>a1 _ (I4 ..) (fpO O.F _ q),fun q=>a2 _ (I4 ..) (.inl q),fun q=>a3 _ (fpO O.F _ q) (I4 ..),fun hcr=>?_,fun _=>⟨⟨fun q=>a4 _ (.inl q) (I4 ..),fun q=>a6 _ (fpO O.F _ q) (I4 ..),fun q=>a8 _ (.inl q) (I4 ..)⟩,⟨fun q=>a5 _ (.inl q) (I4 ..),fun q=>a7 _ (fpO O.F _ q) (I4 ..),fun q=>a9 _ (.inl q) (I4 ..)⟩,fun q=>aA _ (I4 ..) (.inl q),fun hcr=>?_⟩⟩
        .obtain⟨db,hdb,hdr,hdre,hra,hdo,hdw⟩:=R3 hcr;have hra:ra=N db.l:=hra;rw[hdr]at hn n1 n2;have c1:=hne _ hm0 _ hdb (T4 hn (L2 (L2 (L2 (L2 (R5 ..)))))) (.inl rfl) hdre;have c2:=hne _ O.mem _ hdb (T4 n1 (L2 (L2 (L2 (R5 ..))))) (.inl rfl) hdre;have c3:=hne _ T.mem _ hdb (T4 n2 (L2 (L2 (R5 ..)))) (.inl rfl) hdre;exact⟨fun q=>c1 _ (I4 ..) (.inl (q.symm.trans hra)),fun q=>c2 _ (fpO O.F _ q) (.inl hra),fun q=>c3 _ (I4 ..) (.inl (q.symm.trans hra))⟩
        .obtain⟨db,hdb,hdr,hdre,hra,hdo,hdw⟩:=R3 hcr;have hra:ra=N db.l:=hra;rw[hdr]at n3 n4;have c4:=hne _ I.mem _ hdb (T4 n3 (L2 (R5 ..))) (.inl rfl) hdre;have c5:=hne _ Wm _ hdb (T4 n4 (R5 ..)) (.inl rfl) hdre;exact⟨fun q=>c4 _ (I4 ..) (.inl (q.symm.trans hra)),fun q=>c5 _ (I4 ..) (.inl (q.symm.trans hra))⟩
       have hRR:Y3 (rsL (u9 J R).c)=(u9 J R).c:=bW6 R2.ok;refine⟨⟨N lo,Fo,N li,N lt,N lw,ra,rc⟩,⟨?_,O.P,T.P,fun _=>I.P,fun _=>WB,by rw[hRR];exact R2,cg8 D (ch1 O.P)⟩,rfl,hRR,fun k hk=>?_,⟨_,hm0,rfl,rfl,rfl,rfl⟩,hlt⟩
       .have:Blk w (N l0) 72 (A5 J N _):=B0;refine this.ad2 ?_;have el:(rsL (u9 J R).c).length=(u9 J R).c.length:=aE ..;rw[el];show _=aU1 (cnT J _) _ _;unfold aU1;show _=[_,_,_,_,_,_,_,_,_,_,_,_,_,_,_,_,_,_,_,_,_,_,_,_,_,_,_,_,aC9 ra rc (u9 J R).c.length];rw[<-R1];rfl
       .unfold X4 at hk;rcases aa.1 hk with rfl|hk
        .exact .inl rfl
        refine .inr ?_;rcases aC.1 hk with hk|hk
        .exact⟨_,O.mem,R5 ..,rfl, .inl rfl,fpO O.F _ hk⟩
        rcases aa.1 hk with rfl|hk
        .exact⟨_,T.mem,L2 (R5 ..),rfl, .inl rfl,I4 ..⟩
        rcases aC.1 hk with hk|hk
        .rw[if_pos rfl]at hk;rcases aa.1 hk with rfl|hk
         .exact⟨_,I.mem,L2 (L2 (R5 ..)),rfl, .inl rfl,I4 ..⟩
         .rw[ah.1 hk];exact⟨_,Wm,L2 (L2 (L2 (R5 ..))),rfl, .inl rfl,I4 ..⟩
        .split at hk
         .cases hk
         .rename_i hcr;obtain⟨db,hdb,hdr,hdre,hra,hdo,hdw⟩:=R3 hcr;rw[ah.1 hk];rw[hdr];exact⟨db,hdb,L2 (L2 (L2 (L2 (R5 ..)))),hdw,hdre, .inl hra⟩
      .cases h
     .cases h
    .split at h
     .rename_i hn;injection h with h;subst h;obtain⟨ra,rc,R1,R2,R3⟩:=bI7 hb hc hr hm;have n1:=aN9 hn;have n2:=aN9 n1;have a1:=ne_o (T4 hn (R5 ..));have a2:=ne_t (T4 hn (L2 (R5 ..)));have a3:=ne_ot (T4 n1 (R5 ..));have D:PaD ⟨N lo,Fo,0,N lt,0,ra,rc⟩ (N l0) false:=by
       refine⟨fun q=>a1 _ (I4 ..) (fpO O.F _ q),fun q=>a2 _ (I4 ..) (.inl q),fun q=>a3 _ (fpO O.F _ q) (I4 ..),fun hcr=>?_,fun q=>bK⟩;obtain⟨db,hdb,hdr,hdre,hra,hdo,hdw⟩:=R3 hcr;have hra:ra=N db.l:=hra;rw[hdr]at hn n1 n2;have c1:=hne _ hm0 _ hdb (T4 hn (L2 (L2 (R5 ..)))) (.inl rfl) hdre;have c2:=hne _ O.mem _ hdb (T4 n1 (L2 (R5 ..))) (.inl rfl) hdre;have c3:=hne _ T.mem _ hdb (T4 n2 (R5 ..)) (.inl rfl) hdre;exact⟨fun q=>c1 _ (I4 ..) (.inl (q.symm.trans hra)),fun q=>c2 _ (fpO O.F _ q) (.inl hra),fun q=>c3 _ (I4 ..) (.inl (q.symm.trans hra))⟩
      have hRR:Y3 (rsL (u9 J R).c)=(u9 J R).c:=bW6 R2.ok;refine⟨⟨N lo,Fo,0,N lt,0,ra,rc⟩,⟨?_,O.P,T.P,fun q=>bK,fun q=>bK,by rw[hRR];exact R2,cg8 D (ch1 O.P)⟩,rfl,hRR,fun k hk=>?_,⟨_,hm0,rfl,rfl,rfl,rfl⟩,hlt⟩
      .have:Blk w (N l0) 72 (A5 J N _):=B0;refine this.ad2 ?_;have el:(rsL (u9 J R).c).length=(u9 J R).c.length:=aE ..;rw[el];show _=aU1 (cnT J _) _ _;unfold aU1;show _=[_,_,_,_,_,_,_,_,_,_,_,_,_,_,_,_,_,_,_,_,_,_,_,_,_,_,_,_,aC9 ra rc (u9 J R).c.length];rw[<-R1];rfl
      .unfold X4 at hk;rcases aa.1 hk with rfl|hk
       .exact .inl rfl
       refine .inr ?_;rcases aC.1 hk with hk|hk
       .exact⟨_,O.mem,R5 ..,rfl, .inl rfl,fpO O.F _ hk⟩
       rcases aa.1 hk with rfl|hk
       .exact⟨_,T.mem,L2 (R5 ..),rfl, .inl rfl,I4 ..⟩
       rcases aC.1 hk with hk|hk
       .cases hk
       .split at hk
        .cases hk
        .rename_i hcr;obtain⟨db,hdb,hdr,hdre,hra,hdo,hdw⟩:=R3 hcr;rw[ah.1 hk];rw[hdr];exact⟨db,hdb,L2 (L2 (R5 ..)),hdw,hdre, .inl hra⟩
     .cases h
    .cases h
   .cases h
  .cases h
 .cases h
def tsY(Y:Tm)(has:Bool):List Tm:=(ea8 Y).set 28 (.bl has)
def a12(l n:Nat)(has:Bool)(ts:List Tm)(L R:Tm):List Bk:=ah8 l n has ts R::aU2 n has ts L R
theorem bK2{J:Env}(hf:J.f=cnF){Y:Tm}{c:Cn}(hY:hd (u9 J Y)=K9 c){has:Bool}(hh:c.has=has):cnT J (tsY Y has)=c:=by
 have key:∀ j:Nat,u9 J (S0 (j:Int) Y)=⟨z9 (K9 c) j,Y5 (K9 c) j,aB8 (K9 c) j,[]⟩:=fun j=>by
  unfold S0;rw[F3 hf,<-hY];rfl
 obtain⟨x0,x1,x2,x3,x4,x5,x6,x7,x8,x9,x10,x11,x12,x13,x14,x15,x16,x17,x18,x19,x20,x21,x22,x23,x24,x25,x26,x27,x28,x29,x30,x31,x32,x33,x34,x35,x36,x37⟩:=c;have hh:x28=has:=hh;subst hh;show Cn.mk (u9 J (S0 ((0:Nat):Int) Y)).i (u9 J (S0 ((1:Nat):Int) Y)).i (u9 J (S0 ((2:Nat):Int) Y)).i (u9 J (S0 ((3:Nat):Int) Y)).i (u9 J (S0 ((4:Nat):Int) Y)).i (u9 J (S0 ((5:Nat):Int) Y)).i (u9 J (S0 ((6:Nat):Int) Y)).i (u9 J (S0 ((7:Nat):Int) Y)).i (u9 J (S0 ((8:Nat):Int) Y)).i (u9 J (S0 ((9:Nat):Int) Y)).i (u9 J (S0 ((10:Nat):Int) Y)).i (u9 J (S0 ((11:Nat):Int) Y)).i (u9 J (S0 ((12:Nat):Int) Y)).i (u9 J (S0 ((13:Nat):Int) Y)).i (u9 J (S0 ((14:Nat):Int) Y)).i (u9 J (S0 ((15:Nat):Int) Y)).i (u9 J (S0 ((16:Nat):Int) Y)).i (u9 J (S0 ((17:Nat):Int) Y)).i (u9 J (S0 ((18:Nat):Int) Y)).b (u9 J (S0 ((19:Nat):Int) Y)).b (u9 J (S0 ((20:Nat):Int) Y)).b (u9 J (S0 ((21:Nat):Int) Y)).i (u9 J (S0 ((22:Nat):Int) Y)).i (u9 J (S0 ((23:Nat):Int) Y)).b (u9 J (S0 ((24:Nat):Int) Y)).i (u9 J (S0 ((25:Nat):Int) Y)).i (u9 J (S0 ((26:Nat):Int) Y)).i (u9 J (S0 ((27:Nat):Int) Y)).s x28 (u9 J (S0 ((29:Nat):Int) Y)).i (u9 J (S0 ((30:Nat):Int) Y)).i (u9 J (S0 ((31:Nat):Int) Y)).i (u9 J (S0 ((32:Nat):Int) Y)).i (u9 J (S0 ((33:Nat):Int) Y)).i (u9 J (S0 ((34:Nat):Int) Y)).i (u9 J (S0 ((35:Nat):Int) Y)).i (u9 J (S0 ((36:Nat):Int) Y)).i (u9 J (S0 ((37:Nat):Int) Y)).i=_;simp only[key];rfl
theorem bV7{J:Env}(hf:J.f=cnF){Y L R:Tm}{X:Cs}{has:Bool}(hY:hd (u9 J Y)=K9 X.c)(hh:X.c.has=has)(hL:has=true->(u9 J L).c=X.L)(hR:(u9 J R).c=Y3 X.R):Tells J has (tsY Y has) L R X:=by
 have e:=bK2 hf hY hh;exact⟨fun a n=>by rw[e],rfl,hh,by rw[e],by rw[e];exact⟨rfl,rfl,rfl⟩,fun q=>by rw[e];exact⟨rfl,rfl,hL q⟩,fun _=>by rw[e];exact⟨rfl,rfl,rfl⟩,hR⟩
theorem PcW.oF{w:World}{g:Nat}{a:Pa}{X:Cs}(W:PcW w g a X):a.o∈a.Fo:=W.out.eK2
theorem cN0{J:Env}(hO:J.o=cnO){w:World}{g:Nat}{a:Pa}{X:Cs}(W:PcW w g a X){has:Bool}{ts:List Tm}{L R:Tm}(T:Tells J has ts L R X){cx:Cx}(hc:cx.ok J):
 Md J (fun i=>i∈X4 a g has) w (V0 (fun _=>g) 2 a) 12 ⟨[],a12 0 2 has ts L R,cx,12⟩ (V0 (fun _=>g) 2 a) ⟨#[],[]⟩ w:=by
 have hrt:V0 (fun _=>g) 2 a 0=g:=rfl;have nd:=W.nd;rw[T.xhas]at nd;have D:=paD nd;refine⟨rfl,fun b hb=>?_,fun x hx y hy hxy rx ry=>?_,fun b hb _ hr k hk=> .inl ?_,hc,Only.aF4 _ _,fun _ _=>rfl⟩
 .rcases aa.1 hb with rfl|hb
  .exact bf4 (N:=fun _=>g) (l:=0) bA T W
  .exact bi1 hO T W b hb
 .rcases aa.1 hx with rfl|hx<;>rcases aa.1 hy with rfl|hy
  .exact absurd rfl hxy
  .intro k kx ky;have e:=Q9 (show Bk.own (ah8 0 2 has ts R)=false from rfl) kx;exact(a38 W.oF hy ry ky).2 D (e.trans hrt)
  .intro k kx ky;have e:=Q9 (show Bk.own (ah8 0 2 has ts R)=false from rfl) ky;exact(a38 W.oF hx rx kx).2 D (e.trans hrt)
  .exact bi2 W.oF D x hx y hy hxy rx ry
 .rcases aa.1 hb with rfl|hb
  .have e:=Q9 (show Bk.own (ah8 0 2 has ts R)=false from rfl) hk;rw[show k=g from e.trans hrt];exact ae ..
  .exact(a38 (g:=g) W.oF hb hr hk).1
theorem bP7{J:Env}(hO:J.o=cnO){S:Nat->Prop}{w w':World}{N0 N:Bn}{n0:Nat}{bks:List Bk}(hH:Hp J S w N0 n0 bks N w'){l nx:Nat}{cx:Cx}{rd:Cr}(h:crP ⟨[],bks,cx,nx⟩ l=some rd)(hc:cx.ok J)(hm:Sy.Met J rd.ms)(hl:l<n0):
 ∃ a,CrOk J N w' ⟨[],bks,cx,nx⟩ l rd a/\N l=N0 l/\∀ i∈X4 a (N l) rd.has,S i\/w.heap.size<=i:=by
 obtain⟨a,K⟩:=bY9 hO h hc hm hH.hp hH.ne;refine⟨a,K,hH.old l hl,fun i hi=>?_⟩;rcases K.cov i hi with rfl|⟨d,hd,_,hw,hr,hf⟩
 .obtain⟨d,hd,hdl,hn,ho,hw⟩:=K.root;have:=hH.may d hd hw (.inl hn) _ (I4 N d);rw[hdl]at this;exact this
 .exact hH.may d hd hw hr i hf
theorem PcW.cZ7{w:World}{g:Nat}{a:Pa}{X X':Cs}(W:PcW w g a X)(h1:∀ n,aU1 X'.c a n=aU1 X.c a n)(h2:X'.c.ou=X.c.ou)(h3:X'.c.mean=X.c.mean/\X'.c.spr=X.c.spr/\X'.c.dbl=X.c.dbl)(h0:X'.c.has=X.c.has)
 (h4:X.c.has=true->X'.c.rd=X.c.rd/\X'.c.fin=X.c.fin/\X'.L=X.L) (h5:X.c.has=true->X'.c.cm=X.c.cm/\X'.c.cz=X.c.cz/\X'.c.cs=X.c.cs) (h6:X'.R=X.R):PcW w g a X':=by
 refine⟨?_,?_,?_,fun q=>?_,fun q=>?_,?_,?_⟩
 .rw[h1,h6];exact W.root
 .rw[h2];exact W.out
 .rw[h3.1,h3.2.1,h3.2.2];exact W.tm
 .rw[h0]at q;obtain⟨q1,q2,q3⟩:=h4 q;rw[q1,q2,q3];exact W.inq q
 .rw[h0]at q;obtain⟨q1,q2,q3⟩:=h5 q;rw[q1,q2,q3];exact W.win q
 .rw[h6];exact W.tab
 .rw[h0];exact W.nd
structure Gp where
 f:FuncId
 args:Cx->List SV->Option (List Tm × Tm × Tm)
 need:Cx->Bool->List Tm->Tm->Tm->Tm->List Tm
 has':Bool->Bool
 row:Tm->Tm->Tm->Tm->Tm
 L:Tm->Tm->Tm->Tm->Tm
 R:Tm->Tm->Tm->Tm->Tm->Tm
 ans:Tm->Tm->Tm->Tm->SV
 bs:Cx->Bool->Tm->Tm->Tm->Tm->List Bd
def dO3(G:Gp)(s:Sy.St):List SV->Option Did
 | .one (.c (.ptr l 0))::xs=>match crP s l,G.args s.cx xs with
   | some rd,some (m,y,z)=>if ah5 rd.Y then
      some ⟨rd.ms++(m++G.need s.cx rd.has rd.ts rd.R y z),rd.drops,[ah8 l s.nx (G.has' rd.has) (tsY (G.row (aM4 rd.Y rd.ts) rd.L y z) (G.has' rd.has)) (G.R (aM4 rd.Y rd.ts) rd.L rd.R y z)],aU2 s.nx (G.has' rd.has) (tsY (G.row (aM4 rd.Y rd.ts) rd.L y z) (G.has' rd.has)) (G.L (aM4 rd.Y rd.ts) rd.L y z) (G.R (aM4 rd.Y rd.ts) rd.L rd.R y z),
       G.ans (aM4 rd.Y rd.ts) rd.L y z,G.bs s.cx rd.has (aM4 rd.Y rd.ts) rd.L y z,none⟩
     else none
   | _,_=>none
 | _=>none
def af6(G:Gp):Sy.Spec:=R4 G.f (dO3 G)
theorem dx2{J:Env}(hO:J.o=cnO){N:Bn}{w w':World}{s:Sy.St}{l:Nat}{rd:Cr}{a:Pa}(K:CrOk J N w s l rd a){X':Cs}(hG:aS4 w w' (N l) (X4 a (N l) rd.has) X'){has':Bool}{ts':List Tm}{L' R':Tm}(T:Tells J has' ts' L' R' X'):
 ∃ N',(∀ k,k<s.nx->N' k=N k)/\Chg J N N' w w' s rd.drops [ah8 l s.nx has' ts' R'] (aU2 s.nx has' ts' L' R') none:=by
 obtain⟨F',⟨a',W,rfl⟩,ho,hf⟩:=hG;rw[T.xhas]at hf;have nd:=W.nd;rw[T.xhas]at nd;have D:=paD nd;have hl:l<s.nx:=by have:=K.lt;omega
 refine⟨V0 N s.nx a',fun k hk=>a30 _ _ _ hk,ho.aj6 fun i _ hi=>?_,fun k hk=>a30 _ _ _ hk,fun b hb=>?_,fun b hb=>bi1 hO T W b hb,fun b hb=>bG,fun b hb hr i hi=>?_,fun x hx y hy hxy rx ry=>bi2 W.oF D x hx y hy hxy rx ry,fun x hx b hb=>bG⟩
 .rcases K.cov i hi with rfl|⟨d,hd,hm,_,hr,hfp⟩
  .exact .inl ⟨_,ae ..,rfl⟩
  .exact .inr (.inl ⟨d,hd,aE0.1 hm,hr,hfp⟩)
 .rw[ah.1 hb];exact bf4 hl T W
 .obtain⟨h1,h2⟩:=a38 (g:=N l) W.oF hb hr hi;rcases hf i h1 with q|q
  .rcases K.cov i q with e|⟨d,hd,hm,_,hr,hfp⟩
   .exact absurd e (h2 D)
   .exact .inl ⟨d,hd,aE0.1 hm,hr,hfp⟩
  .exact .inr q
theorem a33{J:Env}(E:CnEnv J){G:Gp}(H:∀{cx:Cx} {xs:List SV} {m:List Tm} {y z:Tm} {has:Bool} {ts:List Tm} {Y L R:Tm} {X:Cs},cx.ok J->G.args cx xs=some (m,y,z)->Sy.Met J m->Sy.Met J (G.need cx has ts R y z)->cnT J ts=X.c->hd (u9 J Y)=K9 X.c->X.c.has=has->(u9 J L).c=X.L->(u9 J R).c=Y3 X.R->
 ∀{w:World} {g:Nat} {a:Pa},PcW w g a X->∀ N:Bn,X5 J (G.bs cx has Y L y z)/\(∀ N',(G.ans Y L y z).A1 J N'=(G.ans Y L y z).A1 J N)/\∃ X':Cs,hd (u9 J (G.row Y L y z))=K9 X'.c/\X'.c.has=G.has' has/\(G.has' has=true->(u9 J (G.L Y L y z)).c=X'.L)/\(u9 J (G.R Y L R y z)).c=Y3 X'.R/\
  Calls prog G.f (#[.pointer (some ⟨g,0,none⟩)]++(xs.map (SV.A1 J N)).toArray) w (F7 fun v w'=>v=(G.ans Y L y z).A1 J N/\aS4 w w' g (X4 a g has) X')):(af6 G).Ok prog J:=by
 refine U1 fun{s xs d} hs hc hm {N w} hb hne=>?_
 unfold dO3 at hs;split at hs
 .rename_i l xs;split at hs
  .rename_i rd m y z hr ha;split at hs
   .rename_i hY;injection hs with hs;subst hs;obtain⟨a,K⟩:=bY9 E.o hr hc hm.l hb hne;have hrow:=bP9 E (bO8 E hY) rd.ts;obtain⟨h1,h2,X',x1,x2,x3,x4,h3⟩:=H (has:=rd.has) (ts:=rd.ts) (R:=rd.R) hc ha hm.r.l hm.r.r rfl hrow K.has rfl K.R.symm K.W N;refine⟨h1,?_⟩;have e:((.one (.c (.ptr l 0))::xs).map (SV.A1 J N)).toArray=#[.pointer (some ⟨N l,0,none⟩)]++(xs.map (SV.A1 J N)).toArray:=by simp;rfl
    rw[e];refine h3.mono ?_;rintro e w' ⟨v,rfl,rfl,hG⟩;obtain⟨N',_,hC⟩:=dx2 E.o K hG (bV7 (L:=G.L (aM4 rd.Y rd.ts) rd.L y z) (R:=G.R (aM4 rd.Y rd.ts) rd.L rd.R y z) E.f x1 x2 x3 x4);exact⟨N',by rw[h2 N'],hC⟩
   .cases hs
  .cases hs
 .cases hs
end Go.Proofs.YtnlcpcmdlcakgaaGreat
