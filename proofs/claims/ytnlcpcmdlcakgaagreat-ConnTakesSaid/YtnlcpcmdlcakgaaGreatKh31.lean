/- A part of the proof that a connection answers as the document says: Cd1 Cd2 Co5 Cf3 Lp. -/
import Derived.Test.YtnlcpcmdlcakgaaGreatKh30
set_option maxRecDepth 100000
set_option maxHeartbeats 4000000
set_option linter.unusedVariables false
set_option linter.unusedSimpArgs false
set_option linter.unusedSectionVars false
open Go.Proofs.Tryz
namespace Go.Proofs.YtnlcpcmdlcakgaaGreat
open Go.RowKit Sy
structure Da where
 i:Nat
 Fi:List Nat
 t:Nat
 w:Nat
 r:Nat
 cr:Nat
def aJ4(c:Cn)(a:Da)(n:Nat):List Value:= .int .u32 c.la:: .int .i64 c.lp::[.int .u32 c.ra, .int .i64 c.rp, .int .i64 c.st, .int .i64 c.why, .string c.all, .bool c.shut, .int .i64 c.una, .int .i64 c.cur, .int .i64 c.snt,if c.has then ah7 a.i else .pointer none, .int .u32 c.iss, .int .u32 c.irs, .int .i64 c.own, .int .i64 c.mss, .int .i64 c.wnd, .int .i64 c.wat, .int .i64 c.wak,ah7 a.t,if c.has then ah7 a.w else .pointer none, .int .i64 c.now, .int .i64 c.ends, .bool (decide (0<=c.clk)), .int .i64 c.bgn, .int .i64 c.gone, .int .i64 c.same, .bool c.owed, .bool c.again, .bool c.prb, .int .i64 c.meas, .int .i64 c.wen,aC9 a.r a.cr n]
def Y8(a:Da)(g:Nat)(has:Bool):List Nat:=g::a.t::((if has then a.Fi++[a.w]else [])++(if a.cr=0 then []else [a.r]))
structure DaD(a:Da)(g:Nat)(has:Bool):Prop where
 gt:g≠a.t
 r:a.cr≠0->a.r≠g/\a.r≠a.t
 h:has=true->(g∉a.Fi/\a.t∉a.Fi)/\(a.w≠g/\a.w∉a.Fi/\a.w≠a.t)/\(a.cr≠0->a.r∉a.Fi/\a.r≠a.w)
structure DcW(w:World)(g:Nat)(a:Da)(X:Cs):Prop where
 root:Blk w g 58 (aJ4 X.c a X.R.length)
 tm:RtP w a.t X.c.mean X.c.spr X.c.dbl
 inq:X.c.has=true->RinP w a.i a.Fi X.c.rd X.c.fin X.L
 win:X.c.has=true->Blk w a.w 94 (aO4 X.c.cm X.c.cz X.c.cs)
 tab:RowT w a.r a.cr 22 [.int .u32] (Y3 X.R)
 nd:DaD a g X.c.has
def DcP(w:World)(g:Nat)(F:List Nat)(X:Cs):Prop:=∃ a,DcW w g a X/\F=Y8 a g X.c.has
def aS6(w w':World)(g:Nat)(F:List Nat)(X':Cs):Prop:=∃ F',DcP w' g F' X'/\Only (fun i=>i∈F) w w'/\∀ i∈F',i∈F\/w.heap.size<=i
def bE4(t:Tm):Tm:= .not (.lt t i9)
def bi0(t b:Tm):Tm:= .ite (.lt t i9) b t
def aX3(l n:Nat)(has:Bool)(ts:List Tm)(R:Tm):Bk:=⟨l,58, .int .u32 (tj ts 0):: .int .i64 (tj ts 1)::[.int .u32 (tj ts 2), .int .i64 (tj ts 3), .int .i64 (tj ts 4), .int .i64 (tj ts 5), .str (tj ts 27), .bool (tj ts 23), .int .i64 (tj ts 24), .int .i64 (tj ts 25), .int .i64 (tj ts 26),if has then .ptr (n+4) 0 else .nptr, .int .u32 (tj ts 6), .int .u32 (tj ts 7), .int .i64 (tj ts 8), .int .i64 (tj ts 9), .int .i64 (tj ts 10), .int .i64 (tj ts 11), .int .i64 (tj ts 12), .ptr n 0,if has then .ptr (n+6) 0 else .nptr, .int .i64 (tj ts 13), .int .i64 (tj ts 17), .bool (bE4 (tj ts 14)), .int .i64 (bi0 (tj ts 14) (tj ts 37)), .int .i64 (tj ts 15), .int .i64 (tj ts 16), .bool (tj ts 18), .bool (tj ts 19), .bool (tj ts 20), .int .i64 (tj ts 21), .int .i64 (tj ts 22), .slt (n+2) 1 i9 (aB4 ab8 R) i9],true,none, .no⟩
def aX4(n:Nat)(has:Bool)(ts:List Tm)(L R:Tm):List Bk:=
 ownB n (n+1) 4 101 (tmC (tj ts 31) (tj ts 32) (tj ts 33))::⟨n+2,22,[],true,none, .tab [.int .u32] R⟩::
  (if has then [ownB (n+4) (n+5) 3 135 (ac7 (tj ts 29) (tj ts 30) L),av0 (n+6) 94 (tj ts 34) (tj ts 35) (tj ts 36)]else [])
def X0(N:Bn)(n:Nat)(a:Da):Bn:=fun k=>if k<n then N k else if k=n then a.t else if k=n+1 then X3 [a.t]else if k=n+2 then a.r else if k=n+3 then a.cr else if k=n+4 then a.i else if k=n+5 then X3 a.Fi else a.w
section
variable(N:Bn)(n:Nat)(a:Da)
theorem ao9{k:Nat}(h:k<n):X0 N n a k=N k:=if_pos h
theorem cQ3:X0 N n a n=a.t:=by unfold X0;rw[if_neg U,if_pos rfl]
theorem dP6:X0 N n a (n+1)=X3 [a.t]:=by unfold X0;rw[if_neg U,if_neg U,if_pos rfl]
theorem cQ2:X0 N n a (n+2)=a.r:=by unfold X0;rw[if_neg U,if_neg U,if_neg U,if_pos rfl]
theorem cQ1:X0 N n a (n+3)=a.cr:=by unfold X0;rw[if_neg U,if_neg U,if_neg U,if_neg U,if_pos rfl]
theorem cQ0:X0 N n a (n+4)=a.i:=by unfold X0;rw[if_neg U,if_neg U,if_neg U,if_neg U,if_neg U,if_pos rfl]
theorem dP5:X0 N n a (n+5)=X3 a.Fi:=by unfold X0;rw[if_neg U,if_neg U,if_neg U,if_neg U,if_neg U,if_neg U,if_pos rfl]
theorem cP9:X0 N n a (n+6)=a.w:=by unfold X0;rw[if_neg U,if_neg U,if_neg U,if_neg U,if_neg U,if_neg U,if_neg U]
end
structure TellsD(J:Env)(has:Bool)(ts:List Tm)(L R:Tm)(X:Cs):Prop where
 c:∀ a n,aJ4 (cnT J ts) a n=aJ4 X.c a n
 hb:(u9 J (tj ts 28)).b=has
 xhas:X.c.has=has
 tm:(cnT J ts).mean=X.c.mean/\(cnT J ts).spr=X.c.spr/\(cnT J ts).dbl=X.c.dbl
 inq:has=true->(cnT J ts).rd=X.c.rd/\(cnT J ts).fin=X.c.fin/\(u9 J L).c=X.L
 win:has=true->(cnT J ts).cm=X.c.cm/\(cnT J ts).cz=X.c.cz/\(cnT J ts).cs=X.c.cs
 R:(u9 J R).c=Y3 X.R
theorem cc5{J:Env}(t:Tm):(u9 J (bE4 t)).b=decide (0<=(u9 J t).i):=by
 have h:((u9 J (bE4 t)).b=true)=(0<=(u9 J t).i):=by
  unfold bE4;rw[y9,A7,A0];exact propext U
 cases q:(u9 J (bE4 t)).b with
 | true=>rw[q]at h;exact(aD (h ▸ rfl)).symm
 | false=>rw[q]at h;exact(aH (by rw[<-h];decide)).symm
theorem cl3{J:Env}(t b:Tm):(u9 J (bi0 t b)).i=if(u9 J t).i<0 then(u9 J b).i else(u9 J t).i:=by
 unfold bi0;simp only[aD5,A7,A0]
section
variable{J:Env}(hO:J.o=cnO){w:World}{N:Bn}{l n:Nat}{a:Da}{X:Cs}{has:Bool}{ts:List Tm}{L R:Tm}
theorem a84(hl:l<n)(T:TellsD J has ts L R X)(W:DcW w (N l) a X):BkOk J (X0 N n a) w (aX3 l n has ts R):=by
 have e0:X0 N n a l=N l:=ao9 N n a hl;have hR:(u9 J (aB4 ab8 R)).i.toNat=X.R.length:=by
  rw[aH1 (al6 J),T.R,aT8];rfl
 have:=W.root;rw[<-T.c]at this;have hh:(cnT J ts).has=has:=T.hb;show Blk w (X0 N n a l) 58 (A5 J (X0 N n a) _);rw[e0];refine this.ad2 ?_;unfold aJ4;rw[hh];have p0:C.G2 J (X0 N n a) (.ptr n 0)=ah7 a.t:=by show Value.pointer (some ⟨X0 N n a n,0,none⟩)=_;rw[cQ3];rfl
 have p4:C.G2 J (X0 N n a) (if has then .ptr (n+4) 0 else .nptr)=if has=true then ah7 a.i else .pointer none:=by
  cases has
  .rfl
  .show Value.pointer (some ⟨X0 N n a (n+4),0,none⟩)=_;rw[cQ0];rfl
 have p6:C.G2 J (X0 N n a) (if has then .ptr (n+6) 0 else .nptr)=if has=true then ah7 a.w else .pointer none:=by
  cases has
  .rfl
  .show Value.pointer (some ⟨X0 N n a (n+6),0,none⟩)=_;rw[cP9];rfl
 have p2:C.G2 J (X0 N n a) (.slt (n+2) 1 i9 (aB4 ab8 R) i9)=aC9 a.r a.cr X.R.length:=by
  rw[aE6,cQ2,show n+2+1=n+3 from rfl,cQ1,hR];exact aD2 _ _ _ _
 have pr:C.G2 J (X0 N n a) (.bool (bE4 (tj ts 14)))= .bool (decide (0<=(cnT J ts).clk)):=by
  show Value.bool (u9 J (bE4 (tj ts 14))).b=_;rw[cc5];rfl
 have pb:C.G2 J (X0 N n a) (.int .i64 (bi0 (tj ts 14) (tj ts 37)))= .int .i64 (cnT J ts).bgn:=by
  show Value.int .i64 (u9 J (bi0 (tj ts 14) (tj ts 37))).i=_;rw[cl3];rfl
 show _= .int .u32 (u9 J (tj ts 0)).i:: .int .i64 (u9 J (tj ts 1)).i::[.int .u32 (u9 J (tj ts 2)).i, .int .i64 (u9 J (tj ts 3)).i, .int .i64 (u9 J (tj ts 4)).i, .int .i64 (u9 J (tj ts 5)).i, .string (u9 J (tj ts 27)).s, .bool (u9 J (tj ts 23)).b, .int .i64 (u9 J (tj ts 24)).i, .int .i64 (u9 J (tj ts 25)).i, .int .i64 (u9 J (tj ts 26)).i,C.G2 J (X0 N n a) (if has then .ptr (n+4) 0 else .nptr), .int .u32 (u9 J (tj ts 6)).i, .int .u32 (u9 J (tj ts 7)).i, .int .i64 (u9 J (tj ts 8)).i, .int .i64 (u9 J (tj ts 9)).i, .int .i64 (u9 J (tj ts 10)).i, .int .i64 (u9 J (tj ts 11)).i, .int .i64 (u9 J (tj ts 12)).i,C.G2 J (X0 N n a) (.ptr n 0),C.G2 J (X0 N n a) (if has then .ptr (n+6) 0 else .nptr), .int .i64 (u9 J (tj ts 13)).i, .int .i64 (u9 J (tj ts 17)).i,C.G2 J (X0 N n a) (.bool (bE4 (tj ts 14))),C.G2 J (X0 N n a) (.int .i64 (bi0 (tj ts 14) (tj ts 37))), .int .i64 (u9 J (tj ts 15)).i, .int .i64 (u9 J (tj ts 16)).i, .bool (u9 J (tj ts 18)).b, .bool (u9 J (tj ts 19)).b, .bool (u9 J (tj ts 20)).b, .int .i64 (u9 J (tj ts 21)).i, .int .i64 (u9 J (tj ts 22)).i,C.G2 J (X0 N n a) (.slt (n+2) 1 i9 (aB4 ab8 R) i9)];rw[p0,p2,p4,p6,pr,pb];rfl
include hO
theorem a86(T:TellsD J has ts L R X){g:Nat}(W:DcW w g a X):∀ b∈aX4 n has ts L R,BkOk J (X0 N n a) w b:=by
 intro b hb;unfold aX4 at hb;rcases aa.1 hb with rfl|hb
 .show(J.o 4).P w (X0 N n a n) (fun i=>(X0 N n a (n+1)).testBit i=true) _;rw[hO,cQ3,dP6,ai4];refine⟨?_,fun i=>ah⟩;have:=W.tm;rw[<-T.tm.1,<-T.tm.2.1,<-T.tm.2.2]at this;exact this
 rcases aa.1 hb with rfl|hb
 .show RowT w (X0 N n a (n+2)) (X0 N n a (n+2+1)) 22 [.int .u32] (u9 J R).c;rw[cQ2,show n+2+1=n+3 from rfl,cQ1,T.R];exact W.tab
 split at hb
 .rename_i hh;have hx:X.c.has=true:=T.xhas.trans hh;rcases aa.1 hb with rfl|hb
  .show(J.o 3).P w (X0 N n a (n+4)) (fun i=>(X0 N n a (n+5)).testBit i=true) _;rw[hO,cQ0,dP5,ai4];refine⟨a.Fi,?_,fun i=>Iff.rfl⟩;have:=W.inq hx;rw[<-(T.inq hh).1,<-(T.inq hh).2.1,<-(T.inq hh).2.2]at this;exact this
  .rw[ah.1 hb];show Blk w (X0 N n a (n+6)) 94 [.int .i64 (cnT J ts).cm, .int .i64 (cnT J ts).cz, .int .i64 (cnT J ts).cs];rw[cP9,(T.win hh).1,(T.win hh).2.1,(T.win hh).2.2];exact W.win hx
 .cases hb
omit hO
theorem bR1(hi:has=true->a.i∈a.Fi){b:Bk}(hb:b∈aX4 n has ts L R)(hr:b.G0 (X0 N n a)){k:Nat}(hk:fp (X0 N n a) b k):
 (b.l=n/\k=a.t)\/(b.l=n+2/\k=a.r/\a.cr≠0)\/(has=true/\((b.l=n+4/\k∈a.Fi)\/(b.l=n+6/\k=a.w))):=by
 unfold aX4 at hb;rcases aa.1 hb with rfl|hb
 .exact .inl ⟨rfl,ah.1 ((ao7 (dP6 N n a) (by rw[cQ3];exact ah.2 rfl) k).1 hk)⟩
 rcases aa.1 hb with rfl|hb
 .have e:=Q9 (show Bk.own ⟨n+2,22,[],true,none, .tab [.int .u32] R⟩=false from rfl) hk;have hc:X0 N n a (n+3)≠0:=hr.resolve_left fun e=>Bool.noConfusion (show true=false from e)
  rw[cQ1]at hc;exact .inr (.inl ⟨rfl,e.trans (cQ2 N n a),hc⟩)
 split at hb
 .rename_i hh;rcases aa.1 hb with rfl|hb
  .exact .inr (.inr ⟨hh, .inl ⟨rfl,(ao7 (dP5 N n a) (by rw[cQ0];exact hi hh) k).1 hk⟩⟩)
  .rw[ah.1 hb]at hk ⊢;have e:=Q9 (show Bk.own (av0 (n+6) 94 (tj ts 34) (tj ts 35) (tj ts 36))=false from rfl) hk;exact .inr (.inr ⟨hh, .inr ⟨rfl,e.trans (cP9 N n a)⟩⟩)
 .cases hb
theorem ab2(hi:has=true->a.i∈a.Fi){g:Nat}{b:Bk}(hb:b∈aX4 n has ts L R)(hr:b.G0 (X0 N n a)){k:Nat}(hk:fp (X0 N n a) b k):k∈Y8 a g has/\(DaD a g has->k≠g):=by
 unfold Y8;rcases bR1 hi hb hr hk with⟨_,h⟩|⟨_,h,hc⟩|⟨hh,h⟩
 .exact⟨aj _ (h ▸ ae ..),fun D e=>D.gt (e.symm.trans h)⟩
 .refine⟨aj _ (aj _ (aV _ ?_)),fun D e=>(D.r hc).1 (h.symm.trans e)⟩;rw[if_neg hc,h];exact ah.2 rfl
 .refine⟨aj _ (aj _ (aX _ ?_)),fun D e=>?_⟩
  .rw[if_pos hh];rcases h with⟨_,h⟩|⟨_,h⟩
   .exact aX _ h
   .rw[h];exact aV _ (ah.2 rfl)
  .obtain⟨d1,d2,_⟩:=D.h hh;rcases h with⟨_,h⟩|⟨_,h⟩
   .exact d1.1 (e ▸ h)
   .exact d2.1 (h.symm.trans e)
theorem a87(hi:has=true->a.i∈a.Fi){g:Nat}(D:DaD a g has):∀ x∈aX4 n has ts L R,∀ y∈aX4 n has ts L R,x.l≠y.l->x.G0 (X0 N n a)->y.G0 (X0 N n a)->apart (X0 N n a) x y:=by
 intro x hx y hy hxy rx ry k kx ky;rcases bR1 hi hx rx kx with⟨a1,h⟩|⟨a1,h,hc⟩|⟨hh,⟨a1,h⟩|⟨a1,h⟩⟩<;>rcases bR1 hi hy ry ky with⟨b1,h'⟩|⟨b1,h',hc'⟩|⟨hh',⟨b1,h'⟩|⟨b1,h'⟩⟩;all_goals first
  | exact hxy (a1.trans b1.symm)
  | exact(D.r hc).2 (h.symm.trans h')
  | exact(D.r hc').2 (h'.symm.trans h)
  | (subst h;exact(D.h hh').1.2 h')
  | (subst h';exact(D.h hh).1.2 h)
  | exact(D.h hh).2.1.2.2 (h.symm.trans h')
  | exact(D.h hh').2.1.2.2 (h'.symm.trans h)
  | (subst h;exact((D.h hh').2.2 hc).1 h')
  | (subst h';exact((D.h hh).2.2 hc').1 h)
  | exact((D.h hh').2.2 hc).2 (h.symm.trans h')
  | exact((D.h hh).2.2 hc').2 (h'.symm.trans h)
  | (subst h;exact(D.h hh).2.1.2.1 h')
  | (subst h';exact(D.h hh').2.1.2.1 h)
  | (subst h;exact(D.h hh').2.1.2.1 h')
  | (subst h';exact(D.h hh).2.1.2.1 h)
end
theorem DcW.iF{w:World}{g:Nat}{a:Da}{X:Cs}(W:DcW w g a X){has:Bool}(hh:X.c.has=has):has=true->a.i∈a.Fi:=fun h=>(W.inq (hh.trans h)).eJ8
def bP4(cx:Cx)(bt:Tm):Tm × Tm × List Tm:=match bt with
 | .ite (.lt x (.il 0)) b y=>if E7 x y then(x,b,F9 cx (.not (.lt x i9)))else(bt, .il 0,F9 cx (.le i9 bt))
 | _=>(bt, .il 0,F9 cx (.le i9 bt))
theorem dX8{J:Env}{cx:Cx}(hc:cx.ok J){bt:Tm}(hm:Sy.Met J (bP4 cx bt).2.2):0<=(u9 J (bP4 cx bt).1).i/\(u9 J bt).i=(u9 J (bP4 cx bt).1).i:=by
 unfold bP4 at hm ⊢;split at hm
 .rename_i x b y;split at hm
  .rename_i q;have e:=H9 q;subst e;have h:=z0 hc hm;rw[y9,A7,A0]at h;simp only[q,if_true];refine⟨by omega,?_⟩;rw[aD5,if_neg (by rw[A7,A0];exact h)]
  .rename_i q;have h:=B2 (z0 hc hm);simp only[q];exact⟨h,rfl⟩
 .have h:=B2 (z0 hc hm);exact⟨h,rfl⟩
def bx4(cx:Cx)(rt bt:Tm):Option (Tm × Tm × List Tm):=match F9 cx rt with
 | []=>some (bP4 cx bt)
 | _=>match F9 cx (.not rt)with
   | []=>some (.il (-1),bt,[])
   | _=>none
def cM2(cx:Cx)(rt bt:Tm):Option (Tm × Tm × List Tm):=match rt with
 | .not (.lt x (.il 0))=>match bt with
   | .ite (.lt x' (.il 0)) b y=>if E7 x x'&&E7 x y then some (x,b,[])else bx4 cx rt bt
   | _=>bx4 cx rt bt
 | _=>bx4 cx rt bt
theorem bf7{J:Env}{cx:Cx}(hc:cx.ok J){rt bt k b:Tm}{ms:List Tm}(h:bx4 cx rt bt=some (k,b,ms))(hm:Sy.Met J ms):(u9 J rt).b=decide (0<=(u9 J k).i)/\(u9 J bt).i=if(u9 J k).i<0 then(u9 J b).i else(u9 J k).i:=by
 unfold bx4 at h;split at h
 .rename_i q;injection h with h;have e:=z0 (J:=J) hc (t:=rt) (by rw[q];intro t ht;cases ht);have h1:(bP4 cx bt).1=k:=by rw[h]
  have h3:(bP4 cx bt).2.2=ms:=by rw[h]
  obtain⟨e2,e3⟩:=dX8 (bt:=bt) hc (by rw[h3];exact hm);rw[h1]at e2 e3;rw[e,aD e2,if_neg U];exact⟨rfl,e3⟩
 .split at h
  .rename_i q;injection h with h;injection h with h1 h;injection h with h2 h3;subst h1 h2 h3;have e:=z0 (J:=J) hc (t:= .not rt) (by rw[q];intro t ht;cases ht);rw[y9]at e;exact⟨bc.2 e,rfl⟩
  .cases h
theorem bx3{J:Env}{cx:Cx}(hc:cx.ok J){rt bt k b:Tm}{ms:List Tm}(h:cM2 cx rt bt=some (k,b,ms))(hm:Sy.Met J ms):(u9 J rt).b=decide (0<=(u9 J k).i)/\(u9 J bt).i=if(u9 J k).i<0 then(u9 J b).i else(u9 J k).i:=by
 unfold cM2 at h;split at h
 .rename_i x;split at h
  .rename_i x' b' y';split at h
   .rename_i q;rw[m5]at q;have e1:=H9 q.1;have e2:=H9 q.2;subst e1 e2;injection h with h;injection h with h1 h;injection h with h2 h3;subst h1 h2 h3;exact⟨cc5 x,cl3 x b'⟩
   .exact bf7 hc h hm
  .exact bf7 hc h hm
 .exact bf7 hc h hm
def crD(s:Sy.St)(l:Nat):Option Cr:=match aD0 l s.hp with
 | some ⟨_,ty, .int .u32 t0:: .int .i64 t1::[.int .u32 t2, .int .i64 t3, .int .i64 t4, .int .i64 t5, .str a, .bool b, .int .i64 u, .int .i64 c, .int .i64 z,ci, .int .u32 t6, .int .u32 t7, .int .i64 t8, .int .i64 t9, .int .i64 t10, .int .i64 t11, .int .i64 t12, .ptr lt 0,cw, .int .i64 t13, .int .i64 t17, .bool rt, .int .i64 bt, .int .i64 t15, .int .i64 t16, .bool t18, .bool t19, .bool t20, .int .i64 t21, .int .i64 t22,rs],true,none, .no⟩=>
   match rtG s lt,cL8 s rs,cM2 s.cx rt bt with
   | some (tyt,flt,m,p,d),some (ms,dr,R),some (k,bg,mk)=>
     if Nat.beq ty 58&&Nat.blt (l+1) s.nx then
      match ci,cw with
      | .ptr li 0, .ptr lw 0=>match bf5 s li,a62 94 s lw with
        | some (tyi,fli,r,f,L),some (cm,cz,cp)=>if ad3 (l::lt::li::lw::dr)then some ⟨true,[t0,t1,t2,t3,t4,t5,t6,t7,t8,t9,t10,t11,t12,t13,k,t15,t16,t17,t18,t19,t20,t21,t22,b,u,c,z,a, .bl true,r,f,m,p,d,cm,cz,cp,bg],L,R,ms++mk,lt::li::lw::dr,aT3 t0⟩else none
        | _,_=>none
      | .nptr, .nptr=>if ad3 (l::lt::dr)then some ⟨false,[t0,t1,t2,t3,t4,t5,t6,t7,t8,t9,t10,t11,t12,t13,k,t15,t16,t17,t18,t19,t20,t21,t22,b,u,c,z,a, .bl false,S0 29 (aT3 t0),S0 30 (aT3 t0),m,p,d,S0 34 (aT3 t0),S0 35 (aT3 t0),S0 36 (aT3 t0),bg], .cv 1,R,ms++mk,lt::dr,aT3 t0⟩else none
      | _,_=>none
     else none
   | _,_,_=>none
 | _=>none
structure CrOkD(J:Env)(N:Bn)(w:World)(s:Sy.St)(l:Nat)(rd:Cr)(a:Da):Prop where
 W:DcW w (N l) a ⟨cnT J rd.ts,(u9 J rd.L).c,rsL (u9 J rd.R).c⟩
 has:(cnT J rd.ts).has=rd.has
 R:Y3 (rsL (u9 J rd.R).c)=(u9 J rd.R).c
 cov:∀ k∈Y8 a (N l) rd.has,k=N l\/∃ d∈s.hp,aS3 d.l rd.drops=true/\d.rw=true/\d.G0 N/\fp N d k
 root:∃ d∈s.hp,d.l=l/\d.L4=false/\d.own=false/\d.rw=true
 lt:l+1<s.nx
theorem ct4{ty:TypeId}{s:Sy.St}{l:Nat}{m z p:Tm}(h:a62 ty s l=some (m,z,p)):av0 l ty m z p∈s.hp:=by
 unfold a62 at h;split at h
 .rename_i l' ty' m' z' p' hf;split at h
  .rename_i q;injection h with h;injection h with h1 h;injection h with h2 h3;subst h1 h2 h3;obtain⟨hm,hl⟩:=U4 hf;have e:l'=l:=hl;subst e;have:=af q;subst this;exact hm
  .cases h
 .cases h
theorem bZ0{J:Env}(hO:J.o=cnO){N:Bn}{w:World}{s:Sy.St}{l:Nat}{rd:Cr}(h:crD s l=some rd)(hc:s.cx.ok J)(hm:Sy.Met J rd.ms)(hb:∀ b∈s.hp,BkOk J N w b)(hne:∀ x∈s.hp,∀ y∈s.hp,x.l≠y.l->x.G0 N->y.G0 N->apart N x y):∃ a,CrOkD J N w s l rd a:=by
 unfold crD at h;split at h
 .rename_i l0 ty t0 t1 t2 t3 t4 t5 a b u c z ci t6 t7 t8 t9 t10 t11 t12 lt cw t13 t17 rt bt t15 t16 t18 t19 t20 t21 t22 rs hf;obtain⟨hm0,hl0⟩:=U4 hf;have hl0:l0=l:=hl0;subst hl0;split at h
  .rename_i tyt flt m p d ms dr R k0 bg mk ht hr hk0;split at h
   .rename_i q;rw[m5]at q;obtain⟨q1,q3⟩:=q;have e1:=af q1;subst e1;have hlt:l0+1<s.nx:=aB1 q3;have T:=bW5 hO ht hb;have B0:=hb _ hm0;have ne_t:l0≠lt->apart N _ _:=fun q=>hne _ hm0 _ T.mem q (.inl rfl) (.inl rfl)
    split at h
    .rename_i li lw;split at h
     .rename_i tyi fli r f L cm cz cp hi hw;split at h
      .rename_i hn;injection h with h;subst h;obtain⟨Fi,I⟩:=bI5 hO hi hb;have Wm:=ct4 hw;have WB:=be4 hw hb;obtain⟨ra,rc,R1,R2,R3⟩:=bI7 hb hc hr hm.l;obtain⟨K1,K2⟩:=bx3 hc hk0 hm.r;have n1:=aN9 hn;have n2:=aN9 n1;have n3:=aN9 n2;have a2:=ne_t (T4 hn (R5 ..));have a4:=hne _ hm0 _ I.mem (T4 hn (L2 (R5 ..))) (.inl rfl) (.inl rfl);have a5:=hne _ hm0 _ Wm (T4 hn (L2 (L2 (R5 ..)))) (.inl rfl) (.inl rfl);have a8:=hne _ T.mem _ I.mem (T4 n1 (R5 ..)) (.inl rfl) (.inl rfl);have a9:=hne _ T.mem _ Wm (T4 n1 (L2 (R5 ..))) (.inl rfl) (.inl rfl);have aA:=hne _ I.mem _ Wm (T4 n2 (R5 ..)) (.inl rfl) (.inl rfl);have D:DaD ⟨N li,Fi,N lt,N lw,ra,rc⟩ (N l0) true:=by
        refine⟨fun q=>a2 _ (I4 ..) (.inl q),fun hcr=>?_,fun _=>⟨⟨fun q=>a4 _ (I4 ..) (fpO I.F _ q),fun q=>a8 _ (I4 ..) (fpO I.F _ q)⟩,⟨fun q=>a5 _ (.inl q) (I4 ..),fun q=>aA _ (fpO I.F _ q) (I4 ..),fun q=>a9 _ (.inl q) (I4 ..)⟩,fun hcr=>?_⟩⟩
        .obtain⟨db,hdb,hdr,hdre,hra,hdo,hdw⟩:=R3 hcr;have hra:ra=N db.l:=hra;rw[hdr]at hn n1;have c1:=hne _ hm0 _ hdb (T4 hn (L2 (L2 (L2 (R5 ..))))) (.inl rfl) hdre;have c3:=hne _ T.mem _ hdb (T4 n1 (L2 (L2 (R5 ..)))) (.inl rfl) hdre;exact⟨fun q=>c1 _ (I4 ..) (.inl (q.symm.trans hra)),fun q=>c3 _ (I4 ..) (.inl (q.symm.trans hra))⟩
        .obtain⟨db,hdb,hdr,hdre,hra,hdo,hdw⟩:=R3 hcr;have hra:ra=N db.l:=hra;rw[hdr]at n2 n3;have c4:=hne _ I.mem _ hdb (T4 n2 (L2 (R5 ..))) (.inl rfl) hdre;have c5:=hne _ Wm _ hdb (T4 n3 (R5 ..)) (.inl rfl) hdre;exact⟨fun q=>c4 _ (fpO I.F _ q) (.inl hra),fun q=>c5 _ (I4 ..) (.inl (q.symm.trans hra))⟩
       have hRR:Y3 (rsL (u9 J R).c)=(u9 J R).c:=bW6 R2.ok;refine⟨⟨N li,Fi,N lt,N lw,ra,rc⟩,⟨?_,T.P,fun _=>I.P,fun _=>WB,by rw[hRR];exact R2,D⟩,rfl,hRR,fun k hk=>?_,⟨_,hm0,rfl,rfl,rfl,rfl⟩,hlt⟩
       .have:Blk w (N l0) 58 (A5 J N _):=B0;refine this.ad2 ?_;have el:(rsL (u9 J R).c).length=(u9 J R).c.length:=aE ..;rw[el];show _=aJ4 (cnT J _) _ _;unfold aJ4;show _=_::_::[_,_,_,_,_,_,_,_,_,_,_,_,_,_,_,_,_,_,_,_,_, .bool (decide (0<=(u9 J k0).i)), .int .i64 (if(u9 J k0).i<0 then(u9 J bg).i else(u9 J k0).i),_,_,_,_,_,_,_,aC9 ra rc (u9 J R).c.length];rw[<-R1,<-K1,<-K2];rfl
       .unfold Y8 at hk;rcases aa.1 hk with rfl|hk
        .exact .inl rfl
        refine .inr ?_;rcases aa.1 hk with rfl|hk
        .exact⟨_,T.mem,R5 ..,rfl, .inl rfl,I4 ..⟩
        rcases aC.1 hk with hk|hk
        .rw[if_pos rfl]at hk;rcases aC.1 hk with hk|hk
         .exact⟨_,I.mem,L2 (R5 ..),rfl, .inl rfl,fpO I.F _ hk⟩
         .rw[ah.1 hk];exact⟨_,Wm,L2 (L2 (R5 ..)),rfl, .inl rfl,I4 ..⟩
        .split at hk
         .cases hk
         .rename_i hcr;obtain⟨db,hdb,hdr,hdre,hra,hdo,hdw⟩:=R3 hcr;rw[ah.1 hk];rw[hdr];exact⟨db,hdb,L2 (L2 (L2 (R5 ..))),hdw,hdre, .inl hra⟩
      .cases h
     .cases h
    .split at h
     .rename_i hn;injection h with h;subst h;obtain⟨ra,rc,R1,R2,R3⟩:=bI7 hb hc hr hm.l;obtain⟨K1,K2⟩:=bx3 hc hk0 hm.r;have n1:=aN9 hn;have a2:=ne_t (T4 hn (R5 ..));have D:DaD ⟨0,[],N lt,0,ra,rc⟩ (N l0) false:=by
       refine⟨fun q=>a2 _ (I4 ..) (.inl q),fun hcr=>?_,fun q=>bK⟩;obtain⟨db,hdb,hdr,hdre,hra,hdo,hdw⟩:=R3 hcr;have hra:ra=N db.l:=hra;rw[hdr]at hn n1;have c1:=hne _ hm0 _ hdb (T4 hn (L2 (R5 ..))) (.inl rfl) hdre;have c3:=hne _ T.mem _ hdb (T4 n1 (R5 ..)) (.inl rfl) hdre;exact⟨fun q=>c1 _ (I4 ..) (.inl (q.symm.trans hra)),fun q=>c3 _ (I4 ..) (.inl (q.symm.trans hra))⟩
      have hRR:Y3 (rsL (u9 J R).c)=(u9 J R).c:=bW6 R2.ok;refine⟨⟨0,[],N lt,0,ra,rc⟩,⟨?_,T.P,fun q=>bK,fun q=>bK,by rw[hRR];exact R2,D⟩,rfl,hRR,fun k hk=>?_,⟨_,hm0,rfl,rfl,rfl,rfl⟩,hlt⟩
      .have:Blk w (N l0) 58 (A5 J N _):=B0;refine this.ad2 ?_;have el:(rsL (u9 J R).c).length=(u9 J R).c.length:=aE ..;rw[el];show _=aJ4 (cnT J _) _ _;unfold aJ4;show _=_::_::[_,_,_,_,_,_,_,_,_,_,_,_,_,_,_,_,_,_,_,_,_, .bool (decide (0<=(u9 J k0).i)), .int .i64 (if(u9 J k0).i<0 then(u9 J bg).i else(u9 J k0).i),_,_,_,_,_,_,_,aC9 ra rc (u9 J R).c.length];rw[<-R1,<-K1,<-K2];rfl
      .unfold Y8 at hk;rcases aa.1 hk with rfl|hk
       .exact .inl rfl
       refine .inr ?_;rcases aa.1 hk with rfl|hk
       .exact⟨_,T.mem,R5 ..,rfl, .inl rfl,I4 ..⟩
       rcases aC.1 hk with hk|hk
       .cases hk
       .split at hk
        .cases hk
        .rename_i hcr;obtain⟨db,hdb,hdr,hdre,hra,hdo,hdw⟩:=R3 hcr;rw[ah.1 hk];rw[hdr];exact⟨db,hdb,L2 (R5 ..),hdw,hdre, .inl hra⟩
     .cases h
    .cases h
   .cases h
  .cases h
 .cases h
def a10(l n:Nat)(has:Bool)(ts:List Tm)(L R:Tm):List Bk:=aX3 l n has ts R::aX4 n has ts L R
theorem bE1{J:Env}(hf:J.f=cnF){Y L R:Tm}{X:Cs}{has:Bool}(hY:hd (u9 J Y)=K9 X.c)(hh:X.c.has=has)(hL:has=true->(u9 J L).c=X.L)(hR:(u9 J R).c=Y3 X.R):TellsD J has (tsY Y has) L R X:=by
 have e:=bK2 hf hY hh;exact⟨fun a n=>by rw[e],rfl,hh,by rw[e];exact⟨rfl,rfl,rfl⟩,fun q=>by rw[e];exact⟨rfl,rfl,hL q⟩,fun _=>by rw[e];exact⟨rfl,rfl,rfl⟩,hR⟩
theorem dP4{J:Env}(hO:J.o=cnO){w:World}{g:Nat}{a:Da}{X:Cs}(W:DcW w g a X){has:Bool}{ts:List Tm}{L R:Tm}(T:TellsD J has ts L R X){cx:Cx}(hc:cx.ok J):
 Md J (fun i=>i∈Y8 a g has) w (X0 (fun _=>g) 2 a) 10 ⟨[],a10 0 2 has ts L R,cx,10⟩ (X0 (fun _=>g) 2 a) ⟨#[],[]⟩ w:=by
 have hrt:X0 (fun _=>g) 2 a 0=g:=rfl;have D:=W.nd;rw[T.xhas]at D;have hi:=W.iF T.xhas;refine⟨rfl,fun b hb=>?_,fun x hx y hy hxy rx ry=>?_,fun b hb _ hr k hk=> .inl ?_,hc,Only.aF4 _ _,fun _ _=>rfl⟩
 .rcases aa.1 hb with rfl|hb
  .exact a84 (N:=fun _=>g) (l:=0) bA T W
  .exact a86 hO T W b hb
 .rcases aa.1 hx with rfl|hx<;>rcases aa.1 hy with rfl|hy
  .exact absurd rfl hxy
  .intro k kx ky;have e:=Q9 (show Bk.own (aX3 0 2 has ts R)=false from rfl) kx;exact(ab2 hi hy ry ky).2 D (e.trans hrt)
  .intro k kx ky;have e:=Q9 (show Bk.own (aX3 0 2 has ts R)=false from rfl) ky;exact(ab2 hi hx rx kx).2 D (e.trans hrt)
  .exact a87 hi D x hx y hy hxy rx ry
 .rcases aa.1 hb with rfl|hb
  .have e:=Q9 (show Bk.own (aX3 0 2 has ts R)=false from rfl) hk;rw[show k=g from e.trans hrt];exact ae ..
  .exact(ab2 (g:=g) hi hb hr hk).1
theorem bR0{J:Env}(hO:J.o=cnO){S:Nat->Prop}{w w':World}{N0 N:Bn}{n0:Nat}{bks:List Bk}(hH:Hp J S w N0 n0 bks N w'){l nx:Nat}{cx:Cx}{rd:Cr}(h:crD ⟨[],bks,cx,nx⟩ l=some rd)(hc:cx.ok J)(hm:Sy.Met J rd.ms)(hl:l<n0):
 ∃ a,CrOkD J N w' ⟨[],bks,cx,nx⟩ l rd a/\N l=N0 l/\∀ i∈Y8 a (N l) rd.has,S i\/w.heap.size<=i:=by
 obtain⟨a,K⟩:=bZ0 hO h hc hm hH.hp hH.ne;refine⟨a,K,hH.old l hl,fun i hi=>?_⟩;rcases K.cov i hi with rfl|⟨d,hd,_,hw,hr,hf⟩
 .obtain⟨d,hd,hdl,hn,ho,hw⟩:=K.root;have:=hH.may d hd hw (.inl hn) _ (I4 N d);rw[hdl]at this;exact this
 .exact hH.may d hd hw hr i hf
theorem DcW.ca2{w:World}{g:Nat}{a:Da}{X X':Cs}(W:DcW w g a X)(h1:∀ n,aJ4 X'.c a n=aJ4 X.c a n)(h3:X'.c.mean=X.c.mean/\X'.c.spr=X.c.spr/\X'.c.dbl=X.c.dbl)(h0:X'.c.has=X.c.has)
 (h4:X.c.has=true->X'.c.rd=X.c.rd/\X'.c.fin=X.c.fin/\X'.L=X.L) (h5:X.c.has=true->X'.c.cm=X.c.cm/\X'.c.cz=X.c.cz/\X'.c.cs=X.c.cs) (h6:X'.R=X.R):DcW w g a X':=by
 refine⟨?_,?_,fun q=>?_,fun q=>?_,?_,?_⟩
 .rw[h1,h6];exact W.root
 .rw[h3.1,h3.2.1,h3.2.2];exact W.tm
 .rw[h0]at q;obtain⟨q1,q2,q3⟩:=h4 q;rw[q1,q2,q3];exact W.inq q
 .rw[h0]at q;obtain⟨q1,q2,q3⟩:=h5 q;rw[q1,q2,q3];exact W.win q
 .rw[h6];exact W.tab
 .rw[h0];exact W.nd
def dO4(G:Gp)(s:Sy.St):List SV->Option Did
 | .one (.c (.ptr l 0))::xs=>match crD s l,G.args s.cx xs with
   | some rd,some (m,y,z)=>if ah5 rd.Y then
      some ⟨rd.ms++(m++G.need s.cx rd.has rd.ts rd.R y z),rd.drops,[aX3 l s.nx (G.has' rd.has) (tsY (G.row (aM4 rd.Y rd.ts) rd.L y z) (G.has' rd.has)) (G.R (aM4 rd.Y rd.ts) rd.L rd.R y z)],aX4 s.nx (G.has' rd.has) (tsY (G.row (aM4 rd.Y rd.ts) rd.L y z) (G.has' rd.has)) (G.L (aM4 rd.Y rd.ts) rd.L y z) (G.R (aM4 rd.Y rd.ts) rd.L rd.R y z),
       G.ans (aM4 rd.Y rd.ts) rd.L y z,G.bs s.cx rd.has (aM4 rd.Y rd.ts) rd.L y z,none⟩
     else none
   | _,_=>none
 | _=>none
def af7(G:Gp):Sy.Spec:=R4 G.f (dO4 G)
theorem eC8{J:Env}(hO:J.o=cnO){N:Bn}{w w':World}{s:Sy.St}{l:Nat}{rd:Cr}{a:Da}(K:CrOkD J N w s l rd a){X':Cs}(hG:aS6 w w' (N l) (Y8 a (N l) rd.has) X'){has':Bool}{ts':List Tm}{L' R':Tm}(T:TellsD J has' ts' L' R' X'):
 ∃ N',(∀ k,k<s.nx->N' k=N k)/\Chg J N N' w w' s rd.drops [aX3 l s.nx has' ts' R'] (aX4 s.nx has' ts' L' R') none:=by
 obtain⟨F',⟨a',W,rfl⟩,ho,hf⟩:=hG;rw[T.xhas]at hf;have D:=W.nd;rw[T.xhas]at D;have hi:=W.iF T.xhas;have hl:l<s.nx:=by have:=K.lt;omega
 refine⟨X0 N s.nx a',fun k hk=>ao9 _ _ _ hk,ho.aj6 fun i _ hi=>?_,fun k hk=>ao9 _ _ _ hk,fun b hb=>?_,fun b hb=>a86 hO T W b hb,fun b hb=>bG,fun b hb hr i hi'=>?_,fun x hx y hy hxy rx ry=>a87 hi D x hx y hy hxy rx ry,fun x hx b hb=>bG⟩
 .rcases K.cov i hi with rfl|⟨d,hd,hm,_,hr,hfp⟩
  .exact .inl ⟨_,ae ..,rfl⟩
  .exact .inr (.inl ⟨d,hd,aE0.1 hm,hr,hfp⟩)
 .rw[ah.1 hb];exact a84 hl T W
 .obtain⟨h1,h2⟩:=ab2 (g:=N l) hi hb hr hi';rcases hf i h1 with q|q
  .rcases K.cov i q with e|⟨d,hd,hm,_,hr,hfp⟩
   .exact absurd e (h2 D)
   .exact .inl ⟨d,hd,aE0.1 hm,hr,hfp⟩
  .exact .inr q
theorem a34{J:Env}(E:CnEnv J){G:Gp}(H:∀{cx:Cx} {xs:List SV} {m:List Tm} {y z:Tm} {has:Bool} {ts:List Tm} {Y L R:Tm} {X:Cs},cx.ok J->G.args cx xs=some (m,y,z)->Sy.Met J m->Sy.Met J (G.need cx has ts R y z)->cnT J ts=X.c->hd (u9 J Y)=K9 X.c->X.c.has=has->(u9 J L).c=X.L->(u9 J R).c=Y3 X.R->
 ∀{w:World} {g:Nat} {a:Da},DcW w g a X->∀ N:Bn,X5 J (G.bs cx has Y L y z)/\(∀ N',(G.ans Y L y z).A1 J N'=(G.ans Y L y z).A1 J N)/\∃ X':Cs,hd (u9 J (G.row Y L y z))=K9 X'.c/\X'.c.has=G.has' has/\(G.has' has=true->(u9 J (G.L Y L y z)).c=X'.L)/\(u9 J (G.R Y L R y z)).c=Y3 X'.R/\
  Calls prog G.f (#[.pointer (some ⟨g,0,none⟩)]++(xs.map (SV.A1 J N)).toArray) w (F7 fun v w'=>v=(G.ans Y L y z).A1 J N/\aS6 w w' g (Y8 a g has) X')):(af7 G).Ok prog J:=by
 refine U1 fun{s xs d} hs hc hm {N w} hb hne=>?_
 unfold dO4 at hs;split at hs
 .rename_i l xs;split at hs
  .rename_i rd m y z hr ha;split at hs
   .rename_i hY;injection hs with hs;subst hs;obtain⟨a,K⟩:=bZ0 E.o hr hc hm.l hb hne;have hrow:=bP9 E (bO8 E hY) rd.ts;obtain⟨h1,h2,X',x1,x2,x3,x4,h3⟩:=H (has:=rd.has) (ts:=rd.ts) (R:=rd.R) hc ha hm.r.l hm.r.r rfl hrow K.has rfl K.R.symm K.W N;refine⟨h1,?_⟩;have e:((.one (.c (.ptr l 0))::xs).map (SV.A1 J N)).toArray=#[.pointer (some ⟨N l,0,none⟩)]++(xs.map (SV.A1 J N)).toArray:=by simp;rfl
    rw[e];refine h3.mono ?_;rintro e w' ⟨v,rfl,rfl,hG⟩;obtain⟨N',_,hC⟩:=eC8 E.o K hG (bE1 (L:=G.L (aM4 rd.Y rd.ts) rd.L y z) (R:=G.R (aM4 rd.Y rd.ts) rd.L rd.R y z) E.f x1 x2 x3 x4);exact⟨N',by rw[h2 N'],hC⟩
   .cases hs
  .cases hs
 .cases hs
def dK9(s:Sy.St)(v:SV):Option Cm:=match crD ⟨[],s.hp,s.cx,s.nx⟩ 0 with
 | some rd=>match rd.ms with
   | []=>if ah5 rd.Y then some (.ret v rd.Y (a89 rd.Y rd.ts) rd.L rd.R s.cx.pc)else none
   | _=>none
 | none=>none
def Sy.Lf.dm(P:Program)(fn:Func):Lf->Option Cm
 | .must t s=>some (.must t s.cx.pc)
 | .out (.exit _) _=>none
 | .out _ s=>match aD7 P s fn.results.toList with
   | some v=>dK9 s v
   | none=>none
def dmL(P:Program)(fn:Func):List Lf->Option (List Cm)
 | []=>some []
 | x::l=>match Sy.Lf.dm P fn x,dmL P fn l with
   | some y,some ys=>some (y::ys)
   | _,_=>none
def dmR(P:Program)(fn:Func):Rs->Option (List Cm)
 | .ok l=>dmL P fn l
 | .error _=>none
def aq1(v:Value)(X':Cs)(u:Bn->Value)(c:Cn)(L:Rws)(R:List Int):Prop:=(∀ N,u N=v)/\ { c with bg:=X'.c.bg } =X'.c/\(X'.c.clk<0->c.bg=X'.c.bg)/\(X'.c.has=true->L=X'.L)/\R=X'.R
theorem DcW.of{w:World}{g:Nat}{a:Da}{c:Cn}{L:Rws}{R:List Int}(W:DcW w g a ⟨c,L,R⟩){X':Cs}(h1: { c with bg:=X'.c.bg } =X'.c)(hb:X'.c.clk<0->c.bg=X'.c.bg)(h2:X'.c.has=true->L=X'.L)(h3:R=X'.R):DcW w g a X':=by
 have ek:c.clk=X'.c.clk:=by
  have q:=congrArg Cn.clk h1;exact q
 have eb:c.bgn=X'.c.bgn:=by
  unfold Cn.bgn;rw[ek];split
  .rename_i q;exact hb q
  .rfl
 have ec:∀ n,aJ4 X'.c a n=aJ4 c a n:=fun n=>by
  have e0:aJ4 { c with bg:=X'.c.bg } a n=aJ4 X'.c a n:=by rw[h1]
  rw[<-e0];unfold aJ4;have e1:({ c with bg:=X'.c.bg }:Cn).bgn=c.bgn:=by rw[eb,h1]
  rw[e1]
 have e:∀{α:Type} (f:Cn->α),f { c with bg:=X'.c.bg } =f X'.c:=fun f=>by rw[h1]
 refine W.ca2 ec ⟨(e Cn.mean).symm,(e Cn.spr).symm,(e Cn.dbl).symm⟩ (e Cn.has).symm ?_ ?_ h3.symm
 .intro q;have q':X'.c.has=true:=(e Cn.has).symm.trans q;exact⟨(e Cn.rd).symm,(e Cn.fin).symm,(h2 q').symm⟩
 .intro q;exact⟨(e Cn.cm).symm,(e Cn.cz).symm,(e Cn.cs).symm⟩
theorem cG2{P:Program}{fn:Func}{X:Cs}{is:List Int}{bs:List Bool}{ss:List ByteArray}{w:World}{g:Nat}{a:Da}{has:Bool}{T:(Bn->Value)->Cn->Rws->List Int->Prop}{Q:Value->World->Prop}
 (hQ:∀(v:SV) (N:Bn) (w':World) (c:Cn) (L:Rws) (R:List Int),T (fun N=>v.A1 (H8 X is bs ss) N) c L R->(∃ a':Da,DcW w' g a' ⟨c,L,R⟩/\∀ i∈Y8 a' g c.has,i∈Y8 a g has\/w.heap.size<=i)->Only (fun i=>i∈Y8 a g has) w w'->Q (v.A1 (H8 X is bs ss) N) w'):
 ∀{l:List Lf} {ys:List Cm},dmL P fn l=some ys->aC6 (Cm.bI1 (H8 X is bs ss) X.c T) ys->aC6 (Lf.ag4 P fn ⟨H8 X is bs ss,fun i=>i∈Y8 a g has,w,X0 (fun _=>g) 2 a,10⟩ Q) l
 | [],ys,_,_=>trivial
 | x::l,ys,h,hd_=>by
   unfold dmL at h;split at h
   .rename_i y ys' hx hl;injection h with h;subst h;obtain⟨d1,d2⟩:=hd_;refine⟨?_,cG2 hQ hl d2⟩;unfold Sy.Lf.dm at hx;split at hx
    .rename_i t s;injection hx with hx;subst hx;exact fun N a' w' hM=>d1 (aX6 hM.cx.pc)
    .cases hx
    .rename_i e s hne;split at hx
     .rename_i v hv;unfold dK9 at hx;split at hx
      .rename_i rd hr;split at hx
       .rename_i hms;split at hx
        .rename_i hrow;injection hx with hx;subst hx;have key:∀ N a' w',Md (H8 X is bs ss) (fun i=>i∈Y8 a g has) w (X0 (fun _=>g) 2 a) 10 s N a' w'->Q (v.A1 (H8 X is bs ss) N) w':=fun N a' w' hM=>by
          have hT:=d1 (aX6 hM.cx.pc);have hH:Hp (H8 X is bs ss) (fun i=>i∈Y8 a g has) w (X0 (fun _=>g) 2 a) 10 s.hp N w':=⟨hM.hp,hM.ne,hM.may,hM.only,hM.old⟩;obtain⟨a'',K,e0,hF⟩:=bR0 (J:=H8 X is bs ss) rfl hH hr hM.cx bR bA;have e0':N 0=g:=e0;have W:=K.W;rw[e0']at W hF;have ec:=bZ2 (L6 X is bs ss) (bZ1 (c:=X.c) (L6 X is bs ss) rfl hrow) rd.ts;refine hQ v N w' _ _ _ hT ⟨a'',ec ▸ W,fun i hi=>hF i ?_⟩ hH.only;rw[<-ec,K.has]at hi;exact hi
         unfold Lf.ag4;cases e with
         | exit n=>exact absurd rfl (hne n)
         | normal=>simp only;rw[hv];exact key
         | ret=>simp only;rw[hv];exact key
        .cases hx
       .cases hx
      .cases hx
     .cases hx
   .cases h
def rnD(P:Program)(fn:Func)(sp:List Sy.Spec)(xs:List SV)(has:Bool)(cx:Cx):Option (List Cm):=dmR P fn (R6 P sp 10 400 10 (.code (y7 fn)) (L3 fn (.one (.c (.ptr 0 0))::xs) ⟨[],a10 0 2 has (tsY j8 has) j5 j6,cx,10⟩))
theorem Y2{sp:List Sy.Spec}{X:Cs}{is:List Int}{bs:List Bool}{ss:List ByteArray}(hsp:∀ q∈sp,q.Ok prog (H8 X is bs ss)){f:FuncId}{fn:Func}(hf:prog.funcs[f]? =some fn)(hb:fn.body.isSome=true){has:Bool}{cx:Cx}{xs:List SV}{ys:List Cm}
 (hrun:rnD prog fn sp xs has cx=some ys) {w:World} {g:Nat} {a:Da} (W:DcW w g a X) (hh:X.c.has=has) (hc:cx.ok (H8 X is bs ss)) {v:Value} {X':Cs}
 (hR:aC6 (Cm.bI1 (H8 X is bs ss) X.c (aq1 v X')) ys) {args:Array Value} (hargs:args=#[.pointer (some ⟨g,0,none⟩)]++(xs.map (SV.A1 (H8 X is bs ss) (X0 (fun _=>g) 2 a))).toArray):Calls prog f args w (F7 fun v' w'=>v'=v/\aS6 w w' g (Y8 a g has) X'):=by
 have T:TellsD (H8 X is bs ss) has (tsY j8 has) j5 j6 X:=bE1 rfl rfl hh (fun _=>rfl) rfl;have hM:=dP4 (J:=H8 X is bs ss) rfl W T hc;unfold rnD dmR at hrun;split at hrun
 .rename_i l hl;have hb':fn.body=some (y7 fn):=by unfold y7;cases q:fn.body with
   | none=>rw[q]at hb;cases hb
   | some c=>rfl
  refine aq0 (B:=⟨H8 X is bs ss,fun i=>i∈Y8 a g has,w,X0 (fun _=>g) 2 a,10⟩) (fun i=>rfl) hsp 10 400 hf hb' hl hM (R:=fun v' w'=>v'=v/\aS6 w w' g (Y8 a g has) X') (cG2 (fun v' N w' c L R hT hW ho=>?_) hrun hR) ?_
  .obtain⟨t1,t2,tb,t3,t4⟩:=hT;obtain⟨a',W',hF⟩:=hW;have ch:c.has=X'.c.has:=by rw[<-t2]
   exact⟨t1 N,Y8 a' g X'.c.has,⟨a',W'.of t2 tb t3 t4,rfl⟩,ho,fun i hi=>hF i (by rw[ch];exact hi)⟩
  .rw[hargs];simp;rfl
 .cases hrun
section
variable{J:Env}(E:CnEnv J){c0:Cn}(h0:hd (u9 J j8)=K9 c0){S:Nat->Prop}{w w':World}{N0 N:Bn}{n0:Nat}{s:Sy.St}{a:Act}(hM:Md J S w N0 n0 s N a w')
include E h0 hM
theorem dx0{l:Nat}{rd:Cr}(hr:crP ⟨[],s.hp,s.cx,s.nx⟩ l=some rd)(hms:rd.ms=[])(hrow:ah5 rd.Y=true)(hl:l<n0):
 ∃ a',PcW w' (N0 l) a' ⟨E6 J (cnY J c0 rd.Y) (a89 rd.Y rd.ts),(u9 J rd.L).c,rsL (u9 J rd.R).c⟩/\(E6 J (cnY J c0 rd.Y) (a89 rd.Y rd.ts)).has=rd.has/\(∀ i∈X4 a' (N0 l) rd.has,S i\/w.heap.size<=i)/\
   ∀ b∈s.hp,aS3 b.l rd.drops=false->b.l≠l->b.G0 N->∀ k∈X4 a' (N0 l) rd.has,¬fp N b k:=by
 have hH:Hp J S w N0 n0 s.hp N w':=⟨hM.hp,hM.ne,hM.may,hM.only,hM.old⟩;obtain⟨a'',K,e0,hF⟩:=bP7 (nx:=s.nx) E.o hH hr hM.cx bR hl;have W:=K.W;have ec:=bZ2 E (bZ1 (c:=c0) E h0 hrow) rd.ts;rw[ec]at W;rw[e0]at W hF;refine⟨a'',W,?_,hF,fun b hb h1 h2 h3 k hk q=>?_⟩
 .rw[<-ec];exact K.has
 .rw[<-e0]at hk;rcases K.cov k hk with rfl|⟨d,hd,hm,_,hdr,hf⟩
  .obtain⟨d,hd,hdl,hn,ho,hw⟩:=K.root;have f:=I4 N d;rw[hdl]at f;exact hM.ne b hb d hd (by rw[hdl];exact h2) h3 (.inl hn) _ q f
  .exact hM.ne b hb d hd (fun e=>by rw[e,hm]at h1;cases h1) h3 hdr _ q hf
theorem eC7{l:Nat}{rd:Cr}(hr:crD ⟨[],s.hp,s.cx,s.nx⟩ l=some rd)(hms:rd.ms=[])(hrow:ah5 rd.Y=true)(hl:l<n0):
 ∃ a',DcW w' (N0 l) a' ⟨E6 J (cnY J c0 rd.Y) (a89 rd.Y rd.ts),(u9 J rd.L).c,rsL (u9 J rd.R).c⟩/\(E6 J (cnY J c0 rd.Y) (a89 rd.Y rd.ts)).has=rd.has/\(∀ i∈Y8 a' (N0 l) rd.has,S i\/w.heap.size<=i)/\
   ∀ b∈s.hp,aS3 b.l rd.drops=false->b.l≠l->b.G0 N->∀ k∈Y8 a' (N0 l) rd.has,¬fp N b k:=by
 have hH:Hp J S w N0 n0 s.hp N w':=⟨hM.hp,hM.ne,hM.may,hM.only,hM.old⟩;obtain⟨a'',K,e0,hF⟩:=bR0 (nx:=s.nx) E.o hH hr hM.cx bR hl;have W:=K.W;have ec:=bZ2 E (bZ1 (c:=c0) E h0 hrow) rd.ts;rw[ec]at W;rw[e0]at W hF;refine⟨a'',W,?_,hF,fun b hb h1 h2 h3 k hk q=>?_⟩
 .rw[<-ec];exact K.has
 .rw[<-e0]at hk;rcases K.cov k hk with rfl|⟨d,hd,hm,_,hdr,hf⟩
  .obtain⟨d,hd,hdl,hn,ho,hw⟩:=K.root;have f:=I4 N d;rw[hdl]at f;exact hM.ne b hb d hd (by rw[hdl];exact h2) h3 (.inl hn) _ q f
  .exact hM.ne b hb d hd (fun e=>by rw[e,hm]at h1;cases h1) h3 hdr _ q hf
end
def k3T:Tm->Bool
 | .iv _| .bv _| .sv _=>false
 | .cv n=>Nat.blt n 3
 | .add x y| .sub x y| .mul x y| .dv x y| .md x y| .quo x y| .rem x y| .bop _ _ x y| .byte x y| .lt x y| .le x y| .eq x y| .and x y| .or x y| .seq x y| .bq x y| .app x y=>k3T x&&k3T y
 | .pw x| .wrap _ x| .len x| .not x| .chr x=>k3T x
 | .ap _ x y z| .ite x y z| .cut x y z| .tb _ x y z=>k3T x&&(k3T y&&k3T z)
 | .il _| .bl _| .sl _=>true
theorem eC5{J J':Env}(hf:J.f=J'.f)(hc:∀ n,n<3->J.c n=J'.c n):∀ t:Tm,k3T t=true->u9 J t=u9 J' t:=by
 intro t
 induction t with
 | iv n=>intro hl;cases hl
 | bv n=>intro hl;cases hl
 | sv n=>intro hl;cases hl
 | cv n=>intro hl;simp only[u9,hc n (aB1 hl)]
 | tb o x y z hx hy hz=>
   intro hl;simp only[k3T,m5]at hl;simp only[u9,hx hl.1,hy hl.2.1,hz hl.2.2]
 | ap f x y z hx hy hz=>
   intro hl;simp only[k3T,m5]at hl;show J.f f (u9 _ x) (u9 _ y) (u9 _ z)=J'.f f (u9 _ x) (u9 _ y) (u9 _ z);rw[hx hl.1,hy hl.2.1,hz hl.2.2,hf]
 | ite x y z hx hy hz=>
   intro hl;simp only[k3T,m5]at hl;simp only[u9,hx hl.1,hy hl.2.1,hz hl.2.2]
 | cut x y z hx hy hz=>
   intro hl;simp only[k3T,m5]at hl;simp only[u9,hx hl.1,hy hl.2.1,hz hl.2.2]
 | pw x hx=>intro hl;simp only[u9,hx hl]
 | wrap k x hx=>intro hl;simp only[u9,hx hl]
 | len x hx=>intro hl;simp only[u9,hx hl]
 | not x hx=>intro hl;simp only[u9,hx hl]
 | chr x hx=>intro hl;simp only[u9,hx hl]
 | il n=>intro _;rfl
 | bl n=>intro _;rfl
 | sl n=>intro _;rfl
 | _=>
   rename_i hx hy;intro hl;simp only[k3T,m5]at hl;simp only[u9,hx hl.1,hy hl.2]
structure OE(X:Cs)(J:Env):Prop where
 g:J.R8
 f:J.f=cnF
 o:J.o=cnO
 c0:J.c 0=[K9 X.c]
 c1:J.c 1=X.L
 c2:J.c 2=Y3 X.R
section
variable{X:Cs}{J:Env}
theorem OE.h0(E:OE X J):hd (u9 J j8)=K9 X.c:=by
 show(J.c 0).headD []=_;rw[E.c0];rfl
theorem OE.cn(E:OE X J):CnEnv J:=⟨E.g,E.f,E.o,⟨X.c,E.h0⟩⟩
theorem OE.k(E:OE X J){t:Tm}(h:k3T t=true):u9 J t=u9 (H8 X [] [] []) t:=by
 refine eC5 E.f (fun n hn=>?_) t h;rcases n with _|_|_|n
 .exact E.c0
 .exact E.c1
 .exact E.c2
 .omega
theorem OE.bds(E:OE X J){l:List Bd}(hk:(l.all fun z=>k3T z.t)=true)(h:X5 (H8 X [] [] []) l):X5 J l:=fun z hz=>by
 have:=h z hz;unfold Bd.ok at this ⊢;rw[E.k (av.1 hk z hz)];exact this
end
def sgT(a0 a1 a2 a3 a4 a5 b0 b1 b2 b3 a6 a7 s:Tm):Tm:= .tb qb9 a0 (.tb qax a1 (.tb qb9 a2 (.tb qax a3 (.tb qb9 a4 (.tb qb9 a5 (.tb qb4 b0 (.tb qb4 b1 (.tb qb4 b2 (.tb qb4 b3 (.tb qax a6 (.tb qax a7 (.tb (.cons .str) s qao i9) i9) i9) i9) i9) i9) i9) i9) i9) i9) i9) i9) i9
theorem bh6(J:Env)(a0 a1 a2 a3 a4 a5 b0 b1 b2 b3 a6 a7 s:Tm):(u9 J (sgT a0 a1 a2 a3 a4 a5 b0 b1 b2 b3 a6 a7 s)).c=[sgR ⟨(u9 J a0).i,(u9 J a1).i,(u9 J a2).i,(u9 J a3).i,(u9 J a4).i,(u9 J a5).i,(u9 J b0).b,(u9 J b1).b,(u9 J b2).b,(u9 J b3).b,(u9 J a6).i,(u9 J a7).i,(u9 J s).s⟩]:=rfl
structure OI1(X:Cs)(k:Nat)(J:Env):Prop where
 e:OE X J
 u:∀ n∈X.R,IntKind.u32.wrap n=n
 hk:k<=X.R.length
 i20:J.i 20=k
 i19:J.i 19=k
 c5:J.c 5=(X.R.take k).map fun n=>sgR (X.c.rsG n)
def oA1:List As:=[.i 19 (.add (L7 s5) l9), .i 20 (.add (.iv 20) l9), .c 5 (.tb .app s5 (sgT k0 k1 k2 k3 (.tb (.get (.int .u32) 0) j6 (.iv 20) i9) i9 l4 l4 l4 l6 i9 i9 p9) i9)]
section
variable{X:Cs}{J:Env}{k:Nat}
theorem OI1.len(I:OI1 X k J):(J.c 5).length=k:=by
 have:=I.hk;rw[I.c5,aE,aU];omega
theorem OI1.eK8(I:OI1 X k J)(hk:k<X.R.length)(N:Bn)(u:Nat->Value):OI1 X (k+1) { J.L5 N oA1 with u:=u }:=by
 refine⟨⟨I.e.g,I.e.f,I.e.o,I.e.c0,I.e.c1,I.e.c2⟩,I.u,by omega,?_,?_,?_⟩
 .show J.i 20+1=_;rw[I.i20];rfl
 .show((J.c 5).length:Int)+1=_;rw[I.len];rfl
 .show J.c 5++[sgR ⟨(u9 J k0).i,(u9 J k1).i,(u9 J k2).i,(u9 J k3).i,(aF3 (.int .u32) (((J.c 2).getD (J.i 20).toNat []).getD 0 (.bool false))).i,0,false,false,false,true,0,0,(u9 J p9).s⟩]=_;have e0:(u9 J k0).i=X.c.la:=by rw[I.e.k rfl];rfl
  have e1:(u9 J k1).i=X.c.lp:=by rw[I.e.k rfl];rfl
  have e2:(u9 J k2).i=X.c.ra:=by rw[I.e.k rfl];rfl
  have e3:(u9 J k3).i=X.c.rp:=by rw[I.e.k rfl];rfl
  have eg:(J.c 2).getD (J.i 20).toNat []=[Value.int .u32 X.R[k]]:=by
   rw[I.e.c2,I.i20,aK];unfold Y3;rw[List.getD_eq_getElem?_getD,bn,ar hk];rfl
  have es:(u9 J p9).s=K4:=rfl;have ew:(aF3 (.int .u32) (([Value.int .u32 X.R[k]]).getD 0 (.bool false))).i=X.R[k]:=I.u _ (List.getElem_mem _);rw[e0,e1,e2,e3,eg,ew,I.c5,es,List.take_succ_eq_append_getElem hk,bb];rfl
end
theorem cc8{w:World}{g c:Nat}{ty:TypeId}{R:List Int}(h:RowT w g c ty [.int .u32] (Y3 R)):∀ n∈R,IntKind.u32.wrap n=n:=fun n hn=>by
 obtain⟨⟨y,hy,hw⟩,_⟩:=h.ok [.int .u32 n] (aZ.2 ⟨n,hn,rfl⟩);injection hy with _ hy;subst hy;obtain⟨m1,m2⟩:=aK2 hw;exact aU9 m1 m2
def oAk(has:Bool):Tm:=if has then .md (.add k7 (.md (.ap 33 j5 k29 k30) qca)) qca else .il 0
def oWi(has:Bool):Tm:=if has then .sub o7 (.ap 131 j5 k29 i9)else .il 2048
def aU3(O lo l:Tm)(has:Bool)(m:Tm):Tm:=sgT k0 k1 k2 k3 (.md (.add k6 (.md (.ap 110 O lo l) qca)) qca) (oAk has) (.ap 111 O lo l) (.bl has) (.ap 112 O lo l) l4 (oWi has) m (.ap 113 O lo l)
structure OI2(X:Cs)(d:Cn)(out:List Sg)(J:Env):Prop where
 e:OE X J
 like:Cn.Like X.c d
 i21:J.i 21=d.cur
 i22:J.i 22=d.snt
 i23:J.i 23=d.meas
 i24:J.i 24=d.wen
 i25:J.i 25=X.c.K3
 i26:J.i 26=X.R.length
 i29:J.i 29=out.length
 c6:J.c 6=out.map sgR
 all:out++d.goG X.L X.c.K3=X.R.map X.c.rsG++X.c.aW8 X.L
 fin:d.goC X.c.K3=X.c.aK9
 cnt:out.length+(X.c.K3 - d.cur).toNat<=X.R.length+1+(X.c.K3 - X.c.cur).toNat
section
variable{X:Cs}{J:Env}
theorem a85(E:OE X J){O lo l m:Tm}{d:Cn}{a b:Int}(hO:aM5 (hd (u9 J O))=d.ou)(ha:(u9 J lo).i=a)(hb:z9 (hd (u9 J l)) 0=b)(hs:z9 (hd (u9 J l)) 1=d.mss)(hl:Cn.Like X.c d){has:Bool}(hh:X.c.has=has)(hm:(u9 J m).i=if d.ou.aB5 a b d.mss then X.c.own else 0):
 (u9 J (aU3 O lo l has m)).c=[sgR (d.aP4 X.L a b)]:=by
 have ap:∀ n,u9 J (.ap n O lo l)=cnF n (u9 J O) (u9 J lo) (u9 J l):=fun n=>F3 E.f n O lo l
 have e110:(u9 J (.ap 110 O lo l)).i=d.ou.pAt a b d.mss:=by rw[ap,<-hO,<-ha,<-hb,<-hs];rfl
 have e111:(u9 J (.ap 111 O lo l)).b=d.ou.aB5 a b d.mss:=by rw[ap,<-hO,<-ha,<-hb,<-hs];rfl
 have e112:(u9 J (.ap 112 O lo l)).b=d.ou.aI0 a b d.mss:=by rw[ap,<-hO,<-ha,<-hb,<-hs];rfl
 have e113:(u9 J (.ap 113 O lo l)).s=d.ou.aD6 a b d.mss:=by rw[ap,<-hO,<-ha,<-hb,<-hs];rfl
 have e0:(u9 J k0).i=X.c.la:=by rw[E.k rfl];rfl
 have e1:(u9 J k1).i=X.c.lp:=by rw[E.k rfl];rfl
 have e2:(u9 J k2).i=X.c.ra:=by rw[E.k rfl];rfl
 have e3:(u9 J k3).i=X.c.rp:=by rw[E.k rfl];rfl
 have e6:(u9 J k6).i=X.c.iss:=by rw[E.k rfl];rfl
 have eA:(u9 J (oAk has)).i=if has then X.c.a22 X.L else 0:=by
  cases has with
  | false=>rfl
  | true=>
    rw[E.k rfl];show(X.c.irs+Z8 X.L X.c.rd X.c.fin % 4294967296) % 4294967296=(X.c.irs+Z8 X.L X.c.rd X.c.fin) % 4294967296;omega
 have eW:(u9 J (oWi has)).i=if has then X.c.bU4 X.L else 2048:=by
  cases has with
  | false=>rfl
  | true=>rw[E.k rfl];rfl
 have eS:(u9 J (.md (.add k6 (.md (.ap 110 O lo l) qca)) qca)).i=(X.c.iss+d.ou.pAt a b d.mss) % 4294967296:=by
  show((u9 J k6).i+(u9 J (.ap 110 O lo l)).i % 4294967296) % 4294967296=_;rw[e110,e6];omega
 unfold aU3;rw[bh6,e0,e1,e2,e3,eS,eA,eW,e111,e112,e113,hm,hl.ee9];have ee:=hl.e;have q1:d.ou.pAt a b d.mss=X.c.ou.pAt a b X.c.mss:=by rw[ee];rfl
 have q2:d.ou.aB5 a b d.mss=X.c.ou.aB5 a b X.c.mss:=by rw[ee];rfl
 have q3:d.ou.aI0 a b d.mss=X.c.ou.aI0 a b X.c.mss:=by rw[ee];rfl
 have q4:d.ou.aD6 a b d.mss=X.c.ou.aD6 a b X.c.mss:=by rw[ee];rfl
 rw[q1,q2,q3,q4];subst hh;rfl
theorem dM3(h:X.c.una=0):X.c.K3=1:=if_pos h
theorem cO5(h:¬X.c.una=0):X.c.K3=X.c.una+max (b2 X.c.prb) (min X.c.wnd X.c.cz):=if_neg h
def oE0(n rows l:Tm):List As:=[.i 29 n, .i 26 (.iv 19), .i 25 l, .i 23 k21, .i 24 k22, .i 21 y4, .i 22 y5, .c 6 rows]
theorem OI1.dS5(I:OI1 X X.R.length J)(hr:RgX X.c){n rows l:Tm}(hn:(u9 J n).i=((X.R.map X.c.rsG++X.c.aI1 X.L).length:Int))(hrow:(u9 J rows).c=(X.R.map X.c.rsG++X.c.aI1 X.L).map sgR)(hl:(u9 J l).i=X.c.K3)(N:Bn)(u:Nat->Value):
 OI2 X X.c (X.R.map X.c.rsG++X.c.aI1 X.L) { J.L5 N (oE0 n rows l)with u:=u }:=by
 have h1:=hr.d3;have h2:=hr.r21.1;refine⟨⟨I.e.g,I.e.f,I.e.o,I.e.c0,I.e.c1,I.e.c2⟩,Cn.Like.bV0 h1 h2,?_,?_,?_,?_,hl,I.i19,hn,hrow,?_,rfl,?_⟩
 .show(u9 J y4).i=_;rw[I.e.k rfl];rfl
 .show(u9 J y5).i=_;rw[I.e.k rfl];rfl
 .show(u9 J k21).i=_;rw[I.e.k rfl];rfl
 .show(u9 J k22).i=_;rw[I.e.k rfl];rfl
 .rw[List.append_assoc,Cn.cK7]
 .have:(X.c.aI1 X.L).length<=1:=by
   unfold Cn.aI1;split
   .exact aI _
   .exact bf _
  rw[az,aE];omega
variable{d:Cn}{out:List Sg}
theorem OI2.ov(I:OI2 X d out J):aM5 (hd (u9 J kOv))=d.ou:=by
 show(⟨(u9 J y8).s,(u9 J y6).b,(u9 J w6).i,J.i 21,J.i 22⟩:Ou)=d.ou;have e1:(u9 J y8).s=X.c.all:=by rw[I.e.k rfl];rfl
 have e2:(u9 J y6).b=X.c.shut:=by rw[I.e.k rfl];rfl
 have e3:(u9 J w6).i=X.c.una:=by rw[I.e.k rfl];rfl
 rw[e1,e2,e3,I.i21,I.i22];have ee:=I.like.e;rw[ee];rfl
theorem OI2.ms(I:OI2 X d out J):(u9 J k9).i=d.mss:=by
 rw[I.e.k rfl,I.like.e];rfl
theorem OI2.l0(I:OI2 X d out J):z9 (hd (u9 J kLv)) 0=X.c.K3:=I.i25
theorem OI2.l1(I:OI2 X d out J):z9 (hd (u9 J kLv)) 1=d.mss:=I.ms
theorem OI2.is(I:OI2 X d out J):(u9 J qdy).b=d.ou.pIs d.cur X.c.K3 d.mss:=by
 rw[F3 I.e.f,<-I.ov,<-I.i21,<-I.l0,<-I.l1];rfl
theorem OI2.at(I:OI2 X d out J):(u9 J (.ap 110 kOv s9 kLv)).i=d.ou.pAt d.cur X.c.K3 d.mss:=by
 rw[F3 I.e.f,<-I.ov,<-I.i21,<-I.l0,<-I.l1];rfl
theorem OI2.syn(I:OI2 X d out J):(u9 J qge).b=d.ou.aB5 d.cur X.c.K3 d.mss:=by
 rw[F3 I.e.f,<-I.ov,<-I.i21,<-I.l0,<-I.l1];rfl
theorem OI2.ca1(I:OI2 X d out J):(u9 J qcr).i=d.ou.aB6 X.c.K3 d.mss:=by
 rw[F3 I.e.f,<-I.ov,<-I.i25,<-I.ms];rfl
theorem OI2.far(I:OI2 X d out J):(u9 J qdg).i=max d.snt (d.ou.aB6 X.c.K3 d.mss):=by
 rw[F3 I.e.f,show d.snt=d.ou.snt from rfl,<-I.ov,<-I.i25,<-I.ms];rfl
theorem OI2.len(I:OI2 X d out J):(J.c 6).length=out.length:=by rw[I.c6,aE]
def oB1(has:Bool)(m:Tm):List As:=[.i 29 (.add (L7 s7) l9), .i 23 qcr, .i 24 V8, .i 21 qcr, .i 22 qdg, .c 6 (.tb .app s7 (aU3 kOv s9 kLv has m) i9)]
def oB2(has:Bool)(m:Tm):List As:=[.i 29 (.add (L7 s7) l9), .i 21 qcr, .i 22 qdg, .c 6 (.tb .app s7 (aU3 kOv s9 kLv has m) i9)]
theorem OI2.eK5(I:OI2 X d out J)(hr:RgX X.c){has:Bool}(hh:X.c.has=has){m:Tm}(hp:(u9 J qdy).b=true)(hm:(u9 J m).i=if d.ou.aB5 d.cur X.c.K3 d.mss then X.c.own else 0)(N:Bn)(u:Nat->Value):
 (d.meas=0->d.ou.pAt d.cur X.c.K3 d.mss=d.snt->OI2 X (d.Y1 X.c.K3) (out++[d.aP4 X.L d.cur X.c.K3]) { J.L5 N (oB1 has m)with u:=u })/\
 (¬(d.ou.pAt d.cur X.c.K3 d.mss=d.snt/\d.meas=0)->OI2 X (d.Y1 X.c.K3) (out++[d.aP4 X.L d.cur X.c.K3]) { J.L5 N (oB2 has m)with u:=u })/\(X.c.K3 - (d.Y1 X.c.K3).cur).toNat<(X.c.K3 - d.cur).toNat:=by
 have hNj:¬d.ou.pN d.cur X.c.K3 d.mss:=by
  rw[I.is]at hp;unfold Ou.pIs at hp;exact of_decide_eq_true hp
 have h0:=hr.r25.1;have hc:=I.like.cur;have hlt:d.cur<X.c.K3:=by
  have q:=hNj;unfold Ou.pN at q;omega
 obtain⟨g1,g2⟩:=Cn.bM5 hNj U;have hcur:=Cn.aa8 d X.c.K3;obtain⟨o1,o2⟩:=Cn.ca5 (L:=X.L) hNj U;have hrow:=a85 (O:=kOv) (lo:= .iv 21) (l:=kLv) (m:=m) I.e I.ov I.i21 I.l0 I.l1 I.like hh hm;have hlike:=I.like.dJ4 hNj h0;have hall:(out++[d.aP4 X.L d.cur X.c.K3])++(d.Y1 X.c.K3).goG X.L X.c.K3=X.R.map X.c.rsG++X.c.aW8 X.L:=by
  rw[<-I.all,o1,List.append_assoc];rfl
 have hfin:(d.Y1 X.c.K3).goC X.c.K3=X.c.aK9:=by rw[<-o2];exact I.fin
 have hcnt:(out++[d.aP4 X.L d.cur X.c.K3]).length+(X.c.K3 - (d.Y1 X.c.K3).cur).toNat<=X.R.length+1+(X.c.K3 - X.c.cur).toNat:=by
  have:=I.cnt;rw[az,hcur];show out.length+1+_<=_;omega
 have h29:((J.c 6).length:Int)+1=((out++[d.aP4 X.L d.cur X.c.K3]).length:Int):=by
  rw[I.len,az];rfl
 have h6:J.c 6++(u9 J (aU3 kOv s9 kLv has m)).c=(out++[d.aP4 X.L d.cur X.c.K3]).map sgR:=by
  rw[hrow,I.c6,bb];rfl
 have hsnt:(d.Y1 X.c.K3).snt=max d.snt (d.ou.aB6 X.c.K3 d.mss):=by unfold Cn.Y1;split<;>rfl
 refine⟨fun q1 q2=>⟨⟨I.e.g,I.e.f,I.e.o,I.e.c0,I.e.c1,I.e.c2⟩,hlike,?_,?_,?_,?_,I.i25,I.i26,h29,h6,hall,hfin,hcnt⟩,fun q=>⟨⟨I.e.g,I.e.f,I.e.o,I.e.c0,I.e.c1,I.e.c2⟩,hlike,?_,?_,?_,?_,I.i25,I.i26,h29,h6,hall,hfin,hcnt⟩,by rw[hcur];omega⟩
 .show(u9 J qcr).i=_;rw[I.ca1,hcur]
 .show(u9 J qdg).i=_;rw[I.far,hsnt]
 .show(u9 J qcr).i=_;rw[I.ca1];unfold Cn.Y1;rw[if_pos ⟨q2,q1⟩]
 .show(u9 J V8).i=_;unfold Cn.Y1;rw[if_pos ⟨q2,q1⟩,I.e.k rfl];show X.c.now=d.now;rw[I.like.e]
 .show(u9 J qcr).i=_;rw[I.ca1,hcur]
 .show(u9 J qdg).i=_;rw[I.far,hsnt]
 .show J.i 23=_;rw[I.i23];unfold Cn.Y1;rw[if_neg q]
 .show J.i 24=_;rw[I.i24];unfold Cn.Y1;rw[if_neg q]
end
end Go.Proofs.YtnlcpcmdlcakgaaGreat
namespace Go.Proofs.YtnlcpcmdlcakgaaGreat
namespace Sy
open Go Go.RowKit
theorem cq9{P:Program}{a:Act}{w:World}(q:List Nat)(e:Exit):∀(p:List Nat) (c:Code) (Q:Exit->Act->World->Prop),okP p c=true->(Y7 P (p++q) c Q e a w↔Y7 P q (I9 p c) (Y7 P p c Q) e a w):=by
 intro p
 induction p with
 | nil=>
   intro c Q _;exact Iff.rfl
 | cons d p ih=>
   intro c Q hk;rcases d with _|_|_|d
   .cases c<;>try(cases hk;done)
    exact ih _ _ hk
   .cases c<;>try(cases hk;done)
    exact ih _ _ hk
   .cases c<;>try(cases hk;done)
    .exact ih _ _ hk
    .exact ih _ _ hk
   .cases c<;>cases hk
theorem bq3{P:Program}{a:Act}{w:World}{p:List Nat}{c x b y:Code}{id:Nat}{Q:Exit->Act->World->Prop}(h:I9 p c= .seq (.seq x (.block id b)) y)(hk:okP p c=true)(hw:y.wp P (Y7 P p c Q) a w):Y7 P (p++[0,1,2]) c Q (.exit id) a w:=by
 refine(cq9 [0,1,2] (.exit id) p c Q hk).2 ?_;rw[h];show(if id=id then y.wp P (Y7 P p c Q) a w else _);rw[if_pos rfl];exact hw
end Sy
end Go.Proofs.YtnlcpcmdlcakgaaGreat
