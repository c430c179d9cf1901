/- A part of the proof that a connection answers as the document says: CnL CnM Cf1. -/
import Derived.Test.YtnlcpcmdlcakgaaGreatKh27
set_option maxRecDepth 100000
set_option maxHeartbeats 4000000
set_option linter.unusedVariables false
set_option linter.unusedSimpArgs false
set_option linter.unusedSectionVars false
open Go.Proofs.Tryz
namespace Go.Proofs.YtnlcpcmdlcakgaaGreat
open Go.RowKit Sy
def H8(X:Cs)(is:List Int)(bs:List Bool)(ss:List ByteArray):Env:= { U9 is bs ss []with f:=cnF,o:=cnO,c:=fun n=>if n=0 then [K9 X.c]else if n=1 then X.L else if n=2 then Y3 X.R else [] }
theorem L6(X:Cs)(is:List Int)(bs:List Bool)(ss:List ByteArray):CnEnv (H8 X is bs ss):=⟨fun i=>rfl,rfl,rfl,⟨X.c,rfl⟩⟩
def k0:Tm:= .ap 90 i9 j8 i9
def k1:Tm:= .ap 90 l9 j8 i9
def k2:Tm:= .ap 90 u0 j8 i9
def k3:Tm:= .ap 90 (.il 3) j8 i9
def k4:Tm:= .ap 90 s8 j8 i9
abbrev qaw:Tm:= .eq k4 i9
abbrev qa3:Tm:= .eq k4 s8
abbrev qa4:Tm:= .eq k4 u0
abbrev qa5:Tm:= .eq k4 (.il 8)
abbrev qa6:Tm:= .eq k4 (.il 7)
abbrev qbg:Tm:= .eq k4 (.il 9)
abbrev qb8:Tm:= .eq k4 l9
abbrev qcw:Tm:= .eq k4 (.il 3)
abbrev qdi:Tm:= .eq k4 (.il 6)
def k5:Tm:= .ap 90 (.il 5) j8 i9
abbrev qdc:Tm:= .eq k5 i9
abbrev qeq:SV:= .one (.c (.int .i64 (.add (.mul s8 (.ite (.not qdc) l9 i9)) l9)))
def k6:Tm:= .ap 90 (.il 6) j8 i9
abbrev qfe:Tm:= .md (.add k6 (.md (.iv 22) qca)) qca
abbrev qg3:Tm:= .eq l8 (.md (.add k6 l9) qca)
def k7:Tm:= .ap 90 (.il 7) j8 i9
def k8:Tm:= .ap 90 (.il 8) j8 i9
abbrev qed:Tm:= .ite (.lt o8 k8) o8 k8
def k9:Tm:= .ap 90 (.il 9) j8 i9
def A2:Tm:= .ap 90 (.il 10) j8 i9
abbrev qeh:Tm:= .eq p7 A2
abbrev qg1:Tm:= .eq A2 i9
def w8:Tm:= .ap 90 (.il 11) j8 i9
abbrev qco:Tm:= .lt w8 s6
abbrev qcp:Tm:= .eq s6 w8
def F5:Tm:= .ap 90 (.il 12) j8 i9
def V8:Tm:= .ap 90 (.il 13) j8 i9
abbrev qav:Tm:= .add V8 (.il 20)
abbrev qgc:Tm:= .ap 91 (.il 17) (.ap 91 s8 j8 (.il 9)) qav
def T6:Tm:= .ap 90 (.il 14) j8 i9
abbrev qch:Tm:= .lt T6 i9
abbrev qg0:Tm:= .le i9 T6
def Y0:Tm:= .ap 90 (.il 15) j8 i9
abbrev qbf:Tm:= .le (.add Y0 l9) (.il 8)
abbrev qeg:Tm:= .eq Y0 (.il 8)
def A3:Tm:= .ap 90 (.il 16) j8 i9
abbrev qaj:Tm:= .add A3 l9
abbrev qff:Tm:= .eq qaj (.il 3)
def k17:Tm:= .ap 90 (.il 17) j8 i9
def k18:Tm:= .ap 90 (.il 18) j8 i9
def k19:Tm:= .ap 90 (.il 19) j8 i9
def k20:Tm:= .ap 90 (.il 20) j8 i9
def k21:Tm:= .ap 90 (.il 21) j8 i9
abbrev qgl:Tm:= .le k21 j9
def k22:Tm:= .ap 90 (.il 22) j8 i9
def y6:Tm:= .ap 90 (.il 23) j8 i9
def w6:Tm:= .ap 90 (.il 24) j8 i9
abbrev qew:Tm:= .lt i9 w6
def y4:Tm:= .ap 90 (.il 25) j8 i9
abbrev qfg:Tm:= .eq (.sub y4 w6) i9
def y5:Tm:= .ap 90 (.il 26) j8 i9
abbrev qbn:Tm:= .tb .app j6 (.tb qb9 (.md (.add k6 (.md y5 qca )) qca ) qao i9) i9
abbrev qc8:Tm:= .le i9 (.sub y5 w6)
def y8:Tm:= .ap 90 (.il 27) j8 i9
abbrev qaf:Tm:= .eq w6 (.add (.len y8) u0)
abbrev qcm:Tm:= .lt y4 (.add (.add (.len y8) (.ite y6 l9 i9)) l9)
def k28:Tm:= .ap 90 o6 j8 i9
def k29:Tm:= .ap 90 (.il 29) j8 i9
def k30:Tm:= .ap 90 (.il 30) j8 i9
abbrev qcn:Tm:= .ap 34 j5 k29 k30
abbrev qec:SV:= .one (.c (.int .i64 (.ite qcn l9 i9)))
def k31:Tm:= .ap 90 (.il 31) j8 i9
def k32:Tm:= .ap 90 (.il 32) j8 i9
def k33:Tm:= .ap 90 (.il 33) j8 i9
def I6:Tm:= .ap 90 (.il 34) j8 i9
abbrev qah:Tm:= .ap 109 I6 (.sub y4 w6) i9
def k35:Tm:= .ap 90 (.il 35) j8 i9
abbrev qdq:Tm:= .ite (.lt (.ite k20 l9 i9) (.ite (.lt k35 A2) k35 A2)) (.ite (.lt k35 A2) k35 A2) (.ite k20 l9 i9)
def k36:Tm:= .ap 90 (.il 36) j8 i9
def k37:Tm:= .ap 90 (.il 37) j8 i9
section
variable(X:Cs)(is:List Int)(bs:List Bool)(ss:List ByteArray)
theorem H7:(u9 (H8 X is bs ss) k0).i=X.c.la:=rfl
theorem H6:(u9 (H8 X is bs ss) k1).i=X.c.lp:=rfl
theorem H5:(u9 (H8 X is bs ss) k2).i=X.c.ra:=rfl
theorem G9:(u9 (H8 X is bs ss) k3).i=X.c.rp:=rfl
theorem G8:(u9 (H8 X is bs ss) k4).i=X.c.st:=rfl
theorem G7:(u9 (H8 X is bs ss) k5).i=X.c.why:=rfl
theorem G6:(u9 (H8 X is bs ss) k6).i=X.c.iss:=rfl
theorem G5:(u9 (H8 X is bs ss) k7).i=X.c.irs:=rfl
theorem G4:(u9 (H8 X is bs ss) k8).i=X.c.own:=rfl
theorem G3:(u9 (H8 X is bs ss) k9).i=X.c.mss:=rfl
theorem E4:(u9 (H8 X is bs ss) A2).i=X.c.wnd:=rfl
theorem E3:(u9 (H8 X is bs ss) w8).i=X.c.wat:=rfl
theorem E2:(u9 (H8 X is bs ss) F5).i=X.c.wak:=rfl
theorem E1:(u9 (H8 X is bs ss) V8).i=X.c.now:=rfl
theorem D9:(u9 (H8 X is bs ss) T6).i=X.c.clk:=rfl
theorem D8:(u9 (H8 X is bs ss) Y0).i=X.c.gone:=rfl
theorem D7:(u9 (H8 X is bs ss) A3).i=X.c.same:=rfl
theorem D6:(u9 (H8 X is bs ss) k17).i=X.c.ends:=rfl
theorem D5:(u9 (H8 X is bs ss) k18).b=X.c.owed:=rfl
theorem D4:(u9 (H8 X is bs ss) k19).b=X.c.again:=rfl
theorem D3:(u9 (H8 X is bs ss) k20).b=X.c.prb:=rfl
theorem D2:(u9 (H8 X is bs ss) k21).i=X.c.meas:=rfl
theorem D1:(u9 (H8 X is bs ss) k22).i=X.c.wen:=rfl
theorem D0:(u9 (H8 X is bs ss) y6).b=X.c.shut:=rfl
theorem C9:(u9 (H8 X is bs ss) w6).i=X.c.una:=rfl
theorem C8:(u9 (H8 X is bs ss) y4).i=X.c.cur:=rfl
theorem C7:(u9 (H8 X is bs ss) y5).i=X.c.snt:=rfl
theorem C6:(u9 (H8 X is bs ss) y8).s=X.c.all:=rfl
theorem C5:(u9 (H8 X is bs ss) k28).b=X.c.has:=rfl
theorem C4:(u9 (H8 X is bs ss) k29).i=X.c.rd:=rfl
theorem C3:(u9 (H8 X is bs ss) k30).i=X.c.fin:=rfl
theorem C2:(u9 (H8 X is bs ss) k31).i=X.c.mean:=rfl
theorem C1:(u9 (H8 X is bs ss) k32).i=X.c.spr:=rfl
theorem C0:(u9 (H8 X is bs ss) k33).i=X.c.dbl:=rfl
theorem B9:(u9 (H8 X is bs ss) I6).i=X.c.cm:=rfl
theorem B8:(u9 (H8 X is bs ss) k35).i=X.c.cz:=rfl
theorem B7:(u9 (H8 X is bs ss) k36).i=X.c.cs:=rfl
theorem B6:(u9 (H8 X is bs ss) k37).i=X.c.bg:=rfl
end
def Z7(c:Cn)(j:Nat)(d:Dn):Cn:=if aq9 j then c.aD8 j d.i else if av8 j then c.ay1 j d.b else c.bU7 j d.s
def E6(J:Env)(c:Cn):List (Nat × Tm)->Cn
 | []=>c
 | (j,t)::l=>E6 J (Z7 c j (u9 J t)) l
theorem T2(c:Cn)(d:Dn):Z7 c 0 d= { c with la:=d.i }:=rfl
theorem T1(c:Cn)(d:Dn):Z7 c 1 d= { c with lp:=d.i }:=rfl
theorem T0(c:Cn)(d:Dn):Z7 c 2 d= { c with ra:=d.i }:=rfl
theorem S9(c:Cn)(d:Dn):Z7 c 3 d= { c with rp:=d.i }:=rfl
theorem S8(c:Cn)(d:Dn):Z7 c 4 d= { c with st:=d.i }:=rfl
theorem S7(c:Cn)(d:Dn):Z7 c 5 d= { c with why:=d.i }:=rfl
theorem S6(c:Cn)(d:Dn):Z7 c 6 d= { c with iss:=d.i }:=rfl
theorem S5(c:Cn)(d:Dn):Z7 c 7 d= { c with irs:=d.i }:=rfl
theorem S4(c:Cn)(d:Dn):Z7 c 8 d= { c with own:=d.i }:=rfl
theorem S3(c:Cn)(d:Dn):Z7 c 9 d= { c with mss:=d.i }:=rfl
theorem Q5(c:Cn)(d:Dn):Z7 c 10 d= { c with wnd:=d.i }:=rfl
theorem Q4(c:Cn)(d:Dn):Z7 c 11 d= { c with wat:=d.i }:=rfl
theorem Q3(c:Cn)(d:Dn):Z7 c 12 d= { c with wak:=d.i }:=rfl
theorem Q2(c:Cn)(d:Dn):Z7 c 13 d= { c with now:=d.i }:=rfl
theorem Q0(c:Cn)(d:Dn):Z7 c 14 d= { c with clk:=d.i }:=rfl
theorem P9(c:Cn)(d:Dn):Z7 c 15 d= { c with gone:=d.i }:=rfl
theorem P8(c:Cn)(d:Dn):Z7 c 16 d= { c with same:=d.i }:=rfl
theorem P7(c:Cn)(d:Dn):Z7 c 17 d= { c with ends:=d.i }:=rfl
theorem P6(c:Cn)(d:Dn):Z7 c 18 d= { c with owed:=d.b }:=rfl
theorem P5(c:Cn)(d:Dn):Z7 c 19 d= { c with again:=d.b }:=rfl
theorem P4(c:Cn)(d:Dn):Z7 c 20 d= { c with prb:=d.b }:=rfl
theorem P3(c:Cn)(d:Dn):Z7 c 21 d= { c with meas:=d.i }:=rfl
theorem P2(c:Cn)(d:Dn):Z7 c 22 d= { c with wen:=d.i }:=rfl
theorem P1(c:Cn)(d:Dn):Z7 c 23 d= { c with shut:=d.b }:=rfl
theorem P0(c:Cn)(d:Dn):Z7 c 24 d= { c with una:=d.i }:=rfl
theorem O9(c:Cn)(d:Dn):Z7 c 25 d= { c with cur:=d.i }:=rfl
theorem O8(c:Cn)(d:Dn):Z7 c 26 d= { c with snt:=d.i }:=rfl
theorem O7(c:Cn)(d:Dn):Z7 c 27 d= { c with all:=d.s }:=rfl
theorem bI3(c:Cn)(d:Dn):Z7 c 28 d= { c with has:=d.b }:=rfl
theorem O6(c:Cn)(d:Dn):Z7 c 29 d= { c with rd:=d.i }:=rfl
theorem O5(c:Cn)(d:Dn):Z7 c 30 d= { c with fin:=d.i }:=rfl
theorem O4(c:Cn)(d:Dn):Z7 c 31 d= { c with mean:=d.i }:=rfl
theorem O3(c:Cn)(d:Dn):Z7 c 32 d= { c with spr:=d.i }:=rfl
theorem O2(c:Cn)(d:Dn):Z7 c 33 d= { c with dbl:=d.i }:=rfl
theorem O1(c:Cn)(d:Dn):Z7 c 34 d= { c with cm:=d.i }:=rfl
theorem O0(c:Cn)(d:Dn):Z7 c 35 d= { c with cz:=d.i }:=rfl
theorem L9(c:Cn)(d:Dn):Z7 c 36 d= { c with cs:=d.i }:=rfl
theorem L8(c:Cn)(d:Dn):Z7 c 37 d= { c with bg:=d.i }:=rfl
theorem kdA(X:Cs)(is:List Int)(bs:List Bool)(ss:List ByteArray):((u9 (H8 X is bs ss) k0).i=X.c.la)/\((u9 (H8 X is bs ss) k1).i=X.c.lp)/\((u9 (H8 X is bs ss) k2).i=X.c.ra)/\((u9 (H8 X is bs ss) k3).i=X.c.rp)/\((u9 (H8 X is bs ss) k4).i=X.c.st)/\((u9 (H8 X is bs ss) k5).i=X.c.why)/\((u9 (H8 X is bs ss) k6).i=X.c.iss)/\((u9 (H8 X is bs ss) k7).i=X.c.irs)/\((u9 (H8 X is bs ss) k8).i=X.c.own)/\((u9 (H8 X is bs ss) k9).i=X.c.mss)/\((u9 (H8 X is bs ss) A2).i=X.c.wnd)/\((u9 (H8 X is bs ss) w8).i=X.c.wat)/\((u9 (H8 X is bs ss) F5).i=X.c.wak)/\((u9 (H8 X is bs ss) V8).i=X.c.now)/\((u9 (H8 X is bs ss) T6).i=X.c.clk)/\((u9 (H8 X is bs ss) Y0).i=X.c.gone)/\((u9 (H8 X is bs ss) A3).i=X.c.same)/\((u9 (H8 X is bs ss) k17).i=X.c.ends)/\((u9 (H8 X is bs ss) k18).b=X.c.owed)/\((u9 (H8 X is bs ss) k19).b=X.c.again)/\((u9 (H8 X is bs ss) k20).b=X.c.prb)/\((u9 (H8 X is bs ss) k21).i=X.c.meas)/\((u9 (H8 X is bs ss) k22).i=X.c.wen)/\((u9 (H8 X is bs ss) y6).b=X.c.shut)/\((u9 (H8 X is bs ss) w6).i=X.c.una)/\((u9 (H8 X is bs ss) y4).i=X.c.cur)/\((u9 (H8 X is bs ss) y5).i=X.c.snt)/\((u9 (H8 X is bs ss) y8).s=X.c.all)/\((u9 (H8 X is bs ss) k28).b=X.c.has)/\((u9 (H8 X is bs ss) k29).i=X.c.rd)/\((u9 (H8 X is bs ss) k30).i=X.c.fin)/\((u9 (H8 X is bs ss) k31).i=X.c.mean)/\((u9 (H8 X is bs ss) k32).i=X.c.spr)/\((u9 (H8 X is bs ss) k33).i=X.c.dbl)/\((u9 (H8 X is bs ss) I6).i=X.c.cm)/\((u9 (H8 X is bs ss) k35).i=X.c.cz)/\((u9 (H8 X is bs ss) k36).i=X.c.cs)/\((u9 (H8 X is bs ss) k37).i=X.c.bg):=⟨rfl,rfl,rfl,rfl,rfl,rfl,rfl,rfl,rfl,rfl,rfl,rfl,rfl,rfl,rfl,rfl,rfl,rfl,rfl,rfl,rfl,rfl,rfl,rfl,rfl,rfl,rfl,rfl,rfl,rfl,rfl,rfl,rfl,rfl,rfl,rfl,rfl,rfl⟩
theorem svA(c:Cn)(d:Dn):(Z7 c 0 d= { c with la:=d.i })/\(Z7 c 1 d= { c with lp:=d.i })/\(Z7 c 2 d= { c with ra:=d.i })/\(Z7 c 3 d= { c with rp:=d.i })/\(Z7 c 4 d= { c with st:=d.i })/\(Z7 c 5 d= { c with why:=d.i })/\(Z7 c 6 d= { c with iss:=d.i })/\(Z7 c 7 d= { c with irs:=d.i })/\(Z7 c 8 d= { c with own:=d.i })/\(Z7 c 9 d= { c with mss:=d.i })/\(Z7 c 10 d= { c with wnd:=d.i })/\(Z7 c 11 d= { c with wat:=d.i })/\(Z7 c 12 d= { c with wak:=d.i })/\(Z7 c 13 d= { c with now:=d.i })/\(Z7 c 14 d= { c with clk:=d.i })/\(Z7 c 15 d= { c with gone:=d.i })/\(Z7 c 16 d= { c with same:=d.i })/\(Z7 c 17 d= { c with ends:=d.i })/\(Z7 c 18 d= { c with owed:=d.b })/\(Z7 c 19 d= { c with again:=d.b })/\(Z7 c 20 d= { c with prb:=d.b })/\(Z7 c 21 d= { c with meas:=d.i })/\(Z7 c 22 d= { c with wen:=d.i })/\(Z7 c 23 d= { c with shut:=d.b })/\(Z7 c 24 d= { c with una:=d.i })/\(Z7 c 25 d= { c with cur:=d.i })/\(Z7 c 26 d= { c with snt:=d.i })/\(Z7 c 27 d= { c with all:=d.s })/\(Z7 c 29 d= { c with rd:=d.i })/\(Z7 c 30 d= { c with fin:=d.i })/\(Z7 c 31 d= { c with mean:=d.i })/\(Z7 c 32 d= { c with spr:=d.i })/\(Z7 c 33 d= { c with dbl:=d.i })/\(Z7 c 34 d= { c with cm:=d.i })/\(Z7 c 35 d= { c with cz:=d.i })/\(Z7 c 36 d= { c with cs:=d.i })/\(Z7 c 37 d= { c with bg:=d.i }):=⟨rfl,rfl,rfl,rfl,rfl,rfl,rfl,rfl,rfl,rfl,rfl,rfl,rfl,rfl,rfl,rfl,rfl,rfl,rfl,rfl,rfl,rfl,rfl,rfl,rfl,rfl,rfl,rfl,rfl,rfl,rfl,rfl,rfl,rfl,rfl,rfl,rfl⟩
def chL(Y:Tm):List (Nat × Tm)->List (Nat × Tm)
 | []=>[]
 | (j,t)::l=>if E7 t (S0 (j:Int) Y)then chL Y l else(j,t)::chL Y l
def a89(Y:Tm)(ts:List Tm):List (Nat × Tm):=chL Y ((List.range 38).map fun j=>(j,tj ts j))
theorem dt6{J:Env}(hf:J.f=cnF){Y:Tm}{c:Cn}(h:hd (u9 J Y)=K9 c)(j:Nat)(t:Tm):hd (u9 J (bv7 Y j t))=K9 (Z7 c j (u9 J t)):=by
 unfold bv7 Z7;split
 .rw[F3 hf];show K9 ((R7 (hd (u9 J Y))).aD8 j (u9 J t).i)=_;rw[h,U7]
 .split
  .rw[F3 hf];show K9 ((R7 (hd (u9 J Y))).ay1 j (u9 J t).b)=_;rw[h,U7]
  .rw[F3 hf];show K9 ((R7 (hd (u9 J Y))).bU7 j (u9 J t).s)=_;rw[h,U7]
theorem bg2{J:Env}(hf:J.f=cnF){Y:Tm}:∀{l:List (Nat × Tm)} {acc:Tm} {c:Cn},hd (u9 J acc)=K9 c->hd (u9 J (ay8 Y acc l))=K9 (E6 J c (chL Y l))
 | [],_,_,h=>h
 | (j,t)::l,acc,c,h=>by
   unfold ay8 chL;split
   .exact bg2 hf h
   .exact bg2 hf (dt6 hf h j t)
theorem c17{c d:Cn}(h:K9 c=K9 d):c=d:=by
 have:=congrArg R7 h;rwa[U7,U7]at this
theorem bZ2{J:Env}(E:CnEnv J){c:Cn}{Y:Tm}(h0:hd (u9 J Y)=K9 c)(ts:List Tm):cnT J ts=E6 J c (a89 Y ts):=
 c17 ((bP9 E ⟨c,h0⟩ ts).symm.trans (bg2 E.f h0))
def cnY(J:Env)(c:Cn):Tm->Cn
 | .cv 0=>c
 | Y=>B4 J Y
theorem bZ1{J:Env}(E:CnEnv J){c:Cn}(h0:hd (u9 J j8)=K9 c){Y:Tm}(h:ah5 Y=true):hd (u9 J Y)=K9 (cnY J c Y):=by
 unfold cnY;split
 .exact h0
 .exact(bO8 E h).cnD
inductive Cm where
 | must (t:Tm) (pc:List Tm)
 | ret (v:SV) (Y:Tm) (ch:List (Nat × Tm)) (L R:Tm) (pc:List Tm)
 deriving Repr,Inhabited
def dL0(s:Sy.St)(v:SV):Option Cm:=match crP ⟨[],s.hp,s.cx,s.nx⟩ 0 with
 | some rd=>match rd.ms with
   | []=>if ah5 rd.Y then some (.ret v rd.Y (a89 rd.Y rd.ts) rd.L rd.R s.cx.pc)else none
   | _=>none
 | none=>none
def Sy.Lf.cm(P:Program)(fn:Func):Lf->Option Cm
 | .must t s=>some (.must t s.cx.pc)
 | .out (.exit _) _=>none
 | .out _ s=>match aD7 P s fn.results.toList with
   | some v=>dL0 s v
   | none=>none
def cmL(P:Program)(fn:Func):List Lf->Option (List Cm)
 | []=>some []
 | x::l=>match Sy.Lf.cm P fn x,cmL P fn l with
   | some y,some ys=>some (y::ys)
   | _,_=>none
def cmR(P:Program)(fn:Func):Rs->Option (List Cm)
 | .ok l=>cmL P fn l
 | .error _=>none
def Cm.bI1(J:Env)(c:Cn)(T:(Bn->Value)->Cn->Rws->List Int->Prop):Cm->Prop
 | .must t pc=>A6 J pc->(u9 J t).b=true
 | .ret v Y ch L R pc=>A6 J pc->T (fun N=>v.A1 J N) (E6 J (cnY J c Y) ch) (u9 J L).c (rsL (u9 J R).c)
def bd9(v:Value)(X':Cs)(u:Bn->Value)(c:Cn)(L:Rws)(R:List Int):Prop:=(∀ N,u N=v)/\ { c with bg:=X'.c.bg } =X'.c/\(X'.c.has=true->L=X'.L)/\R=X'.R
theorem PcW.of{w:World}{g:Nat}{a:Pa}{c:Cn}{L:Rws}{R:List Int}(W:PcW w g a ⟨c,L,R⟩){X':Cs}(h1: { c with bg:=X'.c.bg } =X'.c)(h2:X'.c.has=true->L=X'.L)(h3:R=X'.R):PcW w g a X':=by
 have e:∀{α:Type} (f:Cn->α),f { c with bg:=X'.c.bg } =f X'.c:=fun f=>by rw[h1]
 refine W.cZ7 (fun n=>(e fun c=>aU1 c a n).symm) (e Cn.ou).symm ⟨(e Cn.mean).symm,(e Cn.spr).symm,(e Cn.dbl).symm⟩ (e Cn.has).symm ?_ ?_ h3.symm
 .intro q;have q':X'.c.has=true:=(e Cn.has).symm.trans q;exact⟨(e Cn.rd).symm,(e Cn.fin).symm,(h2 q').symm⟩
 .intro q;exact⟨(e Cn.cm).symm,(e Cn.cz).symm,(e Cn.cs).symm⟩
theorem cG3{P:Program}{fn:Func}{X:Cs}{is:List Int}{bs:List Bool}{ss:List ByteArray}{w:World}{g:Nat}{a:Pa}{has:Bool}{T:(Bn->Value)->Cn->Rws->List Int->Prop}{Q:Value->World->Prop}
 (hQ:∀(v:SV) (N:Bn) (w':World) (c:Cn) (L:Rws) (R:List Int),T (fun N=>v.A1 (H8 X is bs ss) N) c L R->(∃ a':Pa,PcW w' g a' ⟨c,L,R⟩/\∀ i∈X4 a' g c.has,i∈X4 a g has\/w.heap.size<=i)->Only (fun i=>i∈X4 a g has) w w'->Q (v.A1 (H8 X is bs ss) N) w'):
 ∀{l:List Lf} {ys:List Cm},cmL P fn l=some ys->aC6 (Cm.bI1 (H8 X is bs ss) X.c T) ys->aC6 (Lf.ag4 P fn ⟨H8 X is bs ss,fun i=>i∈X4 a g has,w,V0 (fun _=>g) 2 a,12⟩ Q) l
 | [],ys,_,_=>trivial
 | x::l,ys,h,hd_=>by
   unfold cmL at h;split at h
   .rename_i y ys' hx hl;injection h with h;subst h;obtain⟨d1,d2⟩:=hd_;refine⟨?_,cG3 hQ hl d2⟩;unfold Sy.Lf.cm at hx;split at hx
    .rename_i t s;injection hx with hx;subst hx;exact fun N a' w' hM=>d1 (aX6 hM.cx.pc)
    .cases hx
    .rename_i e s hne;split at hx
     .rename_i v hv;unfold dL0 at hx;split at hx
      .rename_i rd hr;split at hx
       .rename_i hms;split at hx
        .rename_i hrow;injection hx with hx;subst hx;have key:∀ N a' w',Md (H8 X is bs ss) (fun i=>i∈X4 a g has) w (V0 (fun _=>g) 2 a) 12 s N a' w'->Q (v.A1 (H8 X is bs ss) N) w':=fun N a' w' hM=>by
          have hT:=d1 (aX6 hM.cx.pc);have hH:Hp (H8 X is bs ss) (fun i=>i∈X4 a g has) w (V0 (fun _=>g) 2 a) 12 s.hp N w':=⟨hM.hp,hM.ne,hM.may,hM.only,hM.old⟩;obtain⟨a'',K,e0,hF⟩:=bP7 (J:=H8 X is bs ss) rfl hH hr hM.cx bR bA;have e0':N 0=g:=e0;have W:=K.W;rw[e0']at W hF;have ec:=bZ2 (L6 X is bs ss) (bZ1 (c:=X.c) (L6 X is bs ss) rfl hrow) rd.ts;refine hQ v N w' _ _ _ hT ⟨a'',ec ▸ W,fun i hi=>hF i ?_⟩ hH.only;rw[<-ec,K.has]at hi;exact hi
         unfold Lf.ag4;cases e with
         | exit n=>exact absurd rfl (hne n)
         | normal=>simp only;rw[hv];exact key
         | ret=>simp only;rw[hv];exact key
        .cases hx
       .cases hx
      .cases hx
     .cases hx
   .cases h
def rnC(P:Program)(fn:Func)(sp:List Sy.Spec)(xs:List SV)(has:Bool)(cx:Cx):Option (List Cm):=cmR P fn (R6 P sp 10 400 12 (.code (y7 fn)) (L3 fn (.one (.c (.ptr 0 0))::xs) ⟨[],a12 0 2 has (tsY j8 has) j5 j6,cx,12⟩))
theorem aA0{sp:List Sy.Spec}{X:Cs}{is:List Int}{bs:List Bool}{ss:List ByteArray}(hsp:∀ q∈sp,q.Ok prog (H8 X is bs ss)){f:FuncId}{fn:Func}(hf:prog.funcs[f]? =some fn)(hb:fn.body.isSome=true){has:Bool}{cx:Cx}{xs:List SV}{ys:List Cm}
 (hrun:rnC prog fn sp xs has cx=some ys) {w:World} {g:Nat} {a:Pa} (W:PcW w g a X) (hh:X.c.has=has) (hc:cx.ok (H8 X is bs ss)) {v:Value} {X':Cs}
 (hR:aC6 (Cm.bI1 (H8 X is bs ss) X.c (bd9 v X')) ys) {args:Array Value} (hargs:args=#[.pointer (some ⟨g,0,none⟩)]++(xs.map (SV.A1 (H8 X is bs ss) (V0 (fun _=>g) 2 a))).toArray):Calls prog f args w (F7 fun v' w'=>v'=v/\aS4 w w' g (X4 a g has) X'):=by
 have T:Tells (H8 X is bs ss) has (tsY j8 has) j5 j6 X:=bV7 rfl rfl hh (fun _=>rfl) rfl;have hM:=cN0 (J:=H8 X is bs ss) rfl W T hc;unfold rnC cmR at hrun;split at hrun
 .rename_i l hl;have hb':fn.body=some (y7 fn):=by unfold y7;cases q:fn.body with
   | none=>rw[q]at hb;cases hb
   | some c=>rfl
  refine aq0 (B:=⟨H8 X is bs ss,fun i=>i∈X4 a g has,w,V0 (fun _=>g) 2 a,12⟩) (fun i=>rfl) hsp 10 400 hf hb' hl hM (R:=fun v' w'=>v'=v/\aS4 w w' g (X4 a g has) X') (cG3 (fun v' N w' c L R hT hW ho=>?_) hrun hR) ?_
  .obtain⟨t1,t2,t3,t4⟩:=hT;obtain⟨a',W',hF⟩:=hW;have ch:c.has=X'.c.has:=by rw[<-t2]
   exact⟨t1 N,X4 a' g X'.c.has,⟨a',W'.of t2 t3 t4,rfl⟩,ho,fun i hi=>hF i (by rw[ch];exact hi)⟩
  .rw[hargs];simp;rfl
 .cases hrun
def pcS:List Sy.Spec:=[dK0,dP8,dK7,dO8,cd2,dP9,dQ2,dJ7,dQ3,dL9,dO6,dN9,dN8,dN6,dN4,dN7,dN5,dK3,dK1,dK2,ch7,dQ4,dM4,dJ9,dJ8,dJ6]
def szB:List Bd:=[⟨.len y8,0,4503599627370496⟩,⟨L7 j6,0,1099511627776⟩]
def rgB:List Bd:=[⟨k0,0,4294967295⟩,⟨k1,0,65535⟩,⟨k2,0,4294967295⟩,⟨k3,0,65535⟩,⟨k4,0,9⟩,⟨k5,0,19⟩,⟨k6,0,4294967295⟩,⟨k7,0,4294967295⟩,⟨k8,8,1000⟩,⟨k9,8,1000⟩,⟨A2,0,65535⟩,⟨w8,-2305843009213693952,2305843009213693952⟩,⟨F5,-2305843009213693952,2305843009213693952⟩,
 ⟨V8,0,1099511627776⟩,⟨T6,-1,1099511627776⟩,⟨Y0,0,8⟩,⟨A3,0,1152921504606846976⟩,⟨k17,0,2199023255552⟩,⟨k21,0,1152921504606846976⟩,⟨k22,0,1099511627776⟩,⟨w6,0,1152921504606846976⟩,⟨y4,0,1152921504606846976⟩,⟨y5,0,1152921504606846976⟩,⟨.sub y4 w6,0,1152921504606846976⟩,⟨.sub V8 k22,0,1099511627776⟩,⟨.sub y5 y4,0,1152921504606846976⟩]
def hsB:Bool->List Bd
 | true=>[⟨I6,8,1000⟩,⟨k35,8,65535⟩,⟨k36,0,65535⟩]
 | false=>[]
def V5(has:Bool)(bs:List Bd):Cx:=⟨bs++(hsB has++(rgB++szB)),[]⟩
theorem aR0{J:Env}(E:CnEnv J):∀ q∈pcS,q.Ok prog J:=by
 intro q hq;unfold pcS at hq;rcases aa.1 hq with rfl|hq
 .exact ct7 E.o
 rcases aa.1 hq with rfl|hq
 .exact c49 E.o
 rcases aa.1 hq with rfl|hq
 .exact cu9 E.o
 rcases aa.1 hq with rfl|hq
 .exact c12 E.o
 rcases aa.1 hq with rfl|hq
 .exact cd1 E.f E.o
 rcases aa.1 hq with rfl|hq
 .exact c50 E.o
 rcases aa.1 hq with rfl|hq
 .exact c58 E.o
 rcases aa.1 hq with rfl|hq
 .exact ct2 E.f E.o
 rcases aa.1 hq with rfl|hq
 .exact c78 E.f E.o
 rcases aa.1 hq with rfl|hq
 .exact cy5 E.f E.o
 rcases aa.1 hq with rfl|hq
 .exact c08 E.f E.o
 rcases aa.1 hq with rfl|hq
 .exact c01 E.f E.o
 rcases aa.1 hq with rfl|hq
 .exact c00 E.f E.o
 rcases aa.1 hq with rfl|hq
 .exact cz8 E.f E.o
 rcases aa.1 hq with rfl|hq
 .exact cz6 E.f E.o
 rcases aa.1 hq with rfl|hq
 .exact cz9 E.f E.o
 rcases aa.1 hq with rfl|hq
 .exact cz7 E.f E.o
 rcases aa.1 hq with rfl|hq
 .exact cu1 E.f E.o
 rcases aa.1 hq with rfl|hq
 .exact ct8 E.f E.o
 rcases aa.1 hq with rfl|hq
 .exact ct9 E.f E.o
 rcases aa.1 hq with rfl|hq
 .exact ch6 E.f
 rcases aa.1 hq with rfl|hq
 .exact c81 E.f
 rcases aa.1 hq with rfl|hq
 .exact cz1 E.g
 rcases aa.1 hq with rfl|hq
 .exact ct6 E.f
 rcases aa.1 hq with rfl|hq
 .exact ct3 E.f
 rcases aa.1 hq with rfl|hq
 .exact ct1 E.f
 cases hq
structure SzX(X:Cs):Prop where
 a:X.c.all.size<=4503599627370496
 r:X.R.length<=1099511627776
structure RgX(c:Cn):Prop where
 r0:0<=c.la/\c.la<=4294967295
 r1:0<=c.lp/\c.lp<=65535
 r2:0<=c.ra/\c.ra<=4294967295
 r3:0<=c.rp/\c.rp<=65535
 r4:0<=c.st/\c.st<=9
 r5:0<=c.why/\c.why<=19
 r6:0<=c.iss/\c.iss<=4294967295
 r7:0<=c.irs/\c.irs<=4294967295
 r8:8<=c.own/\c.own<=1000
 r9:8<=c.mss/\c.mss<=1000
 r10:0<=c.wnd/\c.wnd<=65535
 r11: -2305843009213693952<=c.wat/\c.wat<=2305843009213693952
 r12: -2305843009213693952<=c.wak/\c.wak<=2305843009213693952
 r13:0<=c.now/\c.now<=1099511627776
 r14: -1<=c.clk/\c.clk<=1099511627776
 r15:0<=c.gone/\c.gone<=8
 r16:0<=c.same/\c.same<=1152921504606846976
 r17:0<=c.ends/\c.ends<=2199023255552
 r21:0<=c.meas/\c.meas<=1152921504606846976
 r22:0<=c.wen/\c.wen<=1099511627776
 r24:0<=c.una/\c.una<=1152921504606846976
 r25:0<=c.cur/\c.cur<=1152921504606846976
 r26:0<=c.snt/\c.snt<=1152921504606846976
 d1:c.una<=c.cur
 d2:c.wen<=c.now
 d3:c.cur<=c.snt
 h:c.has=true->(8<=c.cm/\c.cm<=1000)/\(8<=c.cz/\c.cz<=65535)/\(0<=c.cs/\c.cs<=65535)
theorem bE2{X:Cs}{is:List Int}{bs:List Bool}{ss:List ByteArray}(h:SzX X):X5 (H8 X is bs ss) szB:=by
 have h1:=h.a;have h2:=h.r;refine Z6 ⟨⟨?_,?_⟩,⟨?_,?_⟩,trivial⟩
 .show(0:Int)<=(X.c.all.size:Int);omega
 .show(X.c.all.size:Int)<=4503599627370496;omega
 .show(0:Int)<=((Y3 X.R).length:Int);omega
 .show((Y3 X.R).length:Int)<=1099511627776;rw[aT8];omega
theorem aH3{J:Env}{a b:List Bd}(h1:X5 J a)(h2:X5 J b):X5 J (a++b):=fun x hx=>(aC.1 hx).elim (h1 x) (h2 x)
theorem bw5{X:Cs}{is:List Int}{bs:List Bool}{ss:List ByteArray}(h:RgX X.c):X5 (H8 X is bs ss) rgB:=by
 have h1:=h.r25;have h2:=h.r24;have h3:=h.d1;have h4:=h.d2;have h5:=h.r13;have h6:=h.r22;have h7:=h.d3;have h8:=h.r26;refine Z6 ⟨h.r0,h.r1,h.r2,h.r3,h.r4,h.r5,h.r6,h.r7,h.r8,h.r9,h.r10,h.r11,h.r12,h.r13,h.r14,h.r15,h.r16,h.r17,h.r21,h.r22,h.r24,h.r25,h.r26,⟨?_,?_⟩,⟨?_,?_⟩,⟨?_,?_⟩,trivial⟩
 .show 0<=X.c.cur - X.c.una;omega
 .show X.c.cur - X.c.una<=1152921504606846976;omega
 .show 0<=X.c.now - X.c.wen;omega
 .show X.c.now - X.c.wen<=1099511627776;omega
 .show 0<=X.c.snt - X.c.cur;omega
 .show X.c.snt - X.c.cur<=1152921504606846976;omega
theorem Z1{X:Cs}{is:List Int}{bs:List Bool}{ss:List ByteArray}{has:Bool}(hh:X.c.has=has)(h1:SzX X)(h2:RgX X.c){xs:List Bd}(h3:X5 (H8 X is bs ss) xs):(V5 has xs).ok (H8 X is bs ss):=by
 refine⟨aH3 h3 (aH3 ?_ (aH3 (bw5 h2) (bE2 h1))),fun t ht=>by cases ht⟩;cases has with
 | false=>exact aG5 _
 | true=>
   obtain⟨q1,q2,q3⟩:=h2.h hh;exact Z6 ⟨q1,q2,q3,trivial⟩
theorem aw0(J:Env)(t:Tm):(u9 J (.ite t l9 i9)).i=b2 (u9 J t).b:=by
 rw[aD5];rfl
theorem F8(X:Cs)(is:List Int)(bs:List Bool)(ss:List ByteArray):(u9 (H8 X is bs ss) (.ite y6 l9 i9)).i=b2 X.c.shut:=aw0 ..
theorem tmA(J:Env):(∀(x:Tm) (y:Tm),((u9 J (.lt x y)).b=true)=((u9 J x).i<(u9 J y).i))/\(∀(x:Tm) (y:Tm),((u9 J (.le x y)).b=true)=((u9 J x).i<=(u9 J y).i))/\(∀(x:Tm) (y:Tm),((u9 J (.eq x y)).b=true)=((u9 J x).i=(u9 J y).i))/\(∀(x:Tm),((u9 J (.not x)).b=true)=¬((u9 J x).b=true))/\(∀(n:Nat),(u9 J (.bv n)).b=J.b n)/\(∀(x:Tm) (y:Tm),((u9 J (.and x y)).b=true)=((u9 J x).b=true/\(u9 J y).b=true))/\(∀(x:Tm) (y:Tm),((u9 J (.or x y)).b=true)=((u9 J x).b=true\/(u9 J y).b=true))/\(∀(b:Bool),(u9 J (.bl b)).b=b)/\(∀(x:Tm) (y:Tm),(u9 J (.add x y)).i=(u9 J x).i+(u9 J y).i)/\(∀(x:Tm) (y:Tm),(u9 J (.sub x y)).i=(u9 J x).i - (u9 J y).i)/\(∀(k:Int),(u9 J (.il k)).i=k)/\(∀(n:Nat),(u9 J (.iv n)).i=J.i n)/\(∀(x:Tm),(u9 J (.len x)).i=((u9 J x).s.size:Int)):=⟨A7 J,E5 J,A9 J,y9 J,G1 J,F4 J,I7 J,I3 J,z7 J,E9 J,A0 J,F0 J,A8 J⟩
theorem A4(l:List Int):rsL (Y3 l)=l:=by
 unfold rsL Y3;rw[List.map_map];exact(aG fun n _=>rfl).trans (List.map_id l)
theorem ad9{X:Cs}{b:Bool}(hh:X.c.has=b)(J:Env)(c:Cn):Z7 c 28 (u9 J (.bl b))= { c with has:=X.c.has }:=by
 rw[hh];rfl
abbrev qhb:List (Nat × Tm):=[⟨28,l4⟩]
abbrev qha:List (Nat × Tm):=⟨14,(.il (-1))⟩::qhb
abbrev wa4:List (Tq8 Cm):=[.l (.ret (.tup []) j8 (qha) j5 j6)]
abbrev waw:List (Tq8 Cm):=wa4++wa4
abbrev wbg:List (Tq8 Cm):=[.b qch,.l (.ret (.tup []) j8 (⟨14,V8⟩::qhb) j5 j6),.l (.ret (.tup []) j8 (qhb) j5 j6)]++waw
theorem dV7:rnC prog f45 pcS [] false ⟨szB,[]⟩=some (fq8 ([.d (.lt w6 y4),.b qg1,.b qew,.d qaw,.d qbg,.d qcm]++wa4++wbg++[.d qaw,.d qbg]++waw++wa4++[.d qaw,.d qbg]++waw++wa4++[.d qaw,.d qbg]++wbg) [[]]):=by kernel_rfl
abbrev qhd:List (Nat × Tm):=[⟨28,l6⟩]
abbrev qhc:List (Nat × Tm):=⟨14,(.il (-1))⟩::qhd
abbrev wa5:List (Tq8 Cm):=[.l (.ret (.tup []) j8 (qhc) j5 j6)]
abbrev waU:List (Tq8 Cm):=[.l (.ret (.tup []) j8 (qhd) j5 j6)]
abbrev wax:List (Tq8 Cm):=wa5++wa5
theorem dV6:rnC prog f45 pcS [] true ⟨szB,[]⟩=some (fq8 ([.d (.lt w6 y4),.b qg1,.b qew,.d qaw,.d qbg,.d qcm]++wa5++[.b qch,.l (.ret (.tup []) j8 (⟨14,V8⟩::qhd) j5 j6)]++waU++wax++[.d qaw,.d qbg]++wax++wa5++[.d qaw,.d qbg]++wax++wa5++[.d qaw,.d qbg,.b qch,.l (.ret (.tup []) j8 (⟨14,V8⟩::qhd) j5 j6)]++waU++wax) [[]]):=by kernel_rfl
theorem bv6{w:World}{g:Nat}{a:Pa}{X:Cs}(W:PcW w g a X)(hz:SzX X):Calls prog 45 #[.pointer (some ⟨g,0,none⟩)] w (F7 fun v w'=>v= .tuple #[]/\aS4 w w' g (X4 a g X.c.has) ⟨X.c.F6,X.L,X.R⟩):=by
 have hl:X.c.F6.bg=X.c.F6.bg:=rfl;cases hh:X.c.has with
 | false=>
   refine aA0 (is:=[]) (bs:=[]) (ss:=[]) (aR0 (L6 ..)) func45 rfl dV7 W hh ⟨bE2 hz,fun t ht=>by cases ht⟩ ⟨?_,?_,?_,?_,?_,?_,?_,?_,?_,?_,?_,?_,?_,?_,?_,trivial⟩ rfl;all_goals
    intro hpc;replace hpc:A6 (H8 X [] [] []) _:=hpc;simp only[A6,tmA,F8,kdA,and_true]at hpc;refine⟨fun N=>rfl,?_,fun _=>rfl,A4 _⟩;show({ E6 (H8 X [] [] []) X.c _ with bg:=X.c.F6.bg }:Cn)=X.c.F6;simp only[E6,svA,ad9 hh,kdA,A0];unfold Cn.F6;first
     | (rw[if_neg (show ¬X.c.aI5 from by unfold Cn.aI5 Cn.fen;omega)]<;>rfl)
     | (rw[if_pos (show X.c.aI5 from by unfold Cn.aI5 Cn.fen;omega),if_pos (show X.c.clk<0 from by omega)]<;>rfl)
     | (rw[if_pos (show X.c.aI5 from by unfold Cn.aI5 Cn.fen;omega),if_neg (show ¬X.c.clk<0 from by omega)]<;>rfl)
 | true=>
   refine aA0 (is:=[]) (bs:=[]) (ss:=[]) (aR0 (L6 ..)) func45 rfl dV6 W hh ⟨bE2 hz,fun t ht=>by cases ht⟩ ⟨?_,?_,?_,?_,?_,?_,?_,?_,?_,?_,?_,?_,?_,?_,?_,trivial⟩ rfl;all_goals
    intro hpc;replace hpc:A6 (H8 X [] [] []) _:=hpc;simp only[A6,tmA,F8,kdA,and_true]at hpc;refine⟨fun N=>rfl,?_,fun _=>rfl,A4 _⟩;show({ E6 (H8 X [] [] []) X.c _ with bg:=X.c.F6.bg }:Cn)=X.c.F6;simp only[E6,svA,ad9 hh,kdA,A0];unfold Cn.F6;first
     | (rw[if_neg (show ¬X.c.aI5 from by unfold Cn.aI5 Cn.fen;omega)]<;>rfl)
     | (rw[if_pos (show X.c.aI5 from by unfold Cn.aI5 Cn.fen;omega),if_pos (show X.c.clk<0 from by omega)]<;>rfl)
     | (rw[if_pos (show X.c.aI5 from by unfold Cn.aI5 Cn.fen;omega),if_neg (show ¬X.c.clk<0 from by omega)]<;>rfl)
namespace Cn
theorem bM5{c:Cn}{limit:Int}(h:¬c.ou.pN c.cur limit c.mss)(h0:0<=c.cur):c.cur<c.ou.aB6 limit c.mss/\c.ou.aB6 limit c.mss<=c.fen:=by
 have hNj:=h;unfold Ou.pN Ou.fen at h;have e1:c.ou.all=c.all:=rfl;have e2:c.ou.shut=c.shut:=rfl;have e3:c.ou.cur=c.cur:=rfl;rw[e1,e2]at h;have hb:=aL3 c.shut;have hb1:c.shut=true->b2 c.shut=1:=fun q=>by rw[q];rfl
 have hb0:c.shut=false->b2 c.shut=0:=fun q=>by rw[q];rfl
 unfold Ou.aB6 fen;rw[e3];by_cases hc:c.cur=0
 .have s1:c.ou.aB5 c.cur limit c.mss=true:=by unfold Ou.aB5;exact aD ⟨hNj,hc⟩
  have s2:c.ou.aI0 c.cur limit c.mss=false:=by unfold Ou.aI0;rw[if_pos (.inr hc)]
  have s3:(c.ou.aD6 c.cur limit c.mss).size=0:=by unfold Ou.aD6;rw[if_pos (.inr hc)];rfl
  rw[s1,s2,s3];have k1:b2 true=1:=rfl;have k0:b2 false=0:=rfl;omega
 .have hor:¬(c.ou.pN c.cur limit c.mss\/c.cur=0):=fun q=>q.elim hNj hc
  have s1:c.ou.aB5 c.cur limit c.mss=false:=by unfold Ou.aB5;exact aH fun q=>hc q.2
  have s3:(c.ou.aD6 c.cur limit c.mss).size=min (c.cur - 1+pcM ((c.all.size:Int)+1) c.cur limit c.mss).toNat c.all.size - (c.cur - 1).toNat:=by
   unfold Ou.aD6;rw[if_neg hor];simp[e1]
  have s2:c.ou.aI0 c.cur limit c.mss=(c.shut&&decide (c.cur+pcM ((c.all.size:Int)+1) c.cur limit c.mss=(c.all.size:Int)+1/\(c.all.size:Int)+1<limit)):=by
   unfold Ou.aI0;rw[if_neg hor,e1,e2]
  rw[s1,s2,s3];have k0:b2 false=0:=rfl;have k1:b2 true=1:=rfl;unfold pcM;cases hs:c.shut with
  | false=>
    rw[hs]at h;simp only[Bool.false_and,k0];rw[k0]at h;omega
  | true=>
    rw[hs]at h;rw[k1]at h;rw[Bool.true_and,k0];by_cases q:c.cur+max 0 (min (min limit ((c.all.size:Int)+1) - c.cur) c.mss)=(c.all.size:Int)+1/\(c.all.size:Int)+1<limit
    .rw[aD q,k1];omega
    .rw[aH q,k0];omega
theorem aq2{c:Cn}{L:Rws}{limit:Int}(h:c.ou.pN c.cur limit c.mss):∀ n,ay2 n c L limit=[]/\at8 n c limit=c
 | 0=>⟨rfl,rfl⟩
 | n+1=>by
   unfold ay2 at8;rw[if_pos h,if_pos h];exact⟨rfl,rfl⟩
theorem au9{c:Cn}{L:Rws}{limit:Int}(h:¬c.ou.pN c.cur limit c.mss)(n:Nat):ay2 (n+1) c L limit=c.aP4 L c.cur limit::ay2 n (c.Y1 limit) L limit/\at8 (n+1) c limit=at8 n (c.Y1 limit) limit:=by
 constructor
 .show(if c.ou.pN c.cur limit c.mss then []else _)=_;rw[if_neg h]
 .show(if c.ou.pN c.cur limit c.mss then c else _)=_;rw[if_neg h]
theorem aa8(c:Cn)(limit:Int):(c.Y1 limit).cur=c.ou.aB6 limit c.mss:=by unfold Y1;split<;>rfl
theorem dr3{L:Rws}{limit:Int}:∀(n:Nat) {c:Cn},0<=c.cur->(limit - c.cur).toNat<=n->ay2 n c L limit=ay2 (limit - c.cur).toNat c L limit/\at8 n c limit=at8 (limit - c.cur).toNat c limit:=by
 intro n
 induction n using Nat.strongRecOn with
 | _ n ih=>
   intro c h0 hn;by_cases h:c.ou.pN c.cur limit c.mss
   .rw[(aq2 (L:=L) h n).1,(aq2 (L:=L) h n).2,(aq2 (L:=L) h _).1,(aq2 (L:=L) h _).2];exact⟨rfl,rfl⟩
   .have hl:c.cur<limit:=by
     have q:=h;unfold Ou.pN at q;omega
    obtain⟨g1,_⟩:=bM5 h h0;obtain⟨m,hm⟩:∃ m,(limit - c.cur).toNat=m+1:=⟨(limit - c.cur).toNat - 1,by omega⟩;obtain⟨k,hk⟩:∃ k,n=k+1:=⟨n - 1,by omega⟩;subst hk;rw[hm,(au9 (L:=L) h k).1,(au9 (L:=L) h k).2,(au9 (L:=L) h m).1,(au9 (L:=L) h m).2];have c0:0<=(c.Y1 limit).cur:=by rw[aa8];omega
    have c1:(limit - (c.Y1 limit).cur).toNat<=m:=by rw[aa8];omega
    have a:=ih k U c0 U;have b:=ih m U c0 c1;rw[a.1,a.2,b.1,b.2];exact⟨rfl,rfl⟩
def goG(c:Cn)(L:Rws)(limit:Int):List Sg:=ay2 (limit - c.cur).toNat c L limit
def goC(c:Cn)(limit:Int):Cn:=at8 (limit - c.cur).toNat c limit
theorem bM6{c:Cn}{L:Rws}{limit:Int}(h:c.ou.pN c.cur limit c.mss):c.goG L limit=[]/\c.goC limit=c:=aq2 h _
theorem ca5{c:Cn}{L:Rws}{limit:Int}(h:¬c.ou.pN c.cur limit c.mss)(h0:0<=c.cur):c.goG L limit=c.aP4 L c.cur limit::(c.Y1 limit).goG L limit/\c.goC limit=(c.Y1 limit).goC limit:=by
 have hl:c.cur<limit:=by
  have q:=h;unfold Ou.pN at q;omega
 obtain⟨g1,_⟩:=bM5 h h0;obtain⟨m,hm⟩:∃ m,(limit - c.cur).toNat=m+1:=⟨(limit - c.cur).toNat - 1,by omega⟩;have c0:0<=(c.Y1 limit).cur:=by rw[aa8];omega
 have c1:(limit - (c.Y1 limit).cur).toNat<=m:=by rw[aa8];omega
 have b:=dr3 (L:=L) m c0 c1;unfold goG goC;rw[hm,(au9 (L:=L) h m).1,(au9 (L:=L) h m).2,b.1,b.2];exact⟨rfl,rfl⟩
structure Like(c d:Cn):Prop where
 e:d= { c with cur:=d.cur,snt:=d.snt,meas:=d.meas,wen:=d.wen }
 cur:c.cur<=d.cur
 ord:d.cur<=d.snt
 snt:d.snt<=max c.snt c.fen
 meas:0<=d.meas/\d.meas<=max c.meas (max c.snt c.fen)
 wen:d.wen=c.wen\/d.wen=c.now
theorem Like.bV0{c:Cn}(h:c.cur<=c.snt)(hm:0<=c.meas):Like c c:=⟨rfl,aF _,h,by omega,by omega, .inl rfl⟩
theorem Like.fen{c d:Cn}(h:Like c d):d.fen=c.fen:=by rw[h.e];rfl
theorem Like.dJ4{c d:Cn}(h:Like c d){limit:Int}(hp:¬d.ou.pN d.cur limit d.mss)(h0:0<=c.cur):Like c (d.Y1 limit):=by
 have hc:=h.cur;obtain⟨g1,g2⟩:=bM5 hp U;rw[h.fen]at g2;have ho:=h.ord;have hs:=h.snt;have hm:=h.meas;have hn:d.now=c.now:=by rw[h.e]
 have he:=h.e;unfold Y1;split
 .refine⟨?_,?_,?_,?_,?_, .inr hn⟩
  .rw[he]
  .show c.cur<=d.ou.aB6 limit d.mss;omega
  .show d.ou.aB6 limit d.mss<=max d.snt (d.ou.aB6 limit d.mss);omega
  .show max d.snt (d.ou.aB6 limit d.mss)<=max c.snt c.fen;omega
  .show 0<=d.ou.aB6 limit d.mss/\d.ou.aB6 limit d.mss<=max c.meas (max c.snt c.fen);omega
 .refine⟨?_,?_,?_,?_,?_,h.wen⟩
  .rw[he]
  .show c.cur<=d.ou.aB6 limit d.mss;omega
  .show d.ou.aB6 limit d.mss<=max d.snt (d.ou.aB6 limit d.mss);omega
  .show max d.snt (d.ou.aB6 limit d.mss)<=max c.snt c.fen;omega
  .exact hm
theorem Like.goC{c:Cn}{limit:Int}(h0:0<=c.cur):∀(n:Nat) {d:Cn},Like c d->(limit - d.cur).toNat<=n->Like c (d.goC limit):=by
 intro n
 induction n with
 | zero=>
   intro d h hn;have hp:d.ou.pN d.cur limit d.mss:=by unfold Ou.pN;omega
   rw[(bM6 (L:=[]) hp).2];exact h
 | succ n ih=>
   intro d h hn;by_cases hp:d.ou.pN d.cur limit d.mss
   .rw[(bM6 (L:=[]) hp).2];exact h
   .have hc:=h.cur;rw[(ca5 (L:=[]) hp U).2];obtain⟨g1,_⟩:=bM5 hp U;exact ih (h.dJ4 hp h0) (by rw[aa8];omega)
theorem Like.ee9{c d:Cn}(h:Like c d)(L:Rws)(lo limit:Int):d.aP4 L lo limit=c.aP4 L lo limit:=by
 rw[h.e];rfl
theorem Like.eM1{c d:Cn}(h:Like c d)(L:Rws)(at_:Int):d.bI0 L at_=c.bI0 L at_:=by
 rw[h.e];rfl
theorem bl9(c:Cn):c.aK9=c.goC c.K3:=rfl
theorem cK7(c:Cn)(L:Rws):c.aW8 L=c.aI1 L++c.goG L c.K3:=rfl
end Cn
theorem Like.rg{c d:Cn}(h:Cn.Like c d)(hr:RgX c)(hz:c.all.size<=4503599627370496):RgX d:=by
 have h1:=h.cur;have h2:=h.ord;have h3:=h.snt;have h4:=h.meas;have hb:=aL3 c.shut;have hf:c.fen<=4503599627370498:=by unfold Cn.fen;omega
 have r21:=hr.r21;have r22:=hr.r22;have r13:=hr.r13;have r24:=hr.r24;have r25:=hr.r25;have r26:=hr.r26;have d1:=hr.d1;have d2:=hr.d2;have hw:=h.wen;have e:=h.e;have hm':0<=d.meas/\d.meas<=1152921504606846976:=by omega
 have hw':0<=d.wen/\d.wen<=1099511627776:=by omega
 have hc':0<=d.cur/\d.cur<=1152921504606846976:=by omega
 have hs':0<=d.snt/\d.snt<=1152921504606846976:=by omega
 have hn:d.wen<=c.now:=by omega
 have hu:c.una<=d.cur:=by omega
 generalize d.cur=x1 at*;generalize d.snt=x2 at*;generalize d.meas=x3 at*;generalize d.wen=x4 at*;subst e;exact{ hr with r21:=hm',r22:=hw',r25:=hc',r26:=hs',d1:=hu,d2:=hn,d3:=h2 }
end Go.Proofs.YtnlcpcmdlcakgaaGreat
