/- A part of the proof that a connection answers as the document says: Ch8. -/
import Derived.Test.YtnlcpcmdlcakgaaGreatKh47
set_option maxRecDepth 100000
set_option maxHeartbeats 4000000
set_option linter.unusedVariables false
set_option linter.unusedSimpArgs false
set_option linter.unusedSectionVars false
open Go.Proofs.Tryz
namespace Go.Proofs.YtnlcpcmdlcakgaaGreat
open Go.RowKit Sy
def aZ6:List Leaf:=[(some (some .u32)),(some (some .i64))]
theorem bQ9{l:List Value}(h:T5 aZ6 l):∃(a:Int) (p:Int),l=[.int .u32 a, .int .i64 p]/\(0<=a/\a<=4294967295)/\(-9223372036854775808<=p/\p<=9223372036854775807):=by
 rcases l with _|⟨v0,l⟩
 .exact h.elim
 obtain⟨⟨a,rfl,ha⟩,h⟩:=h;rcases l with _|⟨v1,l⟩
 .exact h.elim
 obtain⟨⟨p,rfl,hp⟩,h⟩:=h;rcases l with _|⟨v2,l⟩
 .exact⟨a,p,rfl,aK2 ha,aK2 hp⟩
 .exact h.elim
theorem ch4{la lp ra rp iss mss:Int}(h0:0<=la/\la<=4294967295)(h1:1<=lp/\lp<=65535)(h2:0<=ra/\ra<=4294967295)(h3:1<=rp/\rp<=65535)(h6:0<=iss/\iss<=4294967295)(h8:8<=mss/\mss<=1000):Iv ⟨aY9 la lp ra rp iss mss 1,[],[]⟩ 0:=by
 have z:∀{n:Int},0<=n->(0:Int)<=0/\(0:Int)<=n:=fun h=>⟨aF _,h⟩
 exact⟨⟨h0,⟨by show 0<=lp;omega,h1.2⟩,h2,⟨by show 0<=rp;omega,h3.2⟩,(by decide:(0:Int)<=1/\(1:Int)<=9),z bA,h6,z bA,h8,h8,z bA,(by decide:(-2305843009213693952:Int)<=0/\(0:Int)<=2305843009213693952),(by decide:(-2305843009213693952:Int)<=0/\(0:Int)<=2305843009213693952),z bA,(by decide:(-1:Int)<= -1/\(-1:Int)<=1099511627776),z bA,z bA,z bA,z bA,z bA,z bA,z bA,z bA,aF _,aF _,aF _,fun h=>bF⟩,
  ⟨fun _=>rfl,fun _ h=>absurd rfl h,fun _=>rfl⟩,fun _=>rfl,(by decide:(0:Int)<=2048*0),(by decide:(0:Int)<=0),(by decide:(0:Int)<=0),(by decide:(0:Int) - min 0 (max 0 (0 - 1))<=2048)⟩
def KD:Lk:=⟨73,4,11,13,47,48,49,51,52,16,[1,1,1,1,0]⟩
theorem cz0:SaysCode prog Tryz.f3 KD.p (lkT KD) 0 200 KD.x0 KD.vx KD.vl KD.vi KD.d1 KD.d2 KD.d3 where
 rg4:=⟨Sy.aP1 (Sy.I9 (KD.p++[0]) (y7 Tryz.f3)) 0,Sy.aP1 (Sy.I9 (KD.p++[0]) (y7 Tryz.f3)) 1,Sy.aP1 (Sy.I9 (KD.p++[0]) (y7 Tryz.f3)) 2,by kernel_rfl,⟨by kernel_rfl,by kernel_rfl,by kernel_rfl⟩,⟨by kernel_rfl,by kernel_rfl,by kernel_rfl⟩,⟨by kernel_rfl,by kernel_rfl,by kernel_rfl⟩⟩
 at_:=by kernel_rfl
 hd:=by kernel_rfl
 row:=⟨Sy.aP1 (Sy.I9 aP0 (aF9 Tryz.f3 KD.p)) 0,Sy.aP1 (Sy.I9 aP0 (aF9 Tryz.f3 KD.p)) 1,Sy.aP1 (Sy.I9 aP0 (aF9 Tryz.f3 KD.p)) 2,Sy.aP1 (Sy.I9 aP0 (aF9 Tryz.f3 KD.p)) 3,by kernel_rfl,⟨by kernel_rfl,by kernel_rfl,by kernel_rfl⟩,⟨by kernel_rfl,by kernel_rfl,by kernel_rfl⟩,⟨by kernel_rfl,by kernel_rfl,by kernel_rfl⟩,⟨by kernel_rfl,by kernel_rfl,by kernel_rfl⟩⟩
 lo1:=by kernel_rfl
 any1:=by kernel_rfl
 tx:=by kernel_rfl
 ti:=by kernel_rfl
 hnr:=by decide
 free:=by kernel_rfl
 e1:=by kernel_rfl
 e2:=by kernel_rfl
 e3:=by kernel_rfl
 e4:=by kernel_rfl
 out:=by kernel_rfl
 uS:=underlying25
 uE:=⟨_,underlying44,rfl⟩
 inf:=bm2
 zero:=by kernel_rfl
 zlen:=by kernel_rfl
theorem lkD:LkOk Tryz.f3 KD where
 code:=cz0
 in_:=by kernel_rfl
 tm:=by kernel_rfl
 okP:=by kernel_rfl
 op:=by kernel_rfl
 low:=by kernel_rfl
 fin:=by kernel_rfl
 ne:=by decide
 end_:=fun has=>by cases has<;>kernel_rfl
def eC:List C:=[.int .u32 j9, .int .i64 m8]
def eF:List C:=[.int .u32 m9, .int .i64 n7]
def dB(a b c d e f:Int):Cx:=⟨[⟨.iv 0,0,4294967295⟩,⟨.iv 1,a,b⟩,⟨.iv 2,0,4294967295⟩,⟨.iv 3,c,d⟩,⟨.iv 4,0,4294967295⟩,⟨.iv 5,e,f⟩],[]⟩
def miI:Int:= -9223372036854775808
def maI:Int:=9223372036854775807
def eD4:List Cx:=[dB miI 0 miI maI miI maI,dB 65536 maI miI maI miI maI,dB miI maI miI 0 miI maI,dB miI maI 65536 maI miI maI,dB miI maI miI maI miI 7,dB miI maI miI maI 1001 maI]
def dG:Cx:=dB 1 65535 1 65535 8 1000
def dA:List SV:=[.one (.agg eC), .one (.agg eF), .one (.c (.int .u32 n8)), .one (.c (.int .i64 l8)), .one (.c (.opq 0))]
def dS:List Sy.Spec:=[bg4,be9,bO7]
def a11(P:Program)(fn:Func)(cx:Cx):Rs:=R6 P dS 10 400 40 (.code (pre KD.p (y7 fn))) (L3 fn dA ⟨[],[],cx,40⟩)
theorem eR9:(eD4.all fun cx=>bZ5 prog Tryz.f3 (a11 prog Tryz.f3 cx))=true:=by kernel_rfl
theorem eD2:shR 40 none (a11 prog Tryz.f3 dG)=some [.out 0 .normal []]:=by kernel_rfl
def dTs(y:Tm):List Tm:=[.iv 0, .iv 1, .iv 2, .iv 3, .il 1, .il 0, .iv 4, .il 0, .iv 5, .iv 5, .il 0, .il 0, .il 0, .il 0, .il (-1), .il 0, .il 0, .il 0, .bl false, .bl false, .bl false, .il 0, .il 0, .bl false, .il 0, .il 0, .il 0, .sl [], .bl false, .ap 90 (.il 29) j9 i9, .ap 90 (.il 30) j9 i9, .il (-1), .il 0, .il 0, .ap 90 (.il 34) j9 i9, .ap 90 (.il 35) j9 i9, .ap 90 (.il 36) j9 i9,y]
theorem ea7:(cL2 (I1 (a11 prog Tryz.f3 dG) 0) KD,bP5 (crP ⟨[],(I1 (a11 prog Tryz.f3 dG) 0).hp,(I1 (a11 prog Tryz.f3 dG) 0).cx,(I1 (a11 prog Tryz.f3 dG) 0).nx⟩ 68),bP5 (crD ⟨[],(I1 (a11 prog Tryz.f3 dG) 0).hp,(I1 (a11 prog Tryz.f3 dG) 0).cx,(I1 (a11 prog Tryz.f3 dG) 0).nx⟩ 100))=((73,some (.one (.c (.opq 0))),some (.one (.c (.ptr 68 0))),some (.one (.c (.ptr 100 0)))),some (dTs (.ap 90 (.il 37) j9 i9), .cv 1,tn,false,[],[72,74]),some (dTs i9, .cv 1,tn,false,[],[106])):=by kernel_rfl
theorem be6(w:World)(c0 c1:Array Value)(iss mss:Int)(a:Option Addr)(len cap:Nat)(l0:T5 aZ6 c0.toList)(l1:T5 aZ6 c1.toList)(i0:0<=iss)(i1:iss<=4294967295)(m0: -9223372036854775808<=mss)(m1:mss<=9223372036854775807)(o:Opened V3 w a len cap)(hl:len<=549755813888):
 Calls prog 3 #[.agg c0, .agg c1, .int .u32 iss, .int .i64 mss, .slice a len cap] w fun e w'=>e= .returned (.bool true)/\Below w.heap.size w w':=by
 obtain⟨c0⟩:=c0;obtain⟨c1⟩:=c1;obtain⟨la,lp,rfl,h0,h1⟩:=bQ9 l0;obtain⟨ra,rp,rfl,h2,h3⟩:=bQ9 l1
 let J:Env:= { U9 [la,lp,ra,rp,iss,mss] [] [] [.slice a len cap]with f:=cnF,o:=cnO }
 have hg:J.R8:=fun i=>by rcases i with _|i<;>rfl
 have hsp:∀ q∈dS,q.Ok prog J:=by
  intro q hq;rcases aa.1 hq with rfl|hq
  .exact bX4 rfl
  rcases aa.1 hq with rfl|hq
  .exact bV5 rfl
  .rw[ah.1 hq];exact bM9 rfl
 have hcx:∀{a b c d e f:Int},a<=lp/\lp<=b->c<=rp/\rp<=d->e<=mss/\mss<=f->(dB a b c d e f).ok J:=fun q1 q3 q5=>cxP ⟨h0,q1,h2,q3,⟨i0,i1⟩,q5,trivial⟩ trivial
 have bad:∀ cx∈eD4,cx.ok J->Calls prog 3 #[.agg [.int .u32 la, .int .i64 lp].toArray, .agg [.int .u32 ra, .int .i64 rp].toArray, .int .u32 iss, .int .i64 mss, .slice a len cap] w fun e w'=>e= .returned (.bool true)/\Below w.heap.size w w':=fun cx hm hc=>by
  refine(bn5 hg hsp func3 rfl (p:=KD.p) (xs:=dA) (av.1 eR9 cx hm) hc rfl).mono ?_;rintro e w' ⟨v,rfl,rfl,hb⟩;exact⟨rfl,hb⟩
 have any1:miI<=lp/\lp<=maI:=h1;have any3:miI<=rp/\rp<=maI:=h3;have any5:miI<=mss/\mss<=maI:=⟨m0,m1⟩;by_cases b1:lp<=0
 .exact bad _ (.head _) (hcx ⟨any1.1,b1⟩ any3 any5)
 by_cases b2:65536<=lp
 .exact bad _ (.tail _ (.head _)) (hcx ⟨b2,any1.2⟩ any3 any5)
 by_cases b3:rp<=0
 .exact bad _ (.tail _ (.tail _ (.head _))) (hcx any1 ⟨any3.1,b3⟩ any5)
 by_cases b4:65536<=rp
 .exact bad _ (.tail _ (.tail _ (.tail _ (.head _)))) (hcx any1 ⟨b4,any3.2⟩ any5)
 by_cases b5:mss<=7
 .exact bad _ (.tail _ (.tail _ (.tail _ (.tail _ (.head _))))) (hcx any1 any3 ⟨any5.1,b5⟩)
 by_cases b6:1001<=mss
 .exact bad _ (.tail _ (.tail _ (.tail _ (.tail _ (.tail _ (.head _)))))) (hcx any1 any3 ⟨b6,any5.2⟩)
 have g1:1<=lp/\lp<=65535:=by omega
 have g3:1<=rp/\rp<=65535:=by omega
 have g5:8<=mss/\mss<=1000:=by omega
 have hM:Md J (fun _=>False) w (fun _=>0) 40 ⟨[],[],dG,40⟩ (fun _=>0) ⟨#[],[]⟩ w:=Sy.Md.ax8 trivial trivial trivial (hcx g1 g3 g5) rfl;refine(aH2 (B:=⟨J,fun _=>False,w,fun _=>0,40⟩) (sp:=dS) (p:=KD.p) (xs:=dA) (s:=⟨[],[],dG,40⟩) (r:=a11 prog Tryz.f3 dG) hg hsp rfl func3 rfl rfl eD2 hM (R:=fun v w'=>v= .bool true/\Below w.heap.size w w') ⟨?_,trivial⟩ rfl).mono ?_
 .intro _ N ac w1 hM1;have hst:=ea7;simp only[Prod.mk.injEq]at hst;obtain⟨e1,e2,e3⟩:=hst;exact by6 lkD o hl (J:=J) rfl rfl hM1 (lc:=68) (ld:=100) e1 e2 e3 bA (X:=⟨aY9 la lp ra rp iss mss 1,[],[]⟩) (ch4 h0 g1 h2 g3 ⟨i0,i1⟩ g5) rfl
   (fun W=>W.cZ7 (fun n=>rfl) rfl ⟨rfl,rfl,rfl⟩ rfl (fun q=>bK) (fun q=>bK) rfl) (fun W=>W.ca2 (fun n=>rfl) ⟨rfl,rfl,rfl⟩ rfl (fun q=>bK) (fun q=>bK) rfl)
 .rintro e w' ⟨v,rfl,rfl,hb⟩;exact⟨rfl,hb⟩
end Go.Proofs.YtnlcpcmdlcakgaaGreat
