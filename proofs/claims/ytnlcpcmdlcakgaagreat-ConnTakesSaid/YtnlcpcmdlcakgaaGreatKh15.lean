/- A part of the proof that a connection answers as the document says: Iq3. -/
import Derived.Test.YtnlcpcmdlcakgaaGreatKh14
set_option maxRecDepth 100000
set_option maxHeartbeats 4000000
set_option linter.unusedVariables false
set_option linter.unusedSimpArgs false
set_option linter.unusedSectionVars false
open Go.Proofs.Tryz
namespace Go.Proofs.YtnlcpcmdlcakgaaGreat
open Go.RowKit Sy
def iI(n:Nat):SV:= .one (.c (.int .i64 (.iv n)))
def bB(n:Nat):SV:= .one (.c (.bool (.bv n)))
def I64(t:Tm):Bd:=⟨t,-9223372036854775808,9223372036854775807⟩
def af8:Sy.Spec:=R4 115 cQ8
def kmT(t:Tm):Tm:= .ap 31 t i9 i9
def aO7(t:Tm):Tm:= .ap 30 t j9 i9
def puP:List Nat:=[1,1,1,1,0,1,2]
def eY7:List Bd:=[B61 j9,B61 m8,B61 (kmT j8),I64 m9,⟨.len l7,0,140737488355328⟩]
def bf9:Sy.St:=⟨[],[inO 0 2 true j9 m8,inT 2 true j8],⟨eY7,[]⟩,4⟩
def puA:List SV:=[.one (.c (.ptr 0 0)),iI 2, .one (.c (.str l7)),bB 0]
def pu0(P:Program)(fn:Func):Rs:=R6 P [af8] 10 400 4 (.code (pre puP (y7 fn))) (L3 fn puA bf9)
def eA4:List Bd:=[B61 l8,⟨.iv 6,0,2305843009213695999⟩,⟨.iv 3,0,140737488355328⟩,B61 j9,B61 m8,⟨.iv 2,-1152921504606846976,1152921504606846976⟩,⟨.len l7,0,140737488355328⟩]
def puT(P:Program)(fn:Func):Sy.St:=a13 (I1 (pu0 P fn) 1) [0,1,2,3,8,31] [(9,iI 5),(10,iI 6),(32,iI 3)] [inT 2 true j5] ⟨eA4,[]⟩ 10
def pu1(P:Program)(fn:Func):Rs:=R6 P [] 10 400 4 (.code (Y9 (Sy.I9 puP (y7 fn)))) (puT P fn)
def puR(fn:Func):Code:=Sy.I9 [1,1,1,1,1] (y7 fn)
def pu2(P:Program)(fn:Func):Rs:=R6 P [] 10 400 4 (.code (pre [0,1,1] (puR fn))) (I1 (pu1 P fn) 6)
def uBs:List Bd:=[B61 l8,⟨.iv 7,-2305843009213693952,2305843009213693952⟩,B61 j9,B61 m8,B61 (kmT j5)]
def puU(P:Program)(fn:Func):Sy.St:=a13 (I1 (pu2 P fn) 0) [0,8] [(9,iI 5),(15,iI 7),(104,bB 1)] [] ⟨uBs,[]⟩ 10
def eN2:Code->Code
 | .cond _ a _=>a
 | _=> .skip
def puH(fn:Func):Code:=eN2 (Sy.I9 [0,1,1] (puR fn))
def pu3(P:Program)(fn:Func):Rs:=R6 P [] 10 400 4 (.code (pre [1,0,0] (puH fn))) (puU P fn)
def eP3:Code->List Oper
 | .region _ ops _=>ops.toList
 | _=>[]
def cM7(fn:Func):List Oper:=(eP3 (Sy.I9 [1,0,0] (puH fn))).take 4
def bg0(P:Program)(fn:Func):Sy.St:=(bb2 P [] 10 400 4 (cM7 fn) (I1 (pu3 P fn) 0)).getD default
def dw7(P:Program)(fn:Func):Sy.St:=(bg0 P fn).put (some 109) (.one (.c (.ptr 40 0)))
def puW(P:Program)(fn:Func):Sy.St:=a13 (dw7 P fn) [0,8,109] [(9,iI 5),(15,iI 7),(16,bB 2)] [] ⟨uBs,[]⟩ 50
def puB(fn:Func):Code:=Y9 (Sy.I9 [1,0,1,2] (puH fn))
def puX(P:Program)(fn:Func):Sy.St:=(puW P fn).put (some 17) (iI 100)
def pu5(P:Program)(fn:Func):Rs:=R6 P [] 10 400 42 (.code (Sy.I9 [1,1,2,1] (puB fn))) (ro (puX P fn))
def puV(P:Program)(fn:Func):Sy.St:=⟨tmK [0,8] [(9,iI 5)] 0 (puU P fn).tm,[inO 0 2 true j9 s6,inT 2 true j5],⟨[B61 l8,B61 j9,B61 s6,B61 (kmT j5)],[]⟩,10⟩
def pu6(P:Program)(fn:Func):Rs:=R6 P [] 10 400 4 (.code (Sy.I9 [1,1] (puH fn))) (puW P fn)
def inC(t x:Tm):Tm:= .le i9 (an5 1 t (.tb qax x ak9 i9))
theorem cj5{J:Env}(t x:Tm):((u9 J (inC t x)).b=true)=(inM (u9 J t).c (u9 J x).i≠none):=by
 apply propext;rw[inC,E5,ap5 (k:=kR (u9 J x).i) rfl];exact dM1 _ _
theorem db3:shR 4 none (pu0 prog f108)=some (fq8 [.d (.lt m9 (.il (-1152921504606846976))),.d (.lt (.il 1152921504606846976) m9),.b qf2,.b (.eq (aO7 j8) m8),.l (.out 0 .ret),.l (.out 1 .normal),.l (.out 2 .normal),.l (.out 3 .ret),.l (.out 4 .ret)] [[]]):=by kernel_rfl
def cM6:List As:=[.i 5 (aO7 j8), .i 6 (.add (aO7 j8) (.sub o7 (.sub (aO7 j8) j9))), .i 3 i9, .c 1 j8]
theorem cg2:(aA1 4 (puT prog f108) (I1 (pu0 prog f108) 1)).map noU=some cM6:=by kernel_rfl
theorem cg1:(aA1 4 (puT prog f108) (I1 (pu0 prog f108) 2)).map noU=some cM6:=by kernel_rfl
theorem dv9:[0,3,4].map (fun k=>aD7 prog (I1 (pu0 prog f108) k) f108.results.toList)=[0,3,4].map (fun k=>some qal):=by kernel_rfl
theorem eO8:[0,3,4].map (fun k=>(I1 (pu0 prog f108) k).hp)=[0,3,4].map (fun k=>bf9.hp):=by kernel_rfl
def pT:Tm:= .add m9 n7
def pR:Tm:= .tb qax pT (.tb (.cons (.int .u8)) (.byte l7 n7) ak9 i9) i9
def pI:Tm:= .lt n7 qbo 
def pN:Tm:=inC j5 pT
def pB:List As:=[.i 3 qfp]
def pBc:List As:=[.i 3 qfp, .c 1 (.tb (.mput 1) j5 pR i9)]
theorem db2:shR 4 (some (puT prog f108)) (pu1 prog f108)=some (fq8 [.b pI,.d pN,.b (.le l8 pT),.b (.lt pT p7),.d (.eq m8 i9),.b (.lt pT m8),.l (.back pBc),.l (.back pB),.l (.back pBc),.l (.back pB),.l (.back pB),.l (.back pB),.l (.out 6 (.exit 0))] [[]]):=by kernel_rfl
theorem db4:Code.loop (Y9 (Sy.I9 puP (y7 f108)))=Sy.I9 puP (y7 f108):=by kernel_rfl
theorem dw4:(puT prog f108).cx=⟨eA4,[]⟩:=by kernel_rfl
def qT:Tm:= .add m9 qbo 
theorem db1:shR 4 (some (puU prog f108)) (pu2 prog f108)=some (fq8 [.b o9,.b (.eq m8 i9),.b (.le l8 qT),.l (.back [.i 7 qT, .b 1 (.le qT p7)]),.l (.back [.i 7 qT, .b 1 l4]),.l (.back [.i 7 qT, .b 1 l4]),.l (.back [.i 7 qT, .b 1 l4])] [[.not pI]]):=by kernel_rfl
theorem dw3:(puU prog f108).cx=⟨uBs,[]⟩:=by kernel_rfl
theorem db5:∃ c,Sy.I9 [0,1,1] (puR f108)= .cond c (puH f108) .skip/\opd (puU prog f108).tm c=some (bB 1):=⟨.tmp 104,by kernel_rfl,by kernel_rfl⟩
theorem db0:shR 4 none (pu3 prog f108)=some [.out 0 .normal []]:=by kernel_rfl
theorem da9:bb2 prog [] 10 400 4 (cM7 f108) (I1 (pu3 prog f108) 0)=some (bg0 prog f108):=by kernel_rfl
structure RgA(c:Code)(xs:List Oper)(t:TypeId)(m d:Nat):Prop where
 c:∃ o,c= .region (bj4 c) (xs++[o]).toArray false/\o.guard=none/\o.op= .range t (.tmp m)/\o.dst=some d
theorem dv8:RgA (Sy.I9 [1,0,0] (puH f108)) (cM7 f108) 133 108 109:=⟨Sy.aP1 (Sy.I9 [1,0,0] (puH f108)) 4,by kernel_rfl,by kernel_rfl,by kernel_rfl,by kernel_rfl⟩
theorem eO6:((bg0 prog f108).tm[108]?,ac0 (bg0 prog f108).hp 2,(bg0 prog f108).T8 40,(bg0 prog f108).T8 41)=(some (.one (.c (.map 2))),some (inT 2 true j5,[.int .i64],false, .int .u8, .cv 1),true,true):=by kernel_rfl
theorem cg0:(aA1 42 (puW prog f108) (dw7 prog f108)).map noU=some [.b 2 l6]:=by kernel_rfl
theorem dw1:(puW prog f108).cx=⟨uBs,[]⟩:=by kernel_rfl
theorem cx3:Code.loop (puB f108)=Sy.I9 [1,0,1,2] (puH f108):=by kernel_rfl
structure RgB(c:Code)(it n x e k v id:Nat):Prop where
 c:∃ o1 o2 o3 o4 o5:Oper,∃ i1 i2:Nat,∃ r:Code,c= .seq (.region i1 #[o1,o2] false) (.seq (.cond (.tmp x) .skip (.exit id)) (.block (id+1) (.seq (.region i2 #[o3,o4,o5] false) r)))/\(o1.guard=none/\o1.op= .next (.tmp it) false/\o1.dst=some n)/\(o2.guard=none/\o2.op= .extract (.tmp n) 0/\o2.dst=some x)/\
  (o3.guard=none/\o3.op= .entry (.tmp it)/\o3.dst=some e)/\(o4.guard=none/\o4.op= .extract (.tmp e) 0/\o4.dst=some k)/\(o5.guard=none/\o5.op= .assign (.tmp k)/\o5.dst=some v)
theorem dv7:RgB (puB f108) 109 110 111 112 113 17 2:=⟨Sy.aP1 (Sy.I9 [0] (puB f108)) 0,Sy.aP1 (Sy.I9 [0] (puB f108)) 1,Sy.aP1 (Sy.I9 [1,1,2,0] (puB f108)) 0,Sy.aP1 (Sy.I9 [1,1,2,0] (puB f108)) 1,Sy.aP1 (Sy.I9 [1,1,2,0] (puB f108)) 2,bj4 (Sy.I9 [0] (puB f108)),bj4 (Sy.I9 [1,1,2,0] (puB f108)),Sy.I9 [1,1,2,1] (puB f108),by kernel_rfl,⟨by kernel_rfl,by kernel_rfl,by kernel_rfl⟩,⟨by kernel_rfl,by kernel_rfl,by kernel_rfl⟩,⟨by kernel_rfl,by kernel_rfl,by kernel_rfl⟩,⟨by kernel_rfl,by kernel_rfl,by kernel_rfl⟩,⟨by kernel_rfl,by kernel_rfl,by kernel_rfl⟩⟩
theorem dw5:[110,111,112,113,17].map (fun d=>(puW prog f108).tm[d]?)=[some (.any 110),some (.any 111),some (.any 112),some (.any 113),some (.any 17)]:=by kernel_rfl
theorem cx2:[110,111,112,113,17].map (fun d=>an3 d ((puW prog f108).tm.set d aE3))=[true,true,true,true,true]:=by kernel_rfl
theorem eO7:((puW prog f108).tm[109]?,bu1 100 (puW prog f108))=(some (.one (.c (.ptr 40 0))),true):=by kernel_rfl
theorem da8:shR 42 (some (ro (puW prog f108))) (pu5 prog f108)=some (fq8 [.b (.bv 2),.l (.back [.b 2 (.lt (.iv 100) o8)]),.l (.back [.b 2 l4])] [[]]):=by kernel_rfl
theorem da7:shR 4 (some (puV prog f108)) (pu6 prog f108)=some (fq8 [.b (.bv 2),.l (.back [.i 8 o8]),.l (.back [.i 8 m8])] [[]]):=by kernel_rfl
theorem cf9:(aA1 4 (puV prog f108) (puU prog f108)).map noU=some [.i 8 m8]:=by kernel_rfl
theorem dw2:(puV prog f108).cx=⟨[B61 l8,B61 j9,B61 s6,B61 (kmT j5)],[]⟩:=by kernel_rfl
theorem cg3:(puW prog f108).hp=[inO 0 2 true j9 m8,inT 2 true j5]:=by kernel_rfl
def vHp:List Bk:=[inO 0 2 true j9 s6,inT 2 true j5]
theorem da6:smR prog f108 4 (R6 prog [af8] 10 400 4 (.code (aft .normal [0,1,1] (puR f108))) (puV prog f108))=some (fq8 [.b (.lt i9 s6),.b (.eq (aO7 j5) s6),.l (.ret (.one (.c (.bool (.lt l8 (.add (aO7 j5) l9))))) vHp),.l (.ret (.one (.c (.bool (.lt l8 (aO7 j5))))) vHp),.l (.ret (.one (.c (.bool (.lt l8 (aO7 j5))))) vHp)] [[]]):=by kernel_rfl
end Go.Proofs.YtnlcpcmdlcakgaaGreat
