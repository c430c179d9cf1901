/- A part of the proof that a connection answers as the document says: Co4. -/
import Derived.Test.YtnlcpcmdlcakgaaGreatKh39
import Derived.Test.YtnlcpcmdlcakgaaGreatKh41
set_option maxRecDepth 100000
set_option maxHeartbeats 4000000
set_option linter.unusedVariables false
set_option linter.unusedSimpArgs false
set_option linter.unusedSectionVars false
open Go.Proofs.Tryz
namespace Go.Proofs.YtnlcpcmdlcakgaaGreat
open Go.RowKit Sy
namespace Cn
theorem ca3{c:Cn}(h:c.gone=8):c.ar9= { c with st:=0,why:=13 }:=by unfold ar9;rw[if_pos h]
theorem ca4{c:Cn}(h:¬c.gone=8)(h1:c.cur=c.una):c.ar9= { c with gone:=c.gone+1,dbl:=aK1 c.dbl,clk:=c.now,bg:=c.now,prb:=true }:=by unfold ar9;rw[if_neg h,if_pos h1]
theorem eL7{c:Cn}(h:¬c.gone=8)(h1:¬c.cur=c.una)(h2:c.has=true):c.ar9= { c with gone:=c.gone+1,dbl:=aK1 c.dbl,clk:=c.now,bg:=c.now,cs:=aC3 c.cm (c.cur - c.una),cz:=c.cm,cur:=c.una,meas:=0 }:=by unfold ar9;rw[if_neg h,if_neg h1,if_pos h2]
theorem eL6{c:Cn}(h:¬c.gone=8)(h1:¬c.cur=c.una)(h2:c.has=false):c.ar9= { c with gone:=c.gone+1,dbl:=aK1 c.dbl,clk:=c.now,bg:=c.now,cur:=c.una,meas:=0 }:=by unfold ar9;rw[if_neg h,if_neg h1,if_neg (by rw[h2];decide)]
theorem dJ2{c:Cn}{n:Int}(h:n<0\/1099511627776<c.now+n):c.aW7 n=1/\c.aN4 n=c:=by
 have e:c.aW7 n=1:=by unfold aW7;rw[if_pos h]
 unfold aN4;rw[e,if_pos (by decide)];exact⟨rfl,rfl⟩
theorem cA3{c:Cn}{n:Int}(h:¬(n<0\/1099511627776<c.now+n)):c.aW7 n=0:=by unfold aW7;rw[if_neg h]
theorem bU6{c:Cn}{n:Int}(h:¬(n<0\/1099511627776<c.now+n))(h1:c.st=9/\c.ends<=c.now+n):c.aN4 n=({ c with now:=c.now+n,st:=0 }:Cn).F6:=by
 unfold aN4;rw[cA3 h,if_neg (by decide),if_pos h1]
theorem cA4{c:Cn}{n:Int}(h:¬(n<0\/1099511627776<c.now+n))(h1:¬(c.st=9/\c.ends<=c.now+n))(h2:0<=c.clk/\c.val<=c.now+n - c.clk):c.aN4 n=(({ c with now:=c.now+n }:Cn).ar9).F6:=by
 unfold aN4;rw[cA3 h,if_neg (by decide),if_neg h1,if_pos h2]
theorem bU5{c:Cn}{n:Int}(h:¬(n<0\/1099511627776<c.now+n))(h1:¬(c.st=9/\c.ends<=c.now+n))(h2:¬(0<=c.clk/\c.val<=c.now+n - c.clk)):c.aN4 n=({ c with now:=c.now+n }:Cn).F6:=by
 unfold aN4;rw[cA3 h,if_neg (by decide),if_neg h1,if_neg h2]
theorem bU3{c:Cn}(h:c.st=0\/c.shut=true)(s:ByteArray):c.wrC s=c/\c.wrA s=0/\c.wrE s=(if c.st=0/\c.why≠0 then c.why else 17):=by
 have e:c.bD6=true:=by
  unfold bD6;rcases h with h|h
  .rw[aD h,Bool.true_or]
  .rw[h,Bool.or_true]
 unfold wrC wrA wrE;simp only[e,if_true,and_self]
theorem cA2{c:Cn}(h:¬c.st=0)(h1:c.shut=false)(s:ByteArray):c.wrC s=({ c with all:=c.all++s.extract 0 (c.wrN s).toNat }:Cn).F6/\c.wrA s=c.wrN s/\c.wrE s=(if c.wrN s=0/\s.size≠0 then 14 else 0):=by
 have e:c.bD6=false:=by
  unfold bD6;rw[aH h,h1];rfl
 unfold wrC wrA wrE;rw[e,if_neg (by decide),if_neg (by decide),if_neg (fun q=>h q.1),if_neg (by decide)];exact⟨rfl,rfl,rfl⟩
end Cn
structure MqX(X:Cs):Prop where
 r:X.R.length<=1099511627760
 a:X.c.all.size<=4503599627360000
theorem aM1{X:Cs}{is:List Int}{bs:List Bool}{ss:List ByteArray}(h:MqX X):X5 (H8 X is bs ss) mqB:=by
 have h1:=h.r;have h2:=h.a;refine Z6 ⟨⟨?_,?_⟩,⟨?_,?_⟩,trivial⟩
 .show(0:Int)<=((Y3 X.R).length:Int);omega
 .show((Y3 X.R).length:Int)<=1099511627760;rw[aT8];omega
 .show(0:Int)<=(X.c.all.size:Int);omega
 .show(X.c.all.size:Int)<=4503599627360000;omega
theorem MqX.sz{X:Cs}(h:MqX X):SzX X:=⟨by have:=h.a;omega,by have:=h.r;omega⟩
theorem aM0{J:Env}(E:CnEnv J):∀ q∈peS,q.Ok prog J:=by
 intro q hq;rcases aa.1 hq with rfl|hq
 .exact bv8 E
 .exact aR0 E q hq
theorem aE5{J:Env}(hf:J.f=cnF){Y y z:Tm}{Z:Cn}{b:Bool}(hY:B4 J Y=Z)(hb:Z.has=b):({ E6 J (B4 J (.ap 120 Y y z)) [⟨28, .bl b⟩]with bg:=Z.F6.bg }:Cn)=Z.F6:=by
 rw[bV2 hf,hY];show({ Z7 Z.F6 28 (u9 J (.bl b))with bg:=Z.F6.bg }:Cn)=Z.F6;rw[aC1 (by rw[(aG8 Z).2];exact hb)]
theorem cF1(Z:Cn)(b0:Int):({ ({ Z with bg:=b0 }:Cn).F6 with bg:=Z.F6.bg }:Cn)=Z.F6:=by
 by_cases h:Z.aI5
 .have h':({ Z with bg:=b0 }:Cn).aI5:=h;unfold Cn.F6;rw[if_pos h,if_pos h'];by_cases h2:Z.clk<0
  .rw[if_pos h2,if_pos (show({ Z with bg:=b0 }:Cn).clk<0 from h2)]
  .rw[if_neg h2,if_neg (show ¬({ Z with bg:=b0 }:Cn).clk<0 from h2)]
 .have h':¬({ Z with bg:=b0 }:Cn).aI5:=h;unfold Cn.F6;rw[if_neg h,if_neg h']
theorem bK0{J:Env}(hf:J.f=cnF){Y y z:Tm}{Z:Cn}{b:Bool}{b0:Int}(hY:B4 J Y= { Z with bg:=b0 })(hb:Z.has=b):({ E6 J (B4 J (.ap 120 Y y z)) [⟨28, .bl b⟩]with bg:=Z.F6.bg }:Cn)=Z.F6:=by
 rw[bV2 hf,hY];show({ Z7 ({ Z with bg:=b0 }:Cn).F6 28 (u9 J (.bl b))with bg:=Z.F6.bg }:Cn)=Z.F6;rw[aC1 (by rw[(aG8 _).2];exact hb)];exact cF1 Z b0
theorem ac8{J:Env}{bs:List Bd}{l:List Tm}(h:(⟨bs,[]⟩:Cx).ok J)(hl:A6 J l):(⟨bs,l⟩:Cx).ok J:=cxF h.bs (a73 hl)
abbrev nE(X:Cs)(n:Int):Env:=H8 X [n] [] []
abbrev sE(X:Cs)(s:ByteArray):Env:=H8 X [] [] [s]
abbrev oE(X:Cs):Env:=H8 X [] [] []
section
variable(X:Cs)(n:Int)(s:ByteArray)
theorem nf:(nE X n).f=cnF:=rfl
theorem ne0:(nE X n).i 0=n:=rfl
theorem ae2:(u9 (nE X n) K6).i=X.c.now+n:=rfl
theorem bJ3:(u9 (nE X n) kTv).i=X.c.val:=rfl
theorem bJ4:((u9 (nE X n) kTb).b=true)=(1099511627776 - X.c.now<n):=by unfold kTb;simp only[A7,E9,A0,F0,kdA,ne0]
theorem dM5:(u9 (sE X s) kWn).i=X.c.wrN s:=rfl
theorem dM6:(u9 (sE X s) kWa).s=X.c.all++s.extract 0 (X.c.wrN s).toNat:=rfl
theorem bs7:(u9 (nE X n) kRy).i=X.c.rdy X.L:=rfl
theorem bs6:(u9 (oE X) kRy).i=X.c.rdy X.L:=rfl
theorem dM9:(u9 (oE X) kRm).i=X.c.a23:=rfl
theorem bs8:(u9 (nE X n) qcn).b=Z3 X.L X.c.rd X.c.fin:=rfl
theorem bJ5:(u9 (oE X) qcn).b=Z3 X.L X.c.rd X.c.fin:=rfl
end
section
variable{w:World}{g:Nat}{a:Pa}{X:Cs}(W:PcW w g a X)(hz:MqX X)(hr:RgX X.c)
include W hz hr
theorem cu3{n:Int}(h0: -9223372036854775808<=n)(h1:n<=9223372036854775807)(h:n<0\/1099511627776<X.c.now+n):Calls prog 25 #[.pointer (some ⟨g,0,none⟩), .int .i64 n] w (F7 fun v' w'=>v'= .int .i64 (X.c.aW7 n)/\aS4 w w' g (X4 a g X.c.has) ⟨X.c.aN4 n,X.L,X.R⟩):=by
 obtain⟨e1,e2⟩:=Cn.dJ2 h;rw[e1,e2];have hc:=fun(has:Bool) (hh:X.c.has=has)=>Z1 hh hz.sz hr (aH3 (aM1 hz) (show X5 (nE X n) i6B from Z6 ⟨⟨h0,h1⟩,trivial⟩))
 by_cases q:n<0
 .cases hh:X.c.has with
  | false=>
    refine aA0 (is:=[n]) (bs:=[]) (ss:=[]) (aM0 (L6 ..)) func25 rfl dU4 W hh (ac8 (hc _ hh) ?_) ⟨fun hpc=>⟨fun N=>rfl,aH5 hh,fun _=>rfl,A4 _⟩,trivial⟩ rfl;simp only[A6,tmA,F8,ne0,and_true];exact q
  | true=>
    refine aA0 (is:=[n]) (bs:=[]) (ss:=[]) (aM0 (L6 ..)) func25 rfl dU3 W hh (ac8 (hc _ hh) ?_) ⟨fun hpc=>⟨fun N=>rfl,aH5 hh,fun _=>rfl,A4 _⟩,trivial⟩ rfl;simp only[A6,tmA,F8,ne0,and_true];exact q
 .cases hh:X.c.has with
  | false=>
    refine aA0 (is:=[n]) (bs:=[]) (ss:=[]) (aM0 (L6 ..)) func25 rfl dU2 W hh (ac8 (hc _ hh) ?_) ⟨fun hpc=>⟨fun N=>rfl,aH5 hh,fun _=>rfl,A4 _⟩,trivial⟩ rfl;simp only[A6,tmA,F8,ne0,bJ4,and_true];exact⟨q,by omega⟩
  | true=>
    refine aA0 (is:=[n]) (bs:=[]) (ss:=[]) (aM0 (L6 ..)) func25 rfl dU1 W hh (ac8 (hc _ hh) ?_) ⟨fun hpc=>⟨fun N=>rfl,aH5 hh,fun _=>rfl,A4 _⟩,trivial⟩ rfl;simp only[A6,tmA,F8,ne0,bJ4,and_true];exact⟨q,by omega⟩
theorem cb2(hw:¬X.c.st=0->X.c.why=0){n:Int}(h:¬(n<0\/1099511627776<X.c.now+n)):Calls prog 25 #[.pointer (some ⟨g,0,none⟩), .int .i64 n] w (F7 fun v' w'=>v'= .int .i64 (X.c.aW7 n)/\aS4 w w' g (X4 a g X.c.has) ⟨X.c.aN4 n,X.L,X.R⟩):=by
 rw[Cn.cA3 h];have r13:=hr.r13;have r15:=hr.r15;have d1:=hr.d1;have hc:=fun(has:Bool) (hh:X.c.has=has)=>Z1 hh hz.sz hr (aH3 (aM1 hz) (show X5 (nE X n) tgB from Z6 ⟨⟨by show 0<=n;omega,by show n<=1099511627776;omega⟩,⟨by show 0<=X.c.now+n;omega,by show X.c.now+n<=1099511627776;omega⟩,trivial⟩))
 cases hh:X.c.has with
 | false=>
   refine aA0 (is:=[n]) (bs:=[]) (ss:=[]) (aM0 (L6 ..)) func25 rfl dT9 W hh (ac8 (hc _ hh) ?_) ?_ rfl
   .simp only[A6,tmA,F8,ne0,bJ4,and_true];exact⟨by omega,by omega⟩
   repeat'(first|exact V9|refine W0 ?_ ?_)
   all_goals
    intro hpc;replace hpc:A6 (nE X n) _:=hpc;simp only[A6,tmA,F8,kdA,ne0,ae2,bJ3,bJ4,and_true]at hpc
    (repeat(obtain⟨_,hpc⟩:=hpc))
    first
    | (have e:=Cn.bU6 h (by omega)
       have w0:=hw (by omega);rw[e];refine⟨fun N=>rfl,aE5 (nf X n) ?_ hh,fun _=>rfl,A4 _⟩;refine Eq.trans (b:=({ X.c with now:=X.c.now+n,st:=0,why:=0 }:Cn)) ?_ (congrArg (fun v=>({ X.c with now:=X.c.now+n,st:=0,why:=v }:Cn)) w0.symm);simp only[d_4 (nf X n),d_5 (nf X n),aN1 (nf X n),aN0 (nf X n),aM9 (nf X n),aJ6 (nf X n),aJ5 (nf X n),aI3 (nf X n),X9 (nf X n),aM8 (nf X n),aM7 (nf X n),aM6 (nf X n),V4];first|(rw[<-hh];rfl)|(rw[hh];rfl))
    | (have e:=Cn.cA4 h (by omega) (by omega)
       rw[e];first
       | (have e2:=Cn.ca3 (c:= { X.c with now:=X.c.now+n }) (by show X.c.gone=8;omega)
          rw[e2];refine⟨fun N=>rfl,aE5 (nf X n) ?_ hh,fun _=>rfl,A4 _⟩;simp only[d_4 (nf X n),d_5 (nf X n),aN1 (nf X n),aN0 (nf X n),aM9 (nf X n),aJ6 (nf X n),aJ5 (nf X n),aI3 (nf X n),X9 (nf X n),aM8 (nf X n),aM7 (nf X n),aM6 (nf X n),V4];first|(rw[<-hh];rfl)|(rw[hh];rfl))
       | (have e2:=Cn.ca4 (c:= { X.c with now:=X.c.now+n }) (by show ¬X.c.gone=8;omega) (by show X.c.cur=X.c.una;omega)
          rw[e2];refine⟨fun N=>rfl,bK0 (nf X n) (b0:=X.c.bg) ?_ hh,fun _=>rfl,A4 _⟩;simp only[d_4 (nf X n),d_5 (nf X n),aN1 (nf X n),aN0 (nf X n),aM9 (nf X n),aJ6 (nf X n),aJ5 (nf X n),aI3 (nf X n),X9 (nf X n),aM8 (nf X n),aM7 (nf X n),aM6 (nf X n),V4];first|(rw[<-hh];rfl)|(rw[hh];rfl))
       | (have e2:=Cn.eL6 (c:= { X.c with now:=X.c.now+n }) (by show ¬X.c.gone=8;omega) (by show ¬X.c.cur=X.c.una;omega) hh
          rw[e2];refine⟨fun N=>rfl,bK0 (nf X n) (b0:=X.c.bg) ?_ hh,fun _=>rfl,A4 _⟩;simp only[d_4 (nf X n),d_5 (nf X n),aN1 (nf X n),aN0 (nf X n),aM9 (nf X n),aJ6 (nf X n),aJ5 (nf X n),aI3 (nf X n),X9 (nf X n),aM8 (nf X n),aM7 (nf X n),aM6 (nf X n),V4];first|(rw[<-hh];rfl)|(rw[hh];rfl)))
    | (have e:=Cn.bU5 h (by omega) (by omega)
       rw[e];refine⟨fun N=>rfl,aE5 (nf X n) ?_ hh,fun _=>rfl,A4 _⟩;simp only[d_4 (nf X n),d_5 (nf X n),aN1 (nf X n),aN0 (nf X n),aM9 (nf X n),aJ6 (nf X n),aJ5 (nf X n),aI3 (nf X n),X9 (nf X n),aM8 (nf X n),aM7 (nf X n),aM6 (nf X n),V4];first|(rw[<-hh];rfl)|(rw[hh];rfl))
 | true=>
   refine aA0 (is:=[n]) (bs:=[]) (ss:=[]) (aM0 (L6 ..)) func25 rfl dT8 W hh (ac8 (hc _ hh) ?_) ?_ rfl
   .simp only[A6,tmA,F8,ne0,bJ4,and_true];exact⟨by omega,by omega⟩
   repeat'(first|exact V9|refine W0 ?_ ?_)
   all_goals
    intro hpc;replace hpc:A6 (nE X n) _:=hpc;simp only[A6,tmA,F8,kdA,ne0,ae2,bJ3,bJ4,and_true]at hpc
    (repeat(obtain⟨_,hpc⟩:=hpc))
    first
    | (have e:=Cn.bU6 h (by omega)
       have w0:=hw (by omega);rw[e];refine⟨fun N=>rfl,aE5 (nf X n) ?_ hh,fun _=>rfl,A4 _⟩;refine Eq.trans (b:=({ X.c with now:=X.c.now+n,st:=0,why:=0 }:Cn)) ?_ (congrArg (fun v=>({ X.c with now:=X.c.now+n,st:=0,why:=v }:Cn)) w0.symm);simp only[d_4 (nf X n),d_5 (nf X n),aN1 (nf X n),aN0 (nf X n),aM9 (nf X n),aJ6 (nf X n),aJ5 (nf X n),aI3 (nf X n),X9 (nf X n),aM8 (nf X n),aM7 (nf X n),aM6 (nf X n),V4];first|(rw[<-hh];rfl)|(rw[hh];rfl))
    | (have e:=Cn.cA4 h (by omega) (by omega)
       rw[e];first
       | (have e2:=Cn.ca3 (c:= { X.c with now:=X.c.now+n }) (by show X.c.gone=8;omega)
          rw[e2];refine⟨fun N=>rfl,aE5 (nf X n) ?_ hh,fun _=>rfl,A4 _⟩;simp only[d_4 (nf X n),d_5 (nf X n),aN1 (nf X n),aN0 (nf X n),aM9 (nf X n),aJ6 (nf X n),aJ5 (nf X n),aI3 (nf X n),X9 (nf X n),aM8 (nf X n),aM7 (nf X n),aM6 (nf X n),V4];first|(rw[<-hh];rfl)|(rw[hh];rfl))
       | (have e2:=Cn.ca4 (c:= { X.c with now:=X.c.now+n }) (by show ¬X.c.gone=8;omega) (by show X.c.cur=X.c.una;omega)
          rw[e2];refine⟨fun N=>rfl,bK0 (nf X n) (b0:=X.c.bg) ?_ hh,fun _=>rfl,A4 _⟩;simp only[d_4 (nf X n),d_5 (nf X n),aN1 (nf X n),aN0 (nf X n),aM9 (nf X n),aJ6 (nf X n),aJ5 (nf X n),aI3 (nf X n),X9 (nf X n),aM8 (nf X n),aM7 (nf X n),aM6 (nf X n),V4];first|(rw[<-hh];rfl)|(rw[hh];rfl))
       | (have e2:=Cn.eL7 (c:= { X.c with now:=X.c.now+n }) (by show ¬X.c.gone=8;omega) (by show ¬X.c.cur=X.c.una;omega) hh
          rw[e2];refine⟨fun N=>rfl,bK0 (nf X n) (b0:=X.c.bg) ?_ hh,fun _=>rfl,A4 _⟩;simp only[d_4 (nf X n),d_5 (nf X n),aN1 (nf X n),aN0 (nf X n),aM9 (nf X n),aJ6 (nf X n),aJ5 (nf X n),aI3 (nf X n),X9 (nf X n),aM8 (nf X n),aM7 (nf X n),aM6 (nf X n),V4];first|(rw[<-hh];rfl)|(rw[hh];rfl)))
    | (have e:=Cn.bU5 h (by omega) (by omega)
       rw[e];refine⟨fun N=>rfl,aE5 (nf X n) ?_ hh,fun _=>rfl,A4 _⟩;simp only[d_4 (nf X n),d_5 (nf X n),aN1 (nf X n),aN0 (nf X n),aM9 (nf X n),aJ6 (nf X n),aJ5 (nf X n),aI3 (nf X n),X9 (nf X n),aM8 (nf X n),aM7 (nf X n),aM6 (nf X n),V4];first|(rw[<-hh];rfl)|(rw[hh];rfl))
theorem cL1(hw:¬X.c.st=0->X.c.why=0){n:Int}(h0: -9223372036854775808<=n)(h1:n<=9223372036854775807):Calls prog 25 #[.pointer (some ⟨g,0,none⟩), .int .i64 n] w (F7 fun v' w'=>v'= .int .i64 (X.c.aW7 n)/\aS4 w w' g (X4 a g X.c.has) ⟨X.c.aN4 n,X.L,X.R⟩):=by
 by_cases h:n<0\/1099511627776<X.c.now+n
 .exact cu3 W hz hr h0 h1 h
 .exact cb2 W hz hr hw h
omit W hz hr in
theorem dW4:X.c.a23<=2048:=by
 unfold Cn.a23 Cn.aS8;split<;>omega
omit W hr in
theorem dd8(s:ByteArray)(hs:s.size<=9223372036854775807):(X.c.all++s.extract 0 (X.c.wrN s).toNat).size<=4503599627370496:=by
 have h1:=hz.a;have h2:=dW4 (X:=X);rw[aR,ByteArray.size_extract];unfold Cn.wrN;omega
theorem cA9(s:ByteArray)(hs:s.size<=9223372036854775807):Calls prog 27 #[.pointer (some ⟨g,0,none⟩), .string s] w (F7 fun v' w'=>v'= .tuple #[.int .i64 (X.c.wrA s), .int .i64 (X.c.wrE s)]/\aS4 w w' g (X4 a g X.c.has) ⟨X.c.wrC s,X.L,X.R⟩):=by
 have hc:=fun(has:Bool) (hh:X.c.has=has)=>Z1 hh hz.sz hr (aH3 (aM1 hz) (show X5 (sE X s) s0B from Z6 ⟨⟨by show(0:Int)<=(s.size:Int);omega,by show(s.size:Int)<=9223372036854775807;omega⟩,trivial⟩))
 have hl:=dd8 hz s hs;have e0:(sE X s).s 0=s:=rfl;cases hh:X.c.has with
 | false=>
   refine aA0 (is:=[]) (bs:=[]) (ss:=[s]) (aM0 (L6 ..)) func27 rfl dT2 W hh (hc _ hh) ?_ rfl;repeat'(first|exact V9|refine W0 ?_ ?_)
   all_goals
    intro hpc;replace hpc:A6 (sE X s) _:=hpc;simp only[A6,tmA,F8,kdA,dM5,e0,aG6,and_true]at hpc
    (repeat(obtain⟨_,hpc⟩:=hpc))
    first
    | (have e:=Cn.bU3 (c:=X.c) (by first|exact .inl (by assumption)|exact .inr (by assumption)) s
       rw[e.1,e.2.1,e.2.2];refine⟨fun N=>?_,aH5 hh,fun _=>rfl,A4 _⟩;first
       | (rw[if_pos (show X.c.st=0/\X.c.why≠0 from⟨by assumption,by assumption⟩)];rfl)
       | (rw[if_neg (show ¬(X.c.st=0/\X.c.why≠0)from fun q=>q.2 (by assumption))];rfl)
       | (rw[if_neg (show ¬(X.c.st=0/\X.c.why≠0)from fun q=>(show ¬X.c.st=0 from by assumption) q.1)];rfl))
    | (have hs0:X.c.shut=false:=by first|assumption|exact bc.2 (by assumption)
       have hn0:¬X.c.st=0:=by assumption
       have e:=Cn.cA2 (c:=X.c) hn0 hs0 s;first
       | (rw[e.1,e.2.1,e.2.2]
          refine⟨fun N=>?_,aE5 rfl ?_ hh,fun _=>rfl,A4 _⟩
          .first
           | (rw[if_pos (show X.c.wrN s=0/\s.size≠0 from⟨by assumption,by omega⟩)]
              show Value.tuple #[.int .i64 0, .int .i64 14]=_;rw[show X.c.wrN s=0 from by assumption])
           | (rw[if_neg (show ¬(X.c.wrN s=0/\s.size≠0)from by omega)];rfl)
          .simp only[cQ4 (J:=sE X s) rfl,X9 (J:=sE X s) rfl,V4,dM6];first|(rw[<-hh];rfl)|(rw[hh];rfl))
       | (show(u9 (sE X s) _).b=true
          rw[E5];have q:(((X.c.all++s.extract 0 (X.c.wrN s).toNat).size:Nat):Int)<=4503599627370496:=by omega
          rw[aR]at q;simp only[z7,A8,A0];show((X.c.all.size:Nat):Int)+((s.extract 0 (X.c.wrN s).toNat).size:Int)<=4503599627370496;omega))
 | true=>
   refine aA0 (is:=[]) (bs:=[]) (ss:=[s]) (aM0 (L6 ..)) func27 rfl dS9 W hh (hc _ hh) ?_ rfl;repeat'(first|exact V9|refine W0 ?_ ?_)
   all_goals
    intro hpc;replace hpc:A6 (sE X s) _:=hpc;simp only[A6,tmA,F8,kdA,dM5,e0,aG6,and_true]at hpc
    (repeat(obtain⟨_,hpc⟩:=hpc))
    first
    | (have e:=Cn.bU3 (c:=X.c) (by first|exact .inl (by assumption)|exact .inr (by assumption)) s
       rw[e.1,e.2.1,e.2.2];refine⟨fun N=>?_,aH5 hh,fun _=>rfl,A4 _⟩;first
       | (rw[if_pos (show X.c.st=0/\X.c.why≠0 from⟨by assumption,by assumption⟩)];rfl)
       | (rw[if_neg (show ¬(X.c.st=0/\X.c.why≠0)from fun q=>q.2 (by assumption))];rfl)
       | (rw[if_neg (show ¬(X.c.st=0/\X.c.why≠0)from fun q=>(show ¬X.c.st=0 from by assumption) q.1)];rfl))
    | (have hs0:X.c.shut=false:=by first|assumption|exact bc.2 (by assumption)
       have hn0:¬X.c.st=0:=by assumption
       have e:=Cn.cA2 (c:=X.c) hn0 hs0 s;first
       | (rw[e.1,e.2.1,e.2.2]
          refine⟨fun N=>?_,aE5 rfl ?_ hh,fun _=>rfl,A4 _⟩
          .first
           | (rw[if_pos (show X.c.wrN s=0/\s.size≠0 from⟨by assumption,by omega⟩)]
              show Value.tuple #[.int .i64 0, .int .i64 14]=_;rw[show X.c.wrN s=0 from by assumption])
           | (rw[if_neg (show ¬(X.c.wrN s=0/\s.size≠0)from by omega)];rfl)
          .simp only[cQ4 (J:=sE X s) rfl,X9 (J:=sE X s) rfl,V4,dM6];first|(rw[<-hh];rfl)|(rw[hh];rfl))
       | (show(u9 (sE X s) _).b=true
          rw[E5];have q:(((X.c.all++s.extract 0 (X.c.wrN s).toNat).size:Nat):Int)<=4503599627370496:=by omega
          rw[aR]at q;simp only[z7,A8,A0];show((X.c.all.size:Nat):Int)+((s.extract 0 (X.c.wrN s).toNat).size:Int)<=4503599627370496;omega))
theorem cB2:Calls prog 36 #[.pointer (some ⟨g,0,none⟩)] w (F7 fun v' w'=>v'= .int .i64 (X.c.am6 X.L)/\aS4 w w' g (X4 a g X.c.has) X):=by
 have hc:=fun(has:Bool) (hh:X.c.has=has)=>Z1 hh hz.sz hr (show X5 (oE X) mqB from aM1 hz)
 cases hh:X.c.has with
 | false=>
   refine aA0 (is:=[]) (bs:=[]) (ss:=[]) (aM0 (L6 ..)) func36 rfl dV9 W hh (hc _ hh) ?_ rfl;repeat'(first|exact V9|refine W0 ?_ ?_)
   all_goals
    intro hpc;replace hpc:A6 (oE X) _:=hpc;simp only[A6,tmA,F8,kdA,dM9,bs6,bJ5,and_true]at hpc
    (repeat(obtain⟨_,hpc⟩:=hpc))
    try simp only[aQ]at*
    refine⟨fun N=>?_,aH5 hh,fun _=>rfl,A4 _⟩;unfold Cn.am6 b2;show _=Value.int .i64 _;simp[*];try rfl
 | true=>
   refine aA0 (is:=[]) (bs:=[]) (ss:=[]) (aM0 (L6 ..)) func36 rfl dV8 W hh (hc _ hh) ?_ rfl;repeat'(first|exact V9|refine W0 ?_ ?_)
   all_goals
    intro hpc;replace hpc:A6 (oE X) _:=hpc;simp only[A6,tmA,F8,kdA,dM9,bs6,bJ5,and_true]at hpc
    (repeat(obtain⟨_,hpc⟩:=hpc))
    try simp only[aQ]at*
    refine⟨fun N=>?_,aH5 hh,fun _=>rfl,A4 _⟩;unfold Cn.am6 b2;show _=Value.int .i64 _;simp[*];try rfl
theorem cM0{n:Int}(h0: -9223372036854775808<=n)(h1:n<=9223372036854775807):Calls prog 29 #[.pointer (some ⟨g,0,none⟩), .int .i64 n] w (F7 fun v' w'=>v'= .tuple #[.string (X.c.rdT X.L n), .bool (X.c.rdB X.L), .int .i64 (X.c.rdE X.L)]/\aS4 w w' g (X4 a g X.c.has) ⟨X.c.rdC X.L n,X.L,X.R⟩):=by
 have hc:=fun(has:Bool) (hh:X.c.has=has)=>Z1 hh hz.sz hr (aH3 (aM1 hz) (show X5 (nE X n) i6B from Z6 ⟨⟨h0,h1⟩,trivial⟩))
 cases hh:X.c.has with
 | false=>
   refine aA0 (is:=[n]) (bs:=[]) (ss:=[]) (aM0 (L6 ..)) func29 rfl dX3 W hh (hc _ hh) ?_ rfl;repeat'(first|exact V9|refine W0 ?_ ?_)
   all_goals
    intro hpc;replace hpc:A6 (nE X n) _:=hpc;simp only[A6,tmA,F8,kdA,ne0,bs7,bs8,and_true]at hpc
    (repeat(obtain⟨_,hpc⟩:=hpc))
    try simp only[aQ]at*
    first
    | (have e:X.c.rdC X.L n=X.c/\X.c.rdT X.L n=K4:=by
        unfold Cn.rdC Cn.rdT;simp[*]
       rw[e.1,e.2];refine⟨fun N=>?_,aH5 hh,fun _=>rfl,A4 _⟩;unfold Cn.rdB Cn.rdE;simp[*];try rfl)
    | (have e:X.c.rdC X.L n= { X.c with rd:=X.c.rd+rdN X.L X.c.rd n }/\X.c.rdT X.L n=rdS (byteM X.L) X.c.rd (rdN X.L X.c.rd n).toNat/\X.c.rdB X.L=false/\X.c.rdE X.L=0:=by
        unfold Cn.rdC Cn.rdT Cn.rdB Cn.rdE;simp[*]
       rw[e.1,e.2.1,e.2.2.1,e.2.2.2];refine⟨fun N=>rfl,?_,fun _=>rfl,rsL_T _⟩;show({ setCh (nE X n) X.c _ with bg:=X.c.bg }:Cn)=_;simp only[setCh,setV_0,setV_1,setV_2,setV_3,setV_4,setV_5,setV_6,setV_7,setV_8,setV_9,setV_10,setV_11,setV_12,setV_13,setV_14,setV_15,setV_16,setV_17,setV_18,setV_19,setV_20,setV_21,setV_22,setV_23,setV_24,setV_25,setV_26,setV_27,setV_29,setV_30,setV_31,setV_32,setV_33,setV_34,setV_35,setV_36,setV_37];rw[setE (b:=true) (by exact hh)];rfl)
 | true=>
   refine aA0 (is:=[n]) (bs:=[]) (ss:=[]) (aM0 (L6 ..)) func29 rfl dX2 W hh (hc _ hh) ?_ rfl;repeat'(first|exact V9|refine W0 ?_ ?_)
   all_goals
    intro hpc;replace hpc:A6 (nE X n) _:=hpc;simp only[A6,tmA,F8,kdA,ne0,bs7,bs8,and_true]at hpc
    (repeat(obtain⟨_,hpc⟩:=hpc))
    try simp only[aQ]at*
    first
    | (have e:X.c.rdC X.L n=X.c/\X.c.rdT X.L n=K4:=by
        unfold Cn.rdC Cn.rdT;simp[*]
       rw[e.1,e.2];refine⟨fun N=>?_,aH5 hh,fun _=>rfl,A4 _⟩;unfold Cn.rdB Cn.rdE;simp[*];try rfl)
    | (have e:X.c.rdC X.L n= { X.c with rd:=X.c.rd+rdN X.L X.c.rd n }/\X.c.rdT X.L n=rdS (aP5 X.L) X.c.rd (rdN X.L X.c.rd n).toNat/\X.c.rdB X.L=false/\X.c.rdE X.L=0:=by
        unfold Cn.rdC Cn.rdT Cn.rdB Cn.rdE;simp[*]
       rw[e.1,e.2.1,e.2.2.1,e.2.2.2];refine⟨fun N=>rfl,?_,fun _=>rfl,A4 _⟩;show({ E6 (nE X n) X.c _ with bg:=X.c.bg }:Cn)=_;simp only[E6,svA];rw[aC1 (b:=true) (by exact hh)];rfl)
theorem cC0(hw:¬X.c.st=0->X.c.why=0):Calls prog 31 #[.pointer (some ⟨g,0,none⟩)] w (F7 fun v' w'=>v'= .int .i64 X.c.clE/\aS4 w w' g (X4 a g X.c.has) ⟨X.c.clC,X.L,X.R⟩):=by
 have hc:=fun(has:Bool) (hh:X.c.has=has)=>Z1 hh hz.sz hr (show X5 (oE X) mqB from aM1 hz)
 cases hh:X.c.has with
 | false=>
   refine aA0 (is:=[]) (bs:=[]) (ss:=[]) (aM0 (L6 ..)) func31 rfl dh5 W hh (hc _ hh) ?_ rfl;repeat'(first|exact V9|refine W0 ?_ ?_)
   all_goals
    intro hpc;replace hpc:A6 (oE X) _:=hpc;simp only[A6,tmA,F8,kdA,and_true]at hpc
    (repeat(obtain⟨_,hpc⟩:=hpc))
    try simp only[aQ]at*
    first
    | (have e:X.c.clE=10/\X.c.clC=X.c:=by
        unfold Cn.clC Cn.clE;simp[*]
       rw[e.1,e.2];exact⟨fun N=>rfl,aH5 hh,fun _=>rfl,A4 _⟩)
    | (have e:X.c.clE=17/\X.c.clC=X.c:=by
        unfold Cn.clC Cn.clE;simp[*]
       rw[e.1,e.2];exact⟨fun N=>rfl,aH5 hh,fun _=>rfl,A4 _⟩)
    | (have e:X.c.clE=0/\X.c.clC=({ X.c with st:=0 }:Cn).F6:=by
        unfold Cn.clC Cn.clE;simp[*]
       have w0:=hw (by omega);rw[e.1,e.2];refine⟨fun N=>rfl,aE5 rfl ?_ hh,fun _=>rfl,A4 _⟩;refine Eq.trans (b:=({ X.c with st:=0,why:=0 }:Cn)) ?_ (congrArg (fun v=>({ X.c with st:=0,why:=v }:Cn)) w0.symm);simp only[d_4 (J:=oE X) rfl,d_5 (J:=oE X) rfl,X9 (J:=oE X) rfl,V4];first|(rw[<-hh];rfl)|(rw[hh];rfl))
    | (have e:X.c.clE=0/\X.c.clC=({ X.c with shut:=true,st:=4 }:Cn).F6:=by
        unfold Cn.clC Cn.clE;simp[*]
       rw[e.1,e.2];refine⟨fun N=>rfl,aE5 rfl ?_ hh,fun _=>rfl,A4 _⟩;simp only[d_4 (J:=oE X) rfl,ai3 (J:=oE X) rfl,X9 (J:=oE X) rfl,V4];first|(rw[<-hh];rfl)|(rw[hh];rfl))
    | (have e:X.c.clE=0/\X.c.clC=({ X.c with shut:=true,st:=8 }:Cn).F6:=by
        unfold Cn.clC Cn.clE;simp[*]
       rw[e.1,e.2];refine⟨fun N=>rfl,aE5 rfl ?_ hh,fun _=>rfl,A4 _⟩;simp only[d_4 (J:=oE X) rfl,ai3 (J:=oE X) rfl,X9 (J:=oE X) rfl,V4];first|(rw[<-hh];rfl)|(rw[hh];rfl))
    | (have e:X.c.clE=0/\X.c.clC=({ X.c with shut:=true }:Cn).F6:=by
        unfold Cn.clC Cn.clE;simp[*]
       rw[e.1,e.2];refine⟨fun N=>rfl,aE5 rfl ?_ hh,fun _=>rfl,A4 _⟩;simp only[ai3 (J:=oE X) rfl,X9 (J:=oE X) rfl,V4];first|(rw[<-hh];rfl)|(rw[hh];rfl))
 | true=>
   refine aA0 (is:=[]) (bs:=[]) (ss:=[]) (aM0 (L6 ..)) func31 rfl dh4 W hh (hc _ hh) ?_ rfl;repeat'(first|exact V9|refine W0 ?_ ?_)
   all_goals
    intro hpc;replace hpc:A6 (oE X) _:=hpc;simp only[A6,tmA,F8,kdA,and_true]at hpc
    (repeat(obtain⟨_,hpc⟩:=hpc))
    try simp only[aQ]at*
    first
    | (have e:X.c.clE=10/\X.c.clC=X.c:=by
        unfold Cn.clC Cn.clE;simp[*]
       rw[e.1,e.2];exact⟨fun N=>rfl,aH5 hh,fun _=>rfl,A4 _⟩)
    | (have e:X.c.clE=17/\X.c.clC=X.c:=by
        unfold Cn.clC Cn.clE;simp[*]
       rw[e.1,e.2];exact⟨fun N=>rfl,aH5 hh,fun _=>rfl,A4 _⟩)
    | (have e:X.c.clE=0/\X.c.clC=({ X.c with st:=0 }:Cn).F6:=by
        unfold Cn.clC Cn.clE;simp[*]
       have w0:=hw (by omega);rw[e.1,e.2];refine⟨fun N=>rfl,aE5 rfl ?_ hh,fun _=>rfl,A4 _⟩;refine Eq.trans (b:=({ X.c with st:=0,why:=0 }:Cn)) ?_ (congrArg (fun v=>({ X.c with st:=0,why:=v }:Cn)) w0.symm);simp only[d_4 (J:=oE X) rfl,d_5 (J:=oE X) rfl,X9 (J:=oE X) rfl,V4];first|(rw[<-hh];rfl)|(rw[hh];rfl))
    | (have e:X.c.clE=0/\X.c.clC=({ X.c with shut:=true,st:=4 }:Cn).F6:=by
        unfold Cn.clC Cn.clE;simp[*]
       rw[e.1,e.2];refine⟨fun N=>rfl,aE5 rfl ?_ hh,fun _=>rfl,A4 _⟩;simp only[d_4 (J:=oE X) rfl,ai3 (J:=oE X) rfl,X9 (J:=oE X) rfl,V4];first|(rw[<-hh];rfl)|(rw[hh];rfl))
    | (have e:X.c.clE=0/\X.c.clC=({ X.c with shut:=true,st:=8 }:Cn).F6:=by
        unfold Cn.clC Cn.clE;simp[*]
       rw[e.1,e.2];refine⟨fun N=>rfl,aE5 rfl ?_ hh,fun _=>rfl,A4 _⟩;simp only[d_4 (J:=oE X) rfl,ai3 (J:=oE X) rfl,X9 (J:=oE X) rfl,V4];first|(rw[<-hh];rfl)|(rw[hh];rfl))
    | (have e:X.c.clE=0/\X.c.clC=({ X.c with shut:=true }:Cn).F6:=by
        unfold Cn.clC Cn.clE;simp[*]
       rw[e.1,e.2];refine⟨fun N=>rfl,aE5 rfl ?_ hh,fun _=>rfl,A4 _⟩;simp only[ai3 (J:=oE X) rfl,X9 (J:=oE X) rfl,V4];first|(rw[<-hh];rfl)|(rw[hh];rfl))
theorem cC2:Calls prog 33 #[.pointer (some ⟨g,0,none⟩)] w (F7 fun v' w'=>v'= .int .i64 X.c.abE/\aS4 w w' g (X4 a g X.c.has) ⟨X.c.abC,X.L,X.R++X.c.abR⟩):=by
 have hc:=fun(has:Bool) (hh:X.c.has=has)=>Z1 hh hz.sz hr (show X5 (oE X) mqB from aM1 hz)
 have em:(X.c.iss+X.c.snt % 4294967296) % 4294967296=(X.c.iss+X.c.snt) % 4294967296:=by omega
 cases hh:X.c.has with
 | false=>
   refine aA0 (is:=[]) (bs:=[]) (ss:=[]) (aM0 (L6 ..)) func33 rfl dk9 W hh (hc _ hh) ?_ rfl;repeat'(first|exact V9|refine W0 ?_ ?_)
   all_goals
    intro hpc;replace hpc:A6 (oE X) _:=hpc;simp only[A6,tmA,F8,kdA,and_true]at hpc
    (repeat(obtain⟨_,hpc⟩:=hpc))
    first
    | (have e:X.c.abE=10/\X.c.abC=X.c/\X.c.abR=[]:=by
        unfold Cn.abC Cn.abE Cn.abR;simp[*]
       rw[e.1,e.2.1,e.2.2,ao];exact⟨fun N=>rfl,aH5 hh,fun _=>rfl,A4 _⟩)
    | (have e:X.c.abE=0/\X.c.abC=({ X.c with st:=0,why:=17 }:Cn).F6/\X.c.abR=[]:=by
        unfold Cn.abC Cn.abE Cn.abR;simp[*]
       rw[e.1,e.2.1,e.2.2,ao];refine⟨fun N=>rfl,aE5 rfl ?_ hh,fun _=>rfl,A4 _⟩;simp only[d_4 (J:=oE X) rfl,d_5 (J:=oE X) rfl,X9 (J:=oE X) rfl,V4];first|(rw[<-hh];rfl)|(rw[hh];rfl))
    | (have e:X.c.abE=0/\X.c.abC=({ X.c with st:=0,why:=17 }:Cn).F6/\X.c.abR=[(X.c.iss+X.c.snt) % 4294967296]:=by
        unfold Cn.abC Cn.abE Cn.abR;simp[*]
       rw[e.1,e.2.1,e.2.2,<-em];refine⟨fun N=>rfl,aE5 rfl ?_ hh,fun _=>rfl,aY0 X _⟩;simp only[d_4 (J:=oE X) rfl,d_5 (J:=oE X) rfl,X9 (J:=oE X) rfl,V4];first|(rw[<-hh];rfl)|(rw[hh];rfl))
 | true=>
   refine aA0 (is:=[]) (bs:=[]) (ss:=[]) (aM0 (L6 ..)) func33 rfl dk8 W hh (hc _ hh) ?_ rfl;repeat'(first|exact V9|refine W0 ?_ ?_)
   all_goals
    intro hpc;replace hpc:A6 (oE X) _:=hpc;simp only[A6,tmA,F8,kdA,and_true]at hpc
    (repeat(obtain⟨_,hpc⟩:=hpc))
    first
    | (have e:X.c.abE=10/\X.c.abC=X.c/\X.c.abR=[]:=by
        unfold Cn.abC Cn.abE Cn.abR;simp[*]
       rw[e.1,e.2.1,e.2.2,ao];exact⟨fun N=>rfl,aH5 hh,fun _=>rfl,A4 _⟩)
    | (have e:X.c.abE=0/\X.c.abC=({ X.c with st:=0,why:=17 }:Cn).F6/\X.c.abR=[]:=by
        unfold Cn.abC Cn.abE Cn.abR;simp[*]
       rw[e.1,e.2.1,e.2.2,ao];refine⟨fun N=>rfl,aE5 rfl ?_ hh,fun _=>rfl,A4 _⟩;simp only[d_4 (J:=oE X) rfl,d_5 (J:=oE X) rfl,X9 (J:=oE X) rfl,V4];first|(rw[<-hh];rfl)|(rw[hh];rfl))
    | (have e:X.c.abE=0/\X.c.abC=({ X.c with st:=0,why:=17 }:Cn).F6/\X.c.abR=[(X.c.iss+X.c.snt) % 4294967296]:=by
        unfold Cn.abC Cn.abE Cn.abR;simp[*]
       rw[e.1,e.2.1,e.2.2,<-em];refine⟨fun N=>rfl,aE5 rfl ?_ hh,fun _=>rfl,aY0 X _⟩;simp only[d_4 (J:=oE X) rfl,d_5 (J:=oE X) rfl,X9 (J:=oE X) rfl,V4];first|(rw[<-hh];rfl)|(rw[hh];rfl))
end
end Go.Proofs.YtnlcpcmdlcakgaaGreat
