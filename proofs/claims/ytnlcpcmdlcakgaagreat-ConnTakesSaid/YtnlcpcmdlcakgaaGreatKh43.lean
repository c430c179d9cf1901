/- A part of the proof that a connection answers as the document says: Ce0 Cd5 Cda. -/
import Derived.Test.YtnlcpcmdlcakgaaGreatKh40
import Derived.Test.YtnlcpcmdlcakgaaGreatKh42
set_option maxRecDepth 100000
set_option maxHeartbeats 4000000
set_option linter.unusedVariables false
set_option linter.unusedSimpArgs false
set_option linter.unusedSectionVars false
open Go.Proofs.Tryz
namespace Go.Proofs.YtnlcpcmdlcakgaaGreat
open Go.RowKit Sy
theorem aH0{J:Env}(E:CnEnv J):∀ q∈deS,q.Ok prog J:=by
 intro q hq;rcases aa.1 hq with rfl|hq
 .exact b01 E
 .exact ao8 E q hq
theorem T7{v:Value}{c':Cn}{L':Rws}{R':List Int}{u:Bn->Value}{c:Cn}{L:Rws}{R:List Int}(h0:∀ N,u N=v)(h1:c=c')(h2:c'.has=true->L=L')(h3:R=R'):aq1 v ⟨c',L',R'⟩ u c L R:=T9 h0 h1 h2 h3
theorem aC0{X:Cs}{J:Env}{b:Bool}(hb:X.c.has=b):E6 J X.c [⟨28, .bl b⟩]=X.c:=by
 show Z7 X.c 28 (u9 J (.bl b))=X.c;rw[aC1 hb]
theorem aD1{J:Env}(hf:J.f=cnF){Y y z:Tm}{Z:Cn}{b:Bool}(hY:B4 J Y=Z)(hb:Z.has=b):E6 J (B4 J (.ap 120 Y y z)) [⟨28, .bl b⟩]=Z.F6:=by
 rw[bV2 hf,hY];show Z7 Z.F6 28 (u9 J (.bl b))=Z.F6;rw[aC1 (by rw[(aG8 Z).2];exact hb)]
theorem cy8(Z:Cn)(b0:Int)(h0:0<=Z.clk)(hn:0<=Z.now):Z.F6.clk<0->(({ Z with bg:=b0 }:Cn).F6).bg=Z.F6.bg:=by
 by_cases h:Z.aI5
 .unfold Cn.F6;rw[if_pos h,if_neg (by omega)];intro q;omega
 .have h':¬({ Z with bg:=b0 }:Cn).aI5:=h;unfold Cn.F6;rw[if_neg h,if_neg h'];intro _;show({ Z with bg:=b0 }:Cn).bgn=Z.bgn;unfold Cn.bgn;rw[if_neg (show ¬Z.clk<0 by omega),if_neg (show ¬({ Z with bg:=b0 }:Cn).clk<0 from fun q=>by have q:Z.clk<0:=q;omega)]
theorem bY3{J:Env}(hf:J.f=cnF){Y y z:Tm}{Z:Cn}{b:Bool}{b0:Int}(hY:B4 J Y= { Z with bg:=b0 })(hb:Z.has=b)(h0:0<=Z.clk)(hn:0<=Z.now){v:Value}{L L':Rws}{R R':List Int}{u:Bn->Value}(hu:∀ N,u N=v)(hL:Z.F6.has=true->L'=L)(hR:R'=R):
 aq1 v ⟨Z.F6,L,R⟩ u (E6 J (B4 J (.ap 120 Y y z)) [⟨28, .bl b⟩]) L' R':=by
 have e:E6 J (B4 J (.ap 120 Y y z)) [⟨28, .bl b⟩]=({ Z with bg:=b0 }:Cn).F6:=aD1 hf hY hb;rw[e];exact⟨hu,cF1 Z b0,cy8 Z b0 h0 hn,hL,hR⟩
section
variable(X:Cs)(n:Int)(s:ByteArray)
theorem cQ9:(u9 (nE X n) bgK).i=X.c.bgn:=bt4 ..
theorem eQ0:(u9 (sE X s) kU1).i=max 0 (X.c.una - 1):=by
 unfold kU1;simp only[aD5,A7,A0,z7,kdA];split<;>omega
theorem eQ8:(u9 (sE X s) kLm).i=min (X.c.all.size:Int) (max 0 (X.c.una - 1)):=by
 unfold kLm;simp only[aD5,A7,A8,eQ0,kdA];split<;>omega
theorem eQ6:(u9 (sE X s) kRo).i=2048 - X.c.aS8:=by
 unfold kRo Cn.aS8;simp only[E9,A0,A8,eQ8,kdA]
theorem a78(h:X.c.shut=false):(u9 (sE X s) kDn).i=X.c.wrN s:=by
 have e0:(sE X s).s 0=s:=rfl;unfold kDn Cn.wrN Cn.a23;rw[h];simp only[aD5,A7,A8,eQ6,aG6,e0];split<;>simp<;>omega
theorem dN2(h:X.c.shut=false):(u9 (sE X s) kDa).s=X.c.all++s.extract 0 (X.c.wrN s).toNat:=by
 rw[<-a78 X s h];rfl
theorem eP9:(u9 (oE X) kU1).i=max 0 (X.c.una - 1):=by
 unfold kU1;simp only[aD5,A7,A0,z7,kdA];split<;>omega
theorem eQ7:(u9 (oE X) kLm).i=min (X.c.all.size:Int) (max 0 (X.c.una - 1)):=by
 unfold kLm;simp only[aD5,A7,A8,eP9,kdA];split<;>omega
theorem dM8:(u9 (oE X) kRo).i=2048 - X.c.aS8:=by
 unfold kRo Cn.aS8;simp only[E9,A0,A8,eQ7,kdA]
end
section
variable{w:World}{g:Nat}{a:Da}{X:Cs}(W:DcW w g a X)(hz:MqX X)(hr:RgX X.c)
include W hz hr
theorem cj9{n:Int}(h0: -9223372036854775808<=n)(h1:n<=9223372036854775807)(h:n<0\/1099511627776<X.c.now+n):Calls prog 26 #[.pointer (some ⟨g,0,none⟩), .int .i64 n] w (F7 fun v' w'=>v'= .int .i64 (X.c.aW7 n)/\aS6 w w' g (Y8 a g X.c.has) ⟨X.c.aN4 n,X.L,X.R⟩):=by
 obtain⟨e1,e2⟩:=Cn.dJ2 h;rw[e1,e2];have r13:=hr.r13;have hc:=fun(has:Bool) (hh:X.c.has=has)=>Z1 hh hz.sz hr (aH3 (aM1 hz) (show X5 (nE X n) i6B from Z6 ⟨⟨h0,h1⟩,trivial⟩))
 by_cases q:n<0
 .cases hh:X.c.has with
  | false=>
    refine Y2 (is:=[n]) (bs:=[]) (ss:=[]) (aH0 (L6 ..)) func26 rfl c27 W hh (ac8 (hc _ hh) ?_) ⟨fun hpc=>T9 (fun N=>rfl) (aC0 hh) (fun _=>rfl) (A4 _),trivial⟩ rfl;simp only[A6,tmA,F8,kdA,ne0,ae2,and_true];exact q
  | true=>
    refine Y2 (is:=[n]) (bs:=[]) (ss:=[]) (aH0 (L6 ..)) func26 rfl c26 W hh (ac8 (hc _ hh) ?_) ⟨fun hpc=>T9 (fun N=>rfl) (aC0 hh) (fun _=>rfl) (A4 _),trivial⟩ rfl;simp only[A6,tmA,F8,kdA,ne0,ae2,and_true];exact q
 .by_cases q2:1099511627776<n
  .cases hh:X.c.has with
   | false=>
     refine Y2 (is:=[n]) (bs:=[]) (ss:=[]) (aH0 (L6 ..)) func26 rfl c25 W hh (ac8 (hc _ hh) ?_) ⟨fun hpc=>T9 (fun N=>rfl) (aC0 hh) (fun _=>rfl) (A4 _),trivial⟩ rfl;simp only[A6,tmA,F8,kdA,ne0,ae2,and_true];exact⟨q,q2⟩
   | true=>
     refine Y2 (is:=[n]) (bs:=[]) (ss:=[]) (aH0 (L6 ..)) func26 rfl c24 W hh (ac8 (hc _ hh) ?_) ⟨fun hpc=>T9 (fun N=>rfl) (aC0 hh) (fun _=>rfl) (A4 _),trivial⟩ rfl;simp only[A6,tmA,F8,kdA,ne0,ae2,and_true];exact⟨q,q2⟩
  .have hc:=fun(has:Bool) (hh:X.c.has=has)=>Z1 hh hz.sz hr (aH3 (aM1 hz) (show X5 (nE X n) tzB from Z6 ⟨⟨by show 0<=n;omega,by show n<=1099511627776;omega⟩,trivial⟩))
   cases hh:X.c.has with
   | false=>
     refine Y2 (is:=[n]) (bs:=[]) (ss:=[]) (aH0 (L6 ..)) func26 rfl c23 W hh (ac8 (hc _ hh) ?_) ⟨fun hpc=>T9 (fun N=>rfl) (aC0 hh) (fun _=>rfl) (A4 _),trivial⟩ rfl;simp only[A6,tmA,F8,kdA,ne0,ae2,and_true];omega
   | true=>
     refine Y2 (is:=[n]) (bs:=[]) (ss:=[]) (aH0 (L6 ..)) func26 rfl c22 W hh (ac8 (hc _ hh) ?_) ⟨fun hpc=>T9 (fun N=>rfl) (aC0 hh) (fun _=>rfl) (A4 _),trivial⟩ rfl;simp only[A6,tmA,F8,kdA,ne0,ae2,and_true];omega
theorem cP6{n:Int}(h:¬(n<0\/1099511627776<X.c.now+n)):Calls prog 26 #[.pointer (some ⟨g,0,none⟩), .int .i64 n] w (F7 fun v' w'=>v'= .int .i64 (X.c.aW7 n)/\aS6 w w' g (Y8 a g X.c.has) ⟨X.c.aN4 n,X.L,X.R⟩):=by
 rw[Cn.cA3 h];have r13:=hr.r13;have r14:=hr.r14;have r15:=hr.r15;have r22:=hr.r22;have d1:=hr.d1;have d2:=hr.d2;have d3:=hr.d3;have hB:X5 (nE X n) tdB:=Z6 ⟨⟨by show 0<=n;omega,by show n<=1099511627776;omega⟩,⟨by show 0<=X.c.now+n;omega,by show X.c.now+n<=1099511627776;omega⟩,⟨by show 0<=X.c.now+n - X.c.wen;omega,by show X.c.now+n - X.c.wen<=1099511627776;omega⟩,trivial⟩;by_cases q:X.c.clk<0
 .have hc:=fun(has:Bool) (hh:X.c.has=has)=>Z1 hh hz.sz hr (aH3 (aM1 hz) hB)
  cases hh:X.c.has with
  | false=>
    refine Y2 (is:=[n]) (bs:=[]) (ss:=[]) (aH0 (L6 ..)) func26 rfl c32 W hh (ac8 (hc _ hh) ?_) ?_ rfl
    .simp only[A6,tmA,F8,kdA,and_true];exact q
    repeat'(first|exact V9|refine W0 ?_ ?_)
    all_goals
     intro hpc;replace hpc:A6 (nE X n) _:=hpc;simp only[A6,tmA,F8,kdA,ne0,ae2,bJ3,and_true]at hpc
     (repeat(obtain⟨_,hpc⟩:=hpc))
     first
      | (have e:=Cn.bU6 h (by omega)
         rw[e];refine T7 (fun N=>rfl) (aD1 (nf X n) ?_ (by exact hh)) (fun _=>rfl) (A4 _);simp only[d_4 (nf X n),d_5 (nf X n),aN1 (nf X n),aN0 (nf X n),aM9 (nf X n),aJ6 (nf X n),aJ5 (nf X n),aI3 (nf X n),X9 (nf X n),aM8 (nf X n),aM7 (nf X n),aM6 (nf X n),ai2 (nf X n),V4];first|(rw[<-hh];rfl)|(rw[hh];rfl))
      | (have e:=Cn.bU5 h (by omega) (by omega)
         rw[e];refine T7 (fun N=>rfl) (aD1 (nf X n) ?_ (by exact hh)) (fun _=>rfl) (A4 _);simp only[d_4 (nf X n),d_5 (nf X n),aN1 (nf X n),aN0 (nf X n),aM9 (nf X n),aJ6 (nf X n),aJ5 (nf X n),aI3 (nf X n),X9 (nf X n),aM8 (nf X n),aM7 (nf X n),aM6 (nf X n),ai2 (nf X n),V4];first|(rw[<-hh];rfl)|(rw[hh];rfl))
  | true=>
    refine Y2 (is:=[n]) (bs:=[]) (ss:=[]) (aH0 (L6 ..)) func26 rfl c31 W hh (ac8 (hc _ hh) ?_) ?_ rfl
    .simp only[A6,tmA,F8,kdA,and_true];exact q
    repeat'(first|exact V9|refine W0 ?_ ?_)
    all_goals
     intro hpc;replace hpc:A6 (nE X n) _:=hpc;simp only[A6,tmA,F8,kdA,ne0,ae2,bJ3,and_true]at hpc
     (repeat(obtain⟨_,hpc⟩:=hpc))
     first
      | (have e:=Cn.bU6 h (by omega)
         rw[e];refine T7 (fun N=>rfl) (aD1 (nf X n) ?_ (by exact hh)) (fun _=>rfl) (A4 _);simp only[d_4 (nf X n),d_5 (nf X n),aN1 (nf X n),aN0 (nf X n),aM9 (nf X n),aJ6 (nf X n),aJ5 (nf X n),aI3 (nf X n),X9 (nf X n),aM8 (nf X n),aM7 (nf X n),aM6 (nf X n),ai2 (nf X n),V4];first|(rw[<-hh];rfl)|(rw[hh];rfl))
      | (have e:=Cn.bU5 h (by omega) (by omega)
         rw[e];refine T7 (fun N=>rfl) (aD1 (nf X n) ?_ (by exact hh)) (fun _=>rfl) (A4 _);simp only[d_4 (nf X n),d_5 (nf X n),aN1 (nf X n),aN0 (nf X n),aM9 (nf X n),aJ6 (nf X n),aJ5 (nf X n),aI3 (nf X n),X9 (nf X n),aM8 (nf X n),aM7 (nf X n),aM6 (nf X n),ai2 (nf X n),V4];first|(rw[<-hh];rfl)|(rw[hh];rfl))
 .have eb:X.c.bgn=X.c.clk:=by unfold Cn.bgn;rw[if_neg q]
  have hc:=fun(has:Bool) (hh:X.c.has=has)=>Z1 hh hz.sz hr (aH3 (aM1 hz) (show X5 (nE X n) (⟨bgK,0,1099511627776⟩::tdB)from fun x hx=>(aa.1 hx).elim (fun e=>by
   rw[e];show 0<=(u9 (nE X n) bgK).i/\(u9 (nE X n) bgK).i<=1099511627776;rw[cQ9,eb];omega) fun hx=>hB x hx))
  cases hh:X.c.has with
  | false=>
    refine Y2 (is:=[n]) (bs:=[]) (ss:=[]) (aH0 (L6 ..)) func26 rfl c30 W hh (ac8 (hc _ hh) ?_) ?_ rfl
    .simp only[A6,tmA,F8,kdA,and_true];exact q
    repeat'(first|exact V9|refine W0 ?_ ?_)
    all_goals
     intro hpc;replace hpc:A6 (nE X n) _:=hpc;simp only[A6,tmA,F8,kdA,ne0,ae2,bJ3,cQ9,eb,and_true]at hpc
     (repeat(obtain⟨_,hpc⟩:=hpc))
     first
      | (show(u9 (nE X n) _).b=true
         simp only[tmA,F8,kdA];omega)
      | (have e:=Cn.cA4 h (by omega) (by omega)
         rw[e];first
         | (have e2:=Cn.ca3 (c:= { X.c with now:=X.c.now+n }) (by show X.c.gone=8;omega)
            rw[e2];refine T7 (fun N=>rfl) (aD1 (nf X n) ?_ (by exact hh)) (fun _=>rfl) (A4 _);simp only[d_4 (nf X n),d_5 (nf X n),aN1 (nf X n),aN0 (nf X n),aM9 (nf X n),aJ6 (nf X n),aJ5 (nf X n),aI3 (nf X n),X9 (nf X n),aM8 (nf X n),aM7 (nf X n),aM6 (nf X n),ai2 (nf X n),V4];first|(rw[<-hh];rfl)|(rw[hh];rfl))
         | (have e2:=Cn.ca4 (c:= { X.c with now:=X.c.now+n }) (by show ¬X.c.gone=8;omega) (by show X.c.cur=X.c.una;omega)
            rw[e2];refine bY3 (nf X n) (b0:=0) ?_ (by exact hh) (by show 0<=X.c.now+n;omega) (by show 0<=X.c.now+n;omega) (fun N=>rfl) (fun _=>rfl) (A4 _);simp only[d_4 (nf X n),d_5 (nf X n),aN1 (nf X n),aN0 (nf X n),aM9 (nf X n),aJ6 (nf X n),aJ5 (nf X n),aI3 (nf X n),X9 (nf X n),aM8 (nf X n),aM7 (nf X n),aM6 (nf X n),ai2 (nf X n),V4];first|(rw[<-hh];rfl)|(rw[hh];rfl))
         | (have e2:=Cn.eL6 (c:= { X.c with now:=X.c.now+n }) (by show ¬X.c.gone=8;omega) (by show ¬X.c.cur=X.c.una;omega) hh
            rw[e2];refine bY3 (nf X n) (b0:=0) ?_ (by exact hh) (by show 0<=X.c.now+n;omega) (by show 0<=X.c.now+n;omega) (fun N=>rfl) (fun _=>rfl) (A4 _);simp only[d_4 (nf X n),d_5 (nf X n),aN1 (nf X n),aN0 (nf X n),aM9 (nf X n),aJ6 (nf X n),aJ5 (nf X n),aI3 (nf X n),X9 (nf X n),aM8 (nf X n),aM7 (nf X n),aM6 (nf X n),ai2 (nf X n),V4];first|(rw[<-hh];rfl)|(rw[hh];rfl)))
      | (have e:=Cn.bU6 h (by omega)
         rw[e];refine T7 (fun N=>rfl) (aD1 (nf X n) ?_ (by exact hh)) (fun _=>rfl) (A4 _);simp only[d_4 (nf X n),d_5 (nf X n),aN1 (nf X n),aN0 (nf X n),aM9 (nf X n),aJ6 (nf X n),aJ5 (nf X n),aI3 (nf X n),X9 (nf X n),aM8 (nf X n),aM7 (nf X n),aM6 (nf X n),ai2 (nf X n),V4];first|(rw[<-hh];rfl)|(rw[hh];rfl))
      | (have e:=Cn.bU5 h (by omega) (by omega)
         rw[e];refine T7 (fun N=>rfl) (aD1 (nf X n) ?_ (by exact hh)) (fun _=>rfl) (A4 _);simp only[d_4 (nf X n),d_5 (nf X n),aN1 (nf X n),aN0 (nf X n),aM9 (nf X n),aJ6 (nf X n),aJ5 (nf X n),aI3 (nf X n),X9 (nf X n),aM8 (nf X n),aM7 (nf X n),aM6 (nf X n),ai2 (nf X n),V4];first|(rw[<-hh];rfl)|(rw[hh];rfl))
  | true=>
    refine Y2 (is:=[n]) (bs:=[]) (ss:=[]) (aH0 (L6 ..)) func26 rfl c28 W hh (ac8 (hc _ hh) ?_) ?_ rfl
    .simp only[A6,tmA,F8,kdA,and_true];exact q
    repeat'(first|exact V9|refine W0 ?_ ?_)
    all_goals
     intro hpc;replace hpc:A6 (nE X n) _:=hpc;simp only[A6,tmA,F8,kdA,ne0,ae2,bJ3,cQ9,eb,and_true]at hpc
     (repeat(obtain⟨_,hpc⟩:=hpc))
     first
      | (show(u9 (nE X n) _).b=true
         simp only[tmA,F8,kdA];omega)
      | (have e:=Cn.cA4 h (by omega) (by omega)
         rw[e];first
         | (have e2:=Cn.ca3 (c:= { X.c with now:=X.c.now+n }) (by show X.c.gone=8;omega)
            rw[e2];refine T7 (fun N=>rfl) (aD1 (nf X n) ?_ (by exact hh)) (fun _=>rfl) (A4 _);simp only[d_4 (nf X n),d_5 (nf X n),aN1 (nf X n),aN0 (nf X n),aM9 (nf X n),aJ6 (nf X n),aJ5 (nf X n),aI3 (nf X n),X9 (nf X n),aM8 (nf X n),aM7 (nf X n),aM6 (nf X n),ai2 (nf X n),V4];first|(rw[<-hh];rfl)|(rw[hh];rfl))
         | (have e2:=Cn.ca4 (c:= { X.c with now:=X.c.now+n }) (by show ¬X.c.gone=8;omega) (by show X.c.cur=X.c.una;omega)
            rw[e2];refine bY3 (nf X n) (b0:=0) ?_ (by exact hh) (by show 0<=X.c.now+n;omega) (by show 0<=X.c.now+n;omega) (fun N=>rfl) (fun _=>rfl) (A4 _);simp only[d_4 (nf X n),d_5 (nf X n),aN1 (nf X n),aN0 (nf X n),aM9 (nf X n),aJ6 (nf X n),aJ5 (nf X n),aI3 (nf X n),X9 (nf X n),aM8 (nf X n),aM7 (nf X n),aM6 (nf X n),ai2 (nf X n),V4];first|(rw[<-hh];rfl)|(rw[hh];rfl))
         | (have e2:=Cn.eL7 (c:= { X.c with now:=X.c.now+n }) (by show ¬X.c.gone=8;omega) (by show ¬X.c.cur=X.c.una;omega) hh
            rw[e2];refine bY3 (nf X n) (b0:=0) ?_ (by exact hh) (by show 0<=X.c.now+n;omega) (by show 0<=X.c.now+n;omega) (fun N=>rfl) (fun _=>rfl) (A4 _);simp only[d_4 (nf X n),d_5 (nf X n),aN1 (nf X n),aN0 (nf X n),aM9 (nf X n),aJ6 (nf X n),aJ5 (nf X n),aI3 (nf X n),X9 (nf X n),aM8 (nf X n),aM7 (nf X n),aM6 (nf X n),ai2 (nf X n),V4];first|(rw[<-hh];rfl)|(rw[hh];rfl)))
      | (have e:=Cn.bU6 h (by omega)
         rw[e];refine T7 (fun N=>rfl) (aD1 (nf X n) ?_ (by exact hh)) (fun _=>rfl) (A4 _);simp only[d_4 (nf X n),d_5 (nf X n),aN1 (nf X n),aN0 (nf X n),aM9 (nf X n),aJ6 (nf X n),aJ5 (nf X n),aI3 (nf X n),X9 (nf X n),aM8 (nf X n),aM7 (nf X n),aM6 (nf X n),ai2 (nf X n),V4];first|(rw[<-hh];rfl)|(rw[hh];rfl))
      | (have e:=Cn.bU5 h (by omega) (by omega)
         rw[e];refine T7 (fun N=>rfl) (aD1 (nf X n) ?_ (by exact hh)) (fun _=>rfl) (A4 _);simp only[d_4 (nf X n),d_5 (nf X n),aN1 (nf X n),aN0 (nf X n),aM9 (nf X n),aJ6 (nf X n),aJ5 (nf X n),aI3 (nf X n),X9 (nf X n),aM8 (nf X n),aM7 (nf X n),aM6 (nf X n),ai2 (nf X n),V4];first|(rw[<-hh];rfl)|(rw[hh];rfl))
theorem cB6{n:Int}(h0: -9223372036854775808<=n)(h1:n<=9223372036854775807):Calls prog 26 #[.pointer (some ⟨g,0,none⟩), .int .i64 n] w (F7 fun v' w'=>v'= .int .i64 (X.c.aW7 n)/\aS6 w w' g (Y8 a g X.c.has) ⟨X.c.aN4 n,X.L,X.R⟩):=by
 by_cases h:n<0\/1099511627776<X.c.now+n
 .exact cj9 W hz hr h0 h1 h
 .exact cP6 W hz hr h
theorem bz7(hq:X.c.aS8<=2048)(s:ByteArray)(hs:s.size<=9223372036854775807):Calls prog 28 #[.pointer (some ⟨g,0,none⟩), .string s] w (F7 fun v' w'=>v'= .tuple #[.int .i64 (X.c.wrA s), .int .i64 (X.c.wrE s)]/\aS6 w w' g (Y8 a g X.c.has) ⟨X.c.wrC s,X.L,X.R⟩):=by
 have hc:=fun(has:Bool) (hh:X.c.has=has)=>Z1 hh hz.sz hr (aH3 (aM1 hz) (show X5 (sE X s) s0B from Z6 ⟨⟨by show(0:Int)<=(s.size:Int);omega,by show(s.size:Int)<=9223372036854775807;omega⟩,trivial⟩))
 have ha:=hz.a;have hn:X.c.shut=false->0<=X.c.wrN s/\X.c.wrN s<=(s.size:Int)/\X.c.wrN s<=2048:=fun q=>by
  have hl:0<=X.c.aS8:=by unfold Cn.aS8;omega
  unfold Cn.wrN Cn.a23;rw[q];simp only[ax,if_false];omega
 have e0:(sE X s).s 0=s:=rfl;cases hh:X.c.has with
 | false=>
   refine Y2 (is:=[]) (bs:=[]) (ss:=[s]) (aH0 (L6 ..)) func28 rfl c20 W hh (hc _ hh) ?_ rfl;repeat'(first|exact V9|refine W0 ?_ ?_)
   all_goals
    intro hpc;replace hpc:A6 (sE X s) _:=hpc;cases hsh:X.c.shut with
    | true=>
      simp only[A6,tmA,F8,kdA,hsh,e0,aG6,aJ,false_and,and_false,and_true]at hpc;all_goals first
      | (exfalso;exact hpc)
      | ((repeat(obtain⟨_,hpc⟩:=hpc))
         have e:=Cn.bU3 (c:=X.c) (.inr hsh) s;rw[e.1,e.2.1,e.2.2];refine T9 (fun N=>?_) (aC0 hh) (fun _=>rfl) (A4 _);first
         | (rw[if_pos (show X.c.st=0/\X.c.why≠0 from⟨by assumption,by assumption⟩)];rfl)
         | (rw[if_neg (show ¬(X.c.st=0/\X.c.why≠0)from fun q=>q.2 (by assumption))];rfl)
         | (rw[if_neg (show ¬(X.c.st=0/\X.c.why≠0)from fun q=>(show ¬X.c.st=0 from by assumption) q.1)];rfl))
    | false=>
      have hn':=hn hsh;simp only[A6,tmA,F8,kdA,hsh,e0,aG6,a78 X s hsh,ax,aM,false_and,and_false,true_and,and_true]at hpc;all_goals first
      | (exfalso;exact hpc)
      | ((repeat(obtain⟨_,hpc⟩:=hpc))
         first
         | (have e:=Cn.bU3 (c:=X.c) (.inl (by assumption)) s
            rw[e.1,e.2.1,e.2.2];refine T9 (fun N=>?_) (aC0 hh) (fun _=>rfl) (A4 _);first
            | (rw[if_pos (show X.c.st=0/\X.c.why≠0 from⟨by assumption,by assumption⟩)];rfl)
            | (rw[if_neg (show ¬(X.c.st=0/\X.c.why≠0)from fun q=>q.2 (by assumption))];rfl))
         | (show(u9 (sE X s) _).b=true
            simp only[tmA,F8,kdA,a78 X s hsh,e0,aG6];all_goals omega)
         | (have e:=Cn.cA2 (c:=X.c) (by assumption) hsh s
            rw[e.1,e.2.1,e.2.2];refine T7 (fun N=>?_) (aD1 (J:=sE X s) rfl ?_ (by exact hh)) (fun _=>rfl) (A4 _)
            .first
             | (rw[if_pos (show X.c.wrN s=0/\s.size≠0 from⟨by assumption,by omega⟩)]
                show Value.tuple #[.int .i64 0, .int .i64 14]=_;rw[show X.c.wrN s=0 from by assumption])
             | (rw[if_neg (show ¬(X.c.wrN s=0/\s.size≠0)from by omega)]
                show Value.tuple #[.int .i64 (u9 (sE X s) kDn).i, .int .i64 0]=_;rw[a78 X s hsh])
            .simp only[cQ4 (J:=sE X s) rfl,X9 (J:=sE X s) rfl,V4,dN2 X s hsh];first|(rw[<-hh];rfl)|(rw[hh];rfl)))
 | true=>
   refine Y2 (is:=[]) (bs:=[]) (ss:=[s]) (aH0 (L6 ..)) func28 rfl c18 W hh (hc _ hh) ?_ rfl;repeat'(first|exact V9|refine W0 ?_ ?_)
   all_goals
    intro hpc;replace hpc:A6 (sE X s) _:=hpc;cases hsh:X.c.shut with
    | true=>
      simp only[A6,tmA,F8,kdA,hsh,e0,aG6,aJ,false_and,and_false,and_true]at hpc;all_goals first
      | (exfalso;exact hpc)
      | ((repeat(obtain⟨_,hpc⟩:=hpc))
         have e:=Cn.bU3 (c:=X.c) (.inr hsh) s;rw[e.1,e.2.1,e.2.2];refine T9 (fun N=>?_) (aC0 hh) (fun _=>rfl) (A4 _);first
         | (rw[if_pos (show X.c.st=0/\X.c.why≠0 from⟨by assumption,by assumption⟩)];rfl)
         | (rw[if_neg (show ¬(X.c.st=0/\X.c.why≠0)from fun q=>q.2 (by assumption))];rfl)
         | (rw[if_neg (show ¬(X.c.st=0/\X.c.why≠0)from fun q=>(show ¬X.c.st=0 from by assumption) q.1)];rfl))
    | false=>
      have hn':=hn hsh;simp only[A6,tmA,F8,kdA,hsh,e0,aG6,a78 X s hsh,ax,aM,false_and,and_false,true_and,and_true]at hpc;all_goals first
      | (exfalso;exact hpc)
      | ((repeat(obtain⟨_,hpc⟩:=hpc))
         first
         | (have e:=Cn.bU3 (c:=X.c) (.inl (by assumption)) s
            rw[e.1,e.2.1,e.2.2];refine T9 (fun N=>?_) (aC0 hh) (fun _=>rfl) (A4 _);first
            | (rw[if_pos (show X.c.st=0/\X.c.why≠0 from⟨by assumption,by assumption⟩)];rfl)
            | (rw[if_neg (show ¬(X.c.st=0/\X.c.why≠0)from fun q=>q.2 (by assumption))];rfl))
         | (show(u9 (sE X s) _).b=true
            simp only[tmA,F8,kdA,a78 X s hsh,e0,aG6];all_goals omega)
         | (have e:=Cn.cA2 (c:=X.c) (by assumption) hsh s
            rw[e.1,e.2.1,e.2.2];refine T7 (fun N=>?_) (aD1 (J:=sE X s) rfl ?_ (by exact hh)) (fun _=>rfl) (A4 _)
            .first
             | (rw[if_pos (show X.c.wrN s=0/\s.size≠0 from⟨by assumption,by omega⟩)]
                show Value.tuple #[.int .i64 0, .int .i64 14]=_;rw[show X.c.wrN s=0 from by assumption])
             | (rw[if_neg (show ¬(X.c.wrN s=0/\s.size≠0)from by omega)]
                show Value.tuple #[.int .i64 (u9 (sE X s) kDn).i, .int .i64 0]=_;rw[a78 X s hsh])
            .simp only[cQ4 (J:=sE X s) rfl,X9 (J:=sE X s) rfl,V4,dN2 X s hsh];first|(rw[<-hh];rfl)|(rw[hh];rfl)))
theorem b00:Calls prog 37 #[.pointer (some ⟨g,0,none⟩)] w (F7 fun v' w'=>v'= .int .i64 (X.c.am6 X.L)/\aS6 w w' g (Y8 a g X.c.has) X):=by
 have hc:=fun(has:Bool) (hh:X.c.has=has)=>Z1 hh hz.sz hr (show X5 (oE X) mqB from aM1 hz)
 have er:X.c.a23=if X.c.shut=true then 0 else 2048 - X.c.aS8:=rfl
 cases hh:X.c.has with
 | false=>
   refine Y2 (is:=[]) (bs:=[]) (ss:=[]) (aH0 (L6 ..)) func37 rfl c35 W hh (hc _ hh) ?_ rfl;repeat'(first|exact V9|refine W0 ?_ ?_)
   all_goals
    intro hpc;replace hpc:A6 (oE X) _:=hpc;simp only[A6,tmA,F8,kdA,bs6,bJ5,and_true]at hpc
    (repeat(obtain⟨_,hpc⟩:=hpc))
    try simp only[aQ]at*
    refine T9 (fun N=>aD3 ?_) (aC0 hh) (fun _=>rfl) (A4 _);unfold Cn.am6 b2;simp only[z7,bL9,A0,aD5,A7,A9,y9,dM8,bJ5,kdA];by_cases qo:Z3 X.L X.c.rd X.c.fin=true;all_goals simp[*]
    all_goals try omega
 | true=>
   refine Y2 (is:=[]) (bs:=[]) (ss:=[]) (aH0 (L6 ..)) func37 rfl c34 W hh (hc _ hh) ?_ rfl;repeat'(first|exact V9|refine W0 ?_ ?_)
   all_goals
    intro hpc;replace hpc:A6 (oE X) _:=hpc;simp only[A6,tmA,F8,kdA,bs6,bJ5,and_true]at hpc
    (repeat(obtain⟨_,hpc⟩:=hpc))
    try simp only[aQ]at*
    refine T9 (fun N=>aD3 ?_) (aC0 hh) (fun _=>rfl) (A4 _);unfold Cn.am6 b2;simp only[z7,bL9,A0,aD5,A7,A9,y9,dM8,bJ5,kdA];by_cases qo:Z3 X.L X.c.rd X.c.fin=true;all_goals simp[*]
    all_goals try omega
theorem cB7{n:Int}(h0: -9223372036854775808<=n)(h1:n<=9223372036854775807):Calls prog 30 #[.pointer (some ⟨g,0,none⟩), .int .i64 n] w (F7 fun v' w'=>v'= .tuple #[.string (X.c.rdT X.L n), .bool (X.c.rdB X.L), .int .i64 (X.c.rdE X.L)]/\aS6 w w' g (Y8 a g X.c.has) ⟨X.c.rdC X.L n,X.L,X.R⟩):=by
 have hc:=fun(has:Bool) (hh:X.c.has=has)=>Z1 hh hz.sz hr (aH3 (aM1 hz) (show X5 (nE X n) i6B from Z6 ⟨⟨h0,h1⟩,trivial⟩))
 cases hh:X.c.has with
 | false=>
   refine Y2 (is:=[n]) (bs:=[]) (ss:=[]) (aH0 (L6 ..)) func30 rfl c37 W hh (hc _ hh) ?_ rfl;repeat'(first|exact V9|refine W0 ?_ ?_)
   all_goals
    intro hpc;replace hpc:A6 (nE X n) _:=hpc;simp only[A6,tmA,F8,kdA,ne0,bs7,bs8,and_true]at hpc
    (repeat(obtain⟨_,hpc⟩:=hpc))
    try simp only[aQ]at*
    first
    | (have e:X.c.rdC X.L n=X.c/\X.c.rdT X.L n=K4:=by
        unfold Cn.rdC Cn.rdT;simp[*]
       rw[e.1,e.2];refine T9 (fun N=>?_) (aC0 hh) (fun _=>rfl) (A4 _);first
       | (have e2:X.c.rdB X.L=true/\X.c.rdE X.L=0:=by
           unfold Cn.rdB Cn.rdE;simp[*]
          rw[e2.1,e2.2];rfl)
       | (have e2:X.c.rdB X.L=false/\X.c.rdE X.L=14:=by
           unfold Cn.rdB Cn.rdE;simp[*]
          rw[e2.1,e2.2];rfl)
       | (have e2:X.c.rdB X.L=decide (X.c.why=0)/\X.c.rdE X.L=X.c.why:=by
           unfold Cn.rdB Cn.rdE;simp[*]
          rw[e2.1,e2.2];rfl))
    | (have e:X.c.rdC X.L n= { X.c with rd:=X.c.rd+rdN X.L X.c.rd n }/\X.c.rdT X.L n=rdS (byteM X.L) X.c.rd (rdN X.L X.c.rd n).toNat/\X.c.rdB X.L=false/\X.c.rdE X.L=0:=by
        unfold Cn.rdC Cn.rdT Cn.rdB Cn.rdE;simp[*]
       rw[e.1,e.2.1,e.2.2.1,e.2.2.2];refine givD_of (fun N=>rfl) ?_ (fun _=>rfl) (rsL_T _);show setCh (nE X n) X.c _=_;simp only[setCh,setV_0,setV_1,setV_2,setV_3,setV_4,setV_5,setV_6,setV_7,setV_8,setV_9,setV_10,setV_11,setV_12,setV_13,setV_14,setV_15,setV_16,setV_17,setV_18,setV_19,setV_20,setV_21,setV_22,setV_23,setV_24,setV_25,setV_26,setV_27,setV_29,setV_30,setV_31,setV_32,setV_33,setV_34,setV_35,setV_36,setV_37];rw[setE (b:=true) (by exact hh)];rfl)
 | true=>
   refine Y2 (is:=[n]) (bs:=[]) (ss:=[]) (aH0 (L6 ..)) func30 rfl c36 W hh (hc _ hh) ?_ rfl;repeat'(first|exact V9|refine W0 ?_ ?_)
   all_goals
    intro hpc;replace hpc:A6 (nE X n) _:=hpc;simp only[A6,tmA,F8,kdA,ne0,bs7,bs8,and_true]at hpc
    (repeat(obtain⟨_,hpc⟩:=hpc))
    try simp only[aQ]at*
    first
    | (have e:X.c.rdC X.L n=X.c/\X.c.rdT X.L n=K4:=by
        unfold Cn.rdC Cn.rdT;simp[*]
       rw[e.1,e.2];refine T9 (fun N=>?_) (aC0 hh) (fun _=>rfl) (A4 _);first
       | (have e2:X.c.rdB X.L=true/\X.c.rdE X.L=0:=by
           unfold Cn.rdB Cn.rdE;simp[*]
          rw[e2.1,e2.2];rfl)
       | (have e2:X.c.rdB X.L=false/\X.c.rdE X.L=14:=by
           unfold Cn.rdB Cn.rdE;simp[*]
          rw[e2.1,e2.2];rfl)
       | (have e2:X.c.rdB X.L=decide (X.c.why=0)/\X.c.rdE X.L=X.c.why:=by
           unfold Cn.rdB Cn.rdE;simp[*]
          rw[e2.1,e2.2];rfl))
    | (have e:X.c.rdC X.L n= { X.c with rd:=X.c.rd+rdN X.L X.c.rd n }/\X.c.rdT X.L n=rdS (aP5 X.L) X.c.rd (rdN X.L X.c.rd n).toNat/\X.c.rdB X.L=false/\X.c.rdE X.L=0:=by
        unfold Cn.rdC Cn.rdT Cn.rdB Cn.rdE;simp[*]
       rw[e.1,e.2.1,e.2.2.1,e.2.2.2];refine T9 (fun N=>rfl) ?_ (fun _=>rfl) (A4 _);show E6 (nE X n) X.c _=_;simp only[E6,svA];rw[aC1 (b:=true) (by exact hh)];rfl)
theorem b03:Calls prog 32 #[.pointer (some ⟨g,0,none⟩)] w (F7 fun v' w'=>v'= .int .i64 X.c.clE/\aS6 w w' g (Y8 a g X.c.has) ⟨X.c.clC,X.L,X.R⟩):=by
 have hc:=fun(has:Bool) (hh:X.c.has=has)=>Z1 hh hz.sz hr (show X5 (oE X) mqB from aM1 hz)
 cases hh:X.c.has with
 | false=>
   refine Y2 (is:=[]) (bs:=[]) (ss:=[]) (aH0 (L6 ..)) func32 rfl c42 W hh (hc _ hh) ?_ rfl;repeat'(first|exact V9|refine W0 ?_ ?_)
   all_goals
    intro hpc;replace hpc:A6 (oE X) _:=hpc;simp only[A6,tmA,F8,kdA,and_true]at hpc
    (repeat(obtain⟨_,hpc⟩:=hpc))
    try simp only[aQ]at*
    first
    | (have e:X.c.clE=10/\X.c.clC=X.c:=by
        unfold Cn.clC Cn.clE;simp[*]
       rw[e.1,e.2];exact T9 (fun N=>rfl) (aC0 hh) (fun _=>rfl) (A4 _))
    | (have e:X.c.clE=17/\X.c.clC=X.c:=by
        unfold Cn.clC Cn.clE;simp[*]
       rw[e.1,e.2];exact T9 (fun N=>rfl) (aC0 hh) (fun _=>rfl) (A4 _))
    | (have e:X.c.clE=0/\X.c.clC=({ X.c with st:=0 }:Cn).F6:=by
        unfold Cn.clC Cn.clE;simp[*]
       rw[e.1,e.2];refine T7 (fun N=>rfl) (aD1 (J:=oE X) rfl ?_ (by exact hh)) (fun _=>rfl) (A4 _);have hs0:X.c.shut=false:=by assumption
       refine Eq.trans (b:=({ X.c with st:=0,shut:=false }:Cn)) ?_ (congrArg (fun v=>({ X.c with st:=0,shut:=v }:Cn)) hs0.symm);simp only[d_4 (J:=oE X) rfl,ai3 (J:=oE X) rfl,X9 (J:=oE X) rfl,V4];first|(rw[<-hh];rfl)|(rw[hh];rfl))
    | (have e:X.c.clE=0/\X.c.clC=({ X.c with shut:=true,st:=4 }:Cn).F6:=by
        unfold Cn.clC Cn.clE;simp[*]
       rw[e.1,e.2];refine T7 (fun N=>rfl) (aD1 (J:=oE X) rfl ?_ (by exact hh)) (fun _=>rfl) (A4 _);simp only[d_4 (J:=oE X) rfl,ai3 (J:=oE X) rfl,X9 (J:=oE X) rfl,V4];first|(rw[<-hh];rfl)|(rw[hh];rfl))
    | (have e:X.c.clE=0/\X.c.clC=({ X.c with shut:=true,st:=8 }:Cn).F6:=by
        unfold Cn.clC Cn.clE;simp[*]
       rw[e.1,e.2];refine T7 (fun N=>rfl) (aD1 (J:=oE X) rfl ?_ (by exact hh)) (fun _=>rfl) (A4 _);simp only[d_4 (J:=oE X) rfl,ai3 (J:=oE X) rfl,X9 (J:=oE X) rfl,V4];first|(rw[<-hh];rfl)|(rw[hh];rfl))
    | (have e:X.c.clE=0/\X.c.clC=({ X.c with shut:=true }:Cn).F6:=by
        unfold Cn.clC Cn.clE;simp[*]
       rw[e.1,e.2];refine T7 (fun N=>rfl) (aD1 (J:=oE X) rfl ?_ (by exact hh)) (fun _=>rfl) (A4 _);simp only[ai3 (J:=oE X) rfl,X9 (J:=oE X) rfl,V4];first|(rw[<-hh];rfl)|(rw[hh];rfl))
 | true=>
   refine Y2 (is:=[]) (bs:=[]) (ss:=[]) (aH0 (L6 ..)) func32 rfl c41 W hh (hc _ hh) ?_ rfl;repeat'(first|exact V9|refine W0 ?_ ?_)
   all_goals
    intro hpc;replace hpc:A6 (oE X) _:=hpc;simp only[A6,tmA,F8,kdA,and_true]at hpc
    (repeat(obtain⟨_,hpc⟩:=hpc))
    try simp only[aQ]at*
    first
    | (have e:X.c.clE=10/\X.c.clC=X.c:=by
        unfold Cn.clC Cn.clE;simp[*]
       rw[e.1,e.2];exact T9 (fun N=>rfl) (aC0 hh) (fun _=>rfl) (A4 _))
    | (have e:X.c.clE=17/\X.c.clC=X.c:=by
        unfold Cn.clC Cn.clE;simp[*]
       rw[e.1,e.2];exact T9 (fun N=>rfl) (aC0 hh) (fun _=>rfl) (A4 _))
    | (have e:X.c.clE=0/\X.c.clC=({ X.c with st:=0 }:Cn).F6:=by
        unfold Cn.clC Cn.clE;simp[*]
       rw[e.1,e.2];refine T7 (fun N=>rfl) (aD1 (J:=oE X) rfl ?_ (by exact hh)) (fun _=>rfl) (A4 _);have hs0:X.c.shut=false:=by assumption
       refine Eq.trans (b:=({ X.c with st:=0,shut:=false }:Cn)) ?_ (congrArg (fun v=>({ X.c with st:=0,shut:=v }:Cn)) hs0.symm);simp only[d_4 (J:=oE X) rfl,ai3 (J:=oE X) rfl,X9 (J:=oE X) rfl,V4];first|(rw[<-hh];rfl)|(rw[hh];rfl))
    | (have e:X.c.clE=0/\X.c.clC=({ X.c with shut:=true,st:=4 }:Cn).F6:=by
        unfold Cn.clC Cn.clE;simp[*]
       rw[e.1,e.2];refine T7 (fun N=>rfl) (aD1 (J:=oE X) rfl ?_ (by exact hh)) (fun _=>rfl) (A4 _);simp only[d_4 (J:=oE X) rfl,ai3 (J:=oE X) rfl,X9 (J:=oE X) rfl,V4];first|(rw[<-hh];rfl)|(rw[hh];rfl))
    | (have e:X.c.clE=0/\X.c.clC=({ X.c with shut:=true,st:=8 }:Cn).F6:=by
        unfold Cn.clC Cn.clE;simp[*]
       rw[e.1,e.2];refine T7 (fun N=>rfl) (aD1 (J:=oE X) rfl ?_ (by exact hh)) (fun _=>rfl) (A4 _);simp only[d_4 (J:=oE X) rfl,ai3 (J:=oE X) rfl,X9 (J:=oE X) rfl,V4];first|(rw[<-hh];rfl)|(rw[hh];rfl))
    | (have e:X.c.clE=0/\X.c.clC=({ X.c with shut:=true }:Cn).F6:=by
        unfold Cn.clC Cn.clE;simp[*]
       rw[e.1,e.2];refine T7 (fun N=>rfl) (aD1 (J:=oE X) rfl ?_ (by exact hh)) (fun _=>rfl) (A4 _);simp only[ai3 (J:=oE X) rfl,X9 (J:=oE X) rfl,V4];first|(rw[<-hh];rfl)|(rw[hh];rfl))
theorem b05:Calls prog 34 #[.pointer (some ⟨g,0,none⟩)] w (F7 fun v' w'=>v'= .int .i64 X.c.abE/\aS6 w w' g (Y8 a g X.c.has) ⟨X.c.abC,X.L,X.R++X.c.abR⟩):=by
 have hc:=fun(has:Bool) (hh:X.c.has=has)=>Z1 hh hz.sz hr (show X5 (oE X) mqB from aM1 hz)
 have em:(X.c.iss+X.c.snt % 4294967296) % 4294967296=(X.c.iss+X.c.snt) % 4294967296:=by omega
 cases hh:X.c.has with
 | false=>
   refine Y2 (is:=[]) (bs:=[]) (ss:=[]) (aH0 (L6 ..)) func34 rfl c44 W hh (hc _ hh) ?_ rfl;repeat'(first|exact V9|refine W0 ?_ ?_)
   all_goals
    intro hpc;replace hpc:A6 (oE X) _:=hpc;simp only[A6,tmA,F8,kdA,and_true]at hpc
    (repeat(obtain⟨_,hpc⟩:=hpc))
    first
    | (have e:X.c.abE=10/\X.c.abC=X.c/\X.c.abR=[]:=by
        unfold Cn.abC Cn.abE Cn.abR;simp[*]
       rw[e.1,e.2.1,e.2.2,ao];exact T9 (fun N=>rfl) (aC0 hh) (fun _=>rfl) (A4 _))
    | (have e:X.c.abE=0/\X.c.abC=({ X.c with st:=0,why:=17 }:Cn).F6/\X.c.abR=[]:=by
        unfold Cn.abC Cn.abE Cn.abR;simp[*]
       rw[e.1,e.2.1,e.2.2,ao];refine T7 (fun N=>rfl) (aD1 (J:=oE X) rfl ?_ (by exact hh)) (fun _=>rfl) (A4 _);simp only[d_4 (J:=oE X) rfl,d_5 (J:=oE X) rfl,X9 (J:=oE X) rfl,V4];first|(rw[<-hh];rfl)|(rw[hh];rfl))
    | (have e:X.c.abE=0/\X.c.abC=({ X.c with st:=0,why:=17 }:Cn).F6/\X.c.abR=[(X.c.iss+X.c.snt) % 4294967296]:=by
        unfold Cn.abC Cn.abE Cn.abR;simp[*]
       rw[e.1,e.2.1,e.2.2,<-em];refine T7 (fun N=>rfl) (aD1 (J:=oE X) rfl ?_ (by exact hh)) (fun _=>rfl) (aY0 X _);simp only[d_4 (J:=oE X) rfl,d_5 (J:=oE X) rfl,X9 (J:=oE X) rfl,V4];first|(rw[<-hh];rfl)|(rw[hh];rfl))
 | true=>
   refine Y2 (is:=[]) (bs:=[]) (ss:=[]) (aH0 (L6 ..)) func34 rfl c43 W hh (hc _ hh) ?_ rfl;repeat'(first|exact V9|refine W0 ?_ ?_)
   all_goals
    intro hpc;replace hpc:A6 (oE X) _:=hpc;simp only[A6,tmA,F8,kdA,and_true]at hpc
    (repeat(obtain⟨_,hpc⟩:=hpc))
    first
    | (have e:X.c.abE=10/\X.c.abC=X.c/\X.c.abR=[]:=by
        unfold Cn.abC Cn.abE Cn.abR;simp[*]
       rw[e.1,e.2.1,e.2.2,ao];exact T9 (fun N=>rfl) (aC0 hh) (fun _=>rfl) (A4 _))
    | (have e:X.c.abE=0/\X.c.abC=({ X.c with st:=0,why:=17 }:Cn).F6/\X.c.abR=[]:=by
        unfold Cn.abC Cn.abE Cn.abR;simp[*]
       rw[e.1,e.2.1,e.2.2,ao];refine T7 (fun N=>rfl) (aD1 (J:=oE X) rfl ?_ (by exact hh)) (fun _=>rfl) (A4 _);simp only[d_4 (J:=oE X) rfl,d_5 (J:=oE X) rfl,X9 (J:=oE X) rfl,V4];first|(rw[<-hh];rfl)|(rw[hh];rfl))
    | (have e:X.c.abE=0/\X.c.abC=({ X.c with st:=0,why:=17 }:Cn).F6/\X.c.abR=[(X.c.iss+X.c.snt) % 4294967296]:=by
        unfold Cn.abC Cn.abE Cn.abR;simp[*]
       rw[e.1,e.2.1,e.2.2,<-em];refine T7 (fun N=>rfl) (aD1 (J:=oE X) rfl ?_ (by exact hh)) (fun _=>rfl) (aY0 X _);simp only[d_4 (J:=oE X) rfl,d_5 (J:=oE X) rfl,X9 (J:=oE X) rfl,V4];first|(rw[<-hh];rfl)|(rw[hh];rfl))
end
def dbS:List Sy.Spec:=af7 daG::dcS
def sgM:Tm:=bE7 ⟨(V5 true sgB).bs,[]⟩ l7 o9 (.bv 2)
theorem di7:rnD prog f64 dbS [.one (.agg W9)] true ⟨(V5 true sgB).bs,[qa4, .lt kA l9]⟩=some [(.ret qal j8 (qhd) j5 qbc [qa4,qbk])]:=by kernel_rfl
theorem di6:rnD prog f64 dbS [.one (.agg W9)] true ⟨(V5 true sgB).bs,[qa4, .not qbk, .lt y5 kA]⟩=some [(.ret qal j8 (qhd) j5 qbc [qa4,(.not qbk),(.lt y5 kA)])]:=by kernel_rfl
theorem dj0:rnD prog f64 dbS [.one (.agg W9)] true ⟨(V5 true sgB).bs,[.not qa4, .lt y5 kA]⟩=some [(.ret qal j8 (qhn) j5 j6 [(.not qa4),(.lt y5 kA)])]:=by kernel_rfl
abbrev qi8:List (Nat × Tm):=⟨10,p7⟩::⟨11,w9⟩::⟨12,kA⟩::qhd
abbrev qi5:List (Nat × Tm):=⟨4,(.il 5)⟩::qi8
abbrev qi6:List (Nat × Tm):=⟨4,(.il 9)⟩::⟨10,p7⟩::⟨11,w9⟩::qhp
abbrev qi7:List (Nat × Tm):=⟨4,i9⟩::qi8
abbrev qi9:List (Nat × Tm):=⟨4,(.il 9)⟩::⟨10,p7⟩::⟨11,w9⟩::qhs
abbrev wam:List (Tq8 Cm):=[.b qe0,.b qb7,.b qgx,.l (.ret qaa qab (qi5) j5 j6),.b qgw,.l (.ret qaa qab (qi6) j5 j6),.b qgv,.l (.ret qal qab (qi7) j5 j6),.l (.ret qaa qab (qi8) j5 j6),.l (.ret qaa qab (qi8) j5 j6),.l (.ret qaa qab (qi8) j5 j6)]
abbrev wai:List (Tq8 Cm):=wam++wam
abbrev wan:List (Tq8 Cm):=[.b qez,.b qb6,.b qgq,.l (.ret qaa qac (qi5) j5 j6),.b qgp,.l (.ret qaa qac (qi9) j5 j6),.b qgo,.l (.ret qal qac (qi7) j5 j6),.l (.ret qaa qac (qi8) j5 j6),.l (.ret qaa qac (qi8) j5 j6),.l (.ret qaa qac (qi8) j5 j6)]
abbrev waj:List (Tq8 Cm):=wan++wan
theorem di5:rnD prog f64 dbS [.one (.agg W9)] true ⟨(V5 true sgB).bs,[qa4, .not qbk, .not (.lt y5 kA), .lt w6 kA]⟩=some (fq8 ([.b y6,.d (.lt (.ap 90 (.il 11) qab i9) w9),.b (.eq w9 (.ap 90 (.il 11) qab i9))]++wai++wam++[.d (.lt (.ap 90 (.il 11) qac i9) w9),.b (.eq w9 (.ap 90 (.il 11) qac i9))]++waj++wan) [(qht)]):=by kernel_rfl
abbrev qja:List (Nat × Tm):=⟨4,(.il 9)⟩::⟨10,p7⟩::⟨11,w9⟩::qhu
abbrev wao:List (Tq8 Cm):=[.b qey,.b qb5,.b qgt,.l (.ret qaa qae (qi5) j5 j6),.b qgs,.l (.ret qaa qae (qja) j5 j6),.b qgr,.l (.ret qal qae (qi7) j5 j6),.l (.ret qaa qae (qi8) j5 j6),.l (.ret qaa qae (qi8) j5 j6),.l (.ret qaa qae (qi8) j5 j6)]
abbrev wal:List (Tq8 Cm):=wao++wao
theorem di9:rnD prog f64 dbS [.one (.agg W9)] true ⟨(V5 true sgB).bs,[.not qa4, .not (.lt y5 kA), .lt w6 kA]⟩=some (fq8 ([.d (.lt (.ap 90 (.il 11) qae i9) w9),.b (.eq w9 (.ap 90 (.il 11) qae i9))]++wal++wao) [((.not qa4)::qhv)]):=by kernel_rfl
abbrev wag:List (Tq8 Cm):=[.d (.lt w8 w9),.b (.eq w9 w8),.b (.le F5 kA)]
theorem di4:rnD prog f64 dbS [.one (.agg W9)] true ⟨(V5 true sgB).bs,[qa4, .not qbk, .not (.lt y5 kA), .not (.lt w6 kA), .not (.eq kA w6)]⟩=some (fq8 ([.b y6]++wag++wad++wad++wag++waO++waO) [(qhz)]):=by kernel_rfl
abbrev qjb:List (Nat × Tm):=⟨4,i9⟩::qhd
abbrev waa:List (Tq8 Cm):=wav++[.l (.ret qal j8 (qjb) j5 j6)]++wah++wa0++wav++[.l (.ret qal j8 (qjb) j5 j6)]++wah++wa0
theorem di8:rnD prog f64 dbS [.one (.agg W9)] true ⟨(V5 true sgB).bs,[.not qa4, .not (.lt y5 kA), .not (.lt w6 kA), .not (.eq kA w6)]⟩=some (fq8 (wag++waa++waa) [(qh2)]):=by kernel_rfl
abbrev qjc:List (Nat × Tm):=⟨4,s8⟩::qi8
abbrev qjd:List (Nat × Tm):=⟨4,(.il 3)⟩::qi8
abbrev wae:List (Tq8 Cm):=[.b y6]++wag++[.b qaf,.l (.ret qaa j8 (qi5) j5 j6),.l (.ret qaa j8 (qjc) j5 j6)]++wad++[.b qaf,.l (.ret qaa j8 (qi5) j5 j6),.l (.ret qaa j8 (qjc) j5 j6)]++wag++[.l (.ret qaa j8 (qjd) j5 j6)]++waO++[.l (.ret qaa j8 (qjd) j5 j6)]
theorem c63:rnD prog f64 dbS [.one (.agg W9)] true ⟨(V5 true sgB).bs,[qa4, .not qbk, .not (.lt y5 kA), .not (.lt w6 kA), .eq kA w6, .not (.eq sgM i9)]⟩=some (fq8 wae [(qh5)]):=by kernel_rfl
abbrev qje:List Tm:=[.not (.lt y5 kA),.not (.lt w6 kA),.eq kA w6,.eq qan i9,.not (.lt kA y4)]
theorem c62:rnD prog f64 dbS [.one (.agg W9)] true ⟨(V5 true sgB).bs,[qa4, .not qbk, .not (.lt y5 kA), .not (.lt w6 kA), .eq kA w6, .eq sgM i9, .not (.lt kA y4)]⟩=some (fq8 wae [((.eq k4 u0)::(.not qbk)::qje)]):=by kernel_rfl
end Go.Proofs.YtnlcpcmdlcakgaaGreat
