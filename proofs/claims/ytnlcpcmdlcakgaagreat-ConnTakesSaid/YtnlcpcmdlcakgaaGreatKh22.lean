/- A part of the proof that a connection answers as the document says: CongWalks SqW TcB TcC Cn0 Cn1. -/
import Derived.Test.YtnlcpcmdlcakgaaGreatKh21
set_option maxRecDepth 100000
set_option maxHeartbeats 4000000
set_option linter.unusedVariables false
set_option linter.unusedSimpArgs false
set_option linter.unusedSectionVars false
open Go.Proofs.Tryz
namespace Go.Proofs.YtnlcpcmdlcakgaaGreat
open Go.RowKit
def aO4(mss size slow:Int):List Value:=[.int .i64 mss, .int .i64 size, .int .i64 slow]
def aH8(a b:Int):Int:=if b<a then b else a
def aq8(a b:Int):Int:=if a<b then b else a
def aN3(mss size slow n:Int):Int:=if n<1 then size else if size<slow then aH8 (size+aH8 n mss) 65535 else aH8 (size+aq8 1 (mss*mss /size)) 65535
def aC3(mss f:Int):Int:=aH8 (aq8 (aq8 f 0 /2) (2*mss)) 65535
theorem bO4(mss f:Int)(h:8<=mss)(h':mss<=1000):16<=aC3 mss f/\aC3 mss f<=65535:=by
 unfold aC3 aH8 aq8;repeat' split
 all_goals omega
theorem at9{a b c d e f:Int}(h1:a=b)(h2:c=d)(h3:e=f):aO4 a c e=aO4 b d f:=by rw[h1,h2,h3]
theorem cL4(m:Int)(h:8<=m)(h':m<=1000):64<=m*m/\m*m<=1000000:=
 ⟨by have:=Int.mul_le_mul h h U U;omega,by have:=Int.mul_le_mul h' h' U U;omega⟩
theorem cG8(mss size slow n:Int)(h:8<=mss)(h':mss<=1000)(hs:8<=size)(hs':size<=65535):8<=aN3 mss size slow n/\aN3 mss size slow n<=65535:=by
 have:=cL4 mss h h';have h0:0<=mss*mss /size:=Int.ediv_nonneg U U;unfold aN3 aH8 aq8;repeat' split
 all_goals omega
section
variable(g:Nat)(mss size slow n:Int)(w:World)
theorem cQ5(hB:Blk w g 137 (aO4 mss size slow))(h:8<=mss)(h':mss<=1000)(hs:8<=size)(hs':size<=65535)(hn: -9223372036854775808<=n)(hn':n<=9223372036854775807):
 Calls prog 121 #[.pointer (some ⟨g,0,none⟩), .int .i64 n] w fun e w'=>e= .returned (.tuple #[])/\Blk w' g 137 (aO4 mss (aN3 mss size slow n) slow)/\Only (· =g) w w':=by
 have c0:=hB.at_ (i:=0) (v:= .int .i64 mss) rfl;have c1:=hB.at_ (i:=1) (v:= .int .i64 size) rfl;have c2:=hB.at_ (i:=2) (v:= .int .i64 slow) rfl;have f1:=hB.Z5 1;have hq:=cL4 mss h h';have hq0:0<=mss*mss /size:=Int.ediv_nonneg U U;have hq1:mss*mss /size<=mss*mss:=Int.ediv_le_self _ U;have HB:=Lib.hid hB;clear hB;by_cases h1:n<1
 .have hr:aN3 mss size slow n=size:=by unfold aN3;rw[if_pos h1]
  rw[hr];clear hr;go_enter func121,ntmps121;go_wp2;go_returns;exact⟨rfl,HB.out,Only.aF4 _ _⟩
 .by_cases h2:size<slow
  .have hr:aN3 mss size slow n=aH8 (size+aH8 n mss) 65535:=by unfold aN3;rw[if_neg h1,if_pos h2]
   rw[hr];clear hr;by_cases h3:mss<n
   .have e1:aH8 n mss=mss:=by unfold aH8;rw[if_pos h3]
    rw[e1];clear e1;by_cases h4:65535<size+mss
    .have e2:aH8 (size+mss) 65535=65535:=by unfold aH8;rw[if_pos h4]
     rw[e2];clear e2;go_enter func121,ntmps121;go_wp2_with fail;go_quiet (fail);go_wp2_with fail;go_region;go_wp2;go_returns;exact⟨rfl,(HB.out.aA8 1 _).aA8 1 _,((Only.aF4 _ _).bD4 _).aB7.aB7⟩
    .have e2:aH8 (size+mss) 65535=size+mss:=by unfold aH8;rw[if_neg h4]
     rw[e2];clear e2;go_enter func121,ntmps121;go_wp2_with fail;go_quiet (fail);go_wp2_with fail;go_region;go_wp2;go_returns;exact⟨rfl,(HB.out.aA8 1 _).aA8 1 _,((Only.aF4 _ _).bD4 _).aB7.aB7⟩
   .have e1:aH8 n mss=n:=by unfold aH8;rw[if_neg h3]
    rw[e1];clear e1;by_cases h4:65535<size+n
    .have e2:aH8 (size+n) 65535=65535:=by unfold aH8;rw[if_pos h4]
     rw[e2];clear e2;go_enter func121,ntmps121;go_wp2_with fail;go_quiet (fail);go_wp2_with fail;go_region;go_wp2;go_returns;exact⟨rfl,(HB.out.aA8 1 _).aA8 1 _,((Only.aF4 _ _).bD4 _).aB7.aB7⟩
    .have e2:aH8 (size+n) 65535=size+n:=by unfold aH8;rw[if_neg h4]
     rw[e2];clear e2;go_enter func121,ntmps121;go_wp2_with fail;go_quiet (fail);go_wp2_with fail;go_region;go_wp2;go_returns;exact⟨rfl,(HB.out.aA8 1 _).aA8 1 _,((Only.aF4 _ _).bD4 _).aB7.aB7⟩
  .have hr:aN3 mss size slow n=aH8 (size+aq8 1 (mss*mss /size)) 65535:=by unfold aN3;rw[if_neg h1,if_neg h2]
   rw[hr];clear hr;go_enter func121,ntmps121;go_wp2;go_wp2_with fail;go_quiet (fail);go_wp2_with fail;go_region;go_wp2;all_goals go_returns
   all_goals refine⟨rfl,Blk.ad2 ((HB.out.aA8 1 _).aA8 1 _) (at9 rfl ?_ rfl),((Only.aF4 _ _).bD4 _).aB7.aB7⟩
   all_goals go_light
   all_goals unfold aH8 aq8
   all_goals repeat' split
   all_goals omega
theorem ce8(hB:Blk w g 94 (aO4 mss size slow))(h:8<=mss)(h':mss<=1000)(hs:8<=size)(hs':size<=65535)(hn: -9223372036854775808<=n)(hn':n<=9223372036854775807):
 Calls prog 128 #[.pointer (some ⟨g,0,none⟩), .int .i64 n] w fun e w'=>e= .returned (.tuple #[])/\Blk w' g 94 (aO4 mss (aN3 mss size slow n) slow)/\Only (· =g) w w':=by
 have c0:=hB.at_ (i:=0) (v:= .int .i64 mss) rfl;have c1:=hB.at_ (i:=1) (v:= .int .i64 size) rfl;have c2:=hB.at_ (i:=2) (v:= .int .i64 slow) rfl;have f1:=hB.Z5 1;have hq:=cL4 mss h h';have hq0:0<=mss*mss /size:=Int.ediv_nonneg U U;have hq1:mss*mss /size<=mss*mss:=Int.ediv_le_self _ U;have HB:=Lib.hid hB;clear hB;by_cases h1:n<1
 .have hr:aN3 mss size slow n=size:=by unfold aN3;rw[if_pos h1]
  rw[hr];clear hr;go_enter func128,ntmps128;go_wp2;go_returns;exact⟨rfl,HB.out,Only.aF4 _ _⟩
 .by_cases h2:size<slow
  .have hr:aN3 mss size slow n=aH8 (size+aH8 n mss) 65535:=by unfold aN3;rw[if_neg h1,if_pos h2]
   rw[hr];clear hr;go_enter func128,ntmps128;go_wp2_with fail;go_quiet (fail);go_wp2_with fail;go_region;go_wp2;all_goals go_returns
   all_goals refine⟨rfl,Blk.ad2 ((HB.out.aA8 1 _).aA8 1 _) (at9 rfl ?_ rfl),((Only.aF4 _ _).bD4 _).aB7.aB7⟩
   all_goals go_light
   all_goals unfold aH8
   all_goals repeat' split
   all_goals omega
  .have hr:aN3 mss size slow n=aH8 (size+aq8 1 (mss*mss /size)) 65535:=by unfold aN3;rw[if_neg h1,if_neg h2]
   rw[hr];clear hr;go_enter func128,ntmps128;go_wp2_with fail;go_quiet (fail);go_wp2_with fail;go_region;go_wp2;all_goals go_returns
   all_goals refine⟨rfl,Blk.ad2 ((HB.out.aA8 1 _).aA8 1 _) (at9 rfl ?_ rfl),((Only.aF4 _ _).bD4 _).aB7.aB7⟩
   all_goals go_light
   all_goals unfold aH8 aq8
   all_goals repeat' split
   all_goals omega
theorem ck8(hB:Blk w g 137 (aO4 mss size slow))(h:8<=mss)(h':mss<=1000)(hn: -9223372036854775808<=n)(hn':n<=9223372036854775807):
 Calls prog 124 #[.pointer (some ⟨g,0,none⟩), .int .i64 n] w fun e w'=>e= .returned (.tuple #[])/\Blk w' g 137 (aO4 mss (aC3 mss n) (aC3 mss n))/\Only (· =g) w w':=by
 have c0:=hB.at_ (i:=0) (v:= .int .i64 mss) rfl;have c1:=hB.at_ (i:=1) (v:= .int .i64 size) rfl;have c2:=hB.at_ (i:=2) (v:= .int .i64 slow) rfl;have f1:=hB.Z5 1;have f2:=hB.Z5 2;have HB:=Lib.hid hB;clear hB;go_enter func124,ntmps124;go_wp2;all_goals go_returns
 all_goals refine⟨rfl,Blk.ad2 ((HB.out.aA8 2 _).aA8 1 _) (at9 rfl ?_ ?_),(Only.aF4 _ _).aB7.aB7⟩
 all_goals go_light
 all_goals try unfold aC3 aH8 aq8
 all_goals omega
theorem cB9(hB:Blk w g 137 (aO4 mss size slow))(hl:8<=mss)(hl':mss<=1000)(hn: -9223372036854775808<=n)(hn':n<=9223372036854775807):
 Calls prog 110 #[.pointer (some ⟨g,0,none⟩), .int .i64 n] w fun e w'=>e= .returned (.tuple #[])/\Blk w' g 137 (aO4 mss mss (aC3 mss n))/\Only (· =g) w w':=by
 have c0:=hB.at_ (i:=0) (v:= .int .i64 mss) rfl;have c1:=hB.at_ (i:=1) (v:= .int .i64 size) rfl;have c2:=hB.at_ (i:=2) (v:= .int .i64 slow) rfl;have f1:=hB.Z5 1;have f2:=hB.Z5 2;have HB:=Lib.hid hB;clear hB;go_enter func110,ntmps110;go_wp2;all_goals go_returns
 all_goals refine⟨rfl,Blk.ad2 ((HB.out.aA8 2 _).aA8 1 _) (at9 rfl ?_ ?_),(Only.aF4 _ _).aB7.aB7⟩
 all_goals go_light
 all_goals try unfold aC3 aH8 aq8
 all_goals omega
theorem bw8(hB:Blk w g 94 (aO4 mss size slow))(hl:8<=mss)(hl':mss<=1000)(hn: -9223372036854775808<=n)(hn':n<=9223372036854775807):
 Calls prog 107 #[.pointer (some ⟨g,0,none⟩), .int .i64 n] w fun e w'=>e= .returned (.tuple #[])/\Blk w' g 94 (aO4 mss (aC3 mss n) (aC3 mss n))/\Only (· =g) w w':=by
 have c0:=hB.at_ (i:=0) (v:= .int .i64 mss) rfl;have c1:=hB.at_ (i:=1) (v:= .int .i64 size) rfl;have c2:=hB.at_ (i:=2) (v:= .int .i64 slow) rfl;have f1:=hB.Z5 1;have f2:=hB.Z5 2;have HB:=Lib.hid hB;clear hB;go_enter func107,ntmps107;go_wp2;all_goals go_returns
 all_goals refine⟨rfl,Blk.ad2 ((HB.out.aA8 2 _).aA8 1 _) (at9 rfl ?_ ?_),(Only.aF4 _ _).aB7.aB7⟩
 all_goals go_light
 all_goals try unfold aC3 aH8 aq8
 all_goals omega
theorem cL9(hB:Blk w g 94 (aO4 mss size slow))(hl:8<=mss)(hl':mss<=1000)(hn: -9223372036854775808<=n)(hn':n<=9223372036854775807):
 Calls prog 113 #[.pointer (some ⟨g,0,none⟩), .int .i64 n] w fun e w'=>e= .returned (.tuple #[])/\Blk w' g 94 (aO4 mss mss (aC3 mss n))/\Only (· =g) w w':=by
 go_enter func113,ntmps113;go_wp2_with fail;refine(bw8 g mss size slow n w hB hl hl' hn hn').mono ?_;rintro e w1 ⟨rfl,hB1,ho1⟩;have c0:=hB1.at_ (i:=0) (v:= .int .i64 mss) rfl;have c1:=hB1.at_ (i:=1) (v:= .int .i64 (aC3 mss n)) rfl;have f1:=hB1.Z5 1;have HB1:=Lib.hid hB1;clear hB1 hB;go_wp2;go_returns;exact⟨rfl,HB1.out.aA8 1 _,ho1.aB7⟩
end
def aY8(a b:Int):Int:=(a - b+2147483648) % 4294967296 - 2147483648
def inB(n from_ many:Int):Bool:=decide ((n - from_) % 4294967296<many)
theorem bO5(a b:Int)(w:World):
 Calls prog 122 #[.int .u32 a, .int .u32 b] w fun e w'=>e= .returned (.int .i64 (aY8 a b))/\w=w':=by
 go_enter func122,ntmps122;go_wp2;go_ret;exact⟨aL1 (by show wrap64 (wrap32 ((a - b) % 4294967296))=_;unfold wrap64 wrap32 aY8;omega),rfl⟩
theorem cb6(a b m:Int)(w:World)(hb: -9223372036854775808<=m)(hb':m<=9223372036854775807):
 Calls prog 123 #[.int .u32 a, .int .u32 b, .int .i64 m] w fun e w'=>e= .returned (.bool (inB a b m))/\w=w':=by
 by_cases h:0<m
 .go_enter func123,ntmps123;go_wp2;go_ret;exact⟨rfl,rfl⟩
 .go_enter func123,ntmps123;go_wp2;go_ret;exact⟨aR6 (by simp[inB];omega),rfl⟩
theorem ce7(a b m:Int)(w:World)(ha:0<=a)(ha':a<=4294967295)(hb:0<=b)(hb':b<=4294967295):
 Calls prog 129 #[.int .u32 a, .int .u32 b, .int .i64 m] w fun e w'=>e= .returned (.bool (inB a b m))/\w=w':=by
 go_enter func129,ntmps129;go_wp2_with (go_at_call 59;refine(af1 _ _ _ U U U U).mono ?_;rintro e w' ⟨rfl,rfl⟩);go_ret;exact⟨rfl,rfl⟩
def aX5(at_:Int):Int:=if at_<0 then 0 else if 1152921504606846976<at_ then 1152921504606846976 else at_
theorem cl0(t:Int):0<=aX5 t/\aX5 t<=1152921504606846976:=by unfold aX5;split<;>(try split)<;>omega
def aT1(n at_:Int):Int:=aX5 at_+aY8 n (aX5 at_)
theorem bv9(a b:Int): -2147483648<=aY8 a b/\aY8 a b<=2147483647:=by unfold aY8;omega
theorem cv2(n t:Int)(w:World):
 Calls prog 99 #[.int .u32 n, .int .i64 t] w fun e w'=>e= .returned (.int .i64 (aT1 n t))/\w=w':=by
 by_cases h1:t<0
 .go_enter func99,ntmps99;go_wp2_with (go_at_call 122;refine(bO5 _ _ _).mono ?_;rintro e w' ⟨rfl,rfl⟩);go_ret;exact⟨aL1 (by have:=bv9 n 0;simp[aT1,aX5,h1];unfold wrap64;omega),rfl⟩
 .by_cases h2:1152921504606846976<t
  .go_enter func99,ntmps99;go_wp2_with (go_at_call 122;refine(bO5 _ _ _).mono ?_;rintro e w' ⟨rfl,rfl⟩);go_ret;exact⟨aL1 (by rw[aT1,aX5,if_neg U,if_pos U];simp[aY8,wrap64];omega),rfl⟩
  .go_enter func99,ntmps99;go_wp2_with (go_at_call 122;refine(bO5 _ _ _).mono ?_;rintro e w' ⟨rfl,rfl⟩);go_ret;exact⟨aL1 (by rw[aT1,aX5,if_neg U,if_neg U];simp[aY8,wrap64];omega),rfl⟩
theorem cB1(n t:Int)(w:World)(ha:0<=n)(ha':n<=4294967295):
 Calls prog 106 #[.int .u32 n, .int .i64 t] w fun e w'=>e= .returned (.int .i64 (aT1 n t))/\Below w.heap.size w w':=by
 by_cases h1:t<0
 .go_enter func106,ntmps106;go_wp2_with (go_at_call 59;refine(af1 _ _ _ U U U U).mono ?_;rintro e w' ⟨rfl,rfl⟩);go_rounds 3;all_goals go_ret
  all_goals exact⟨aL1 (by simp[aT1,aX5,h1,aY8];omega),by go_grown⟩
 .by_cases h2:1152921504606846976<t
  .go_enter func106,ntmps106;go_wp2_with (go_at_call 59;refine(af1 _ _ _ U U U U).mono ?_;rintro e w' ⟨rfl,rfl⟩);go_rounds 3;all_goals go_ret
   all_goals exact⟨aL1 (by rw[aT1,aX5,if_neg U,if_pos U];simp[aY8];omega),by go_grown⟩
  .go_enter func106,ntmps106;go_wp2_with (go_at_call 59;refine(af1 _ _ _ U U U U).mono ?_;rintro e w' ⟨rfl,rfl⟩);go_rounds 3;all_goals go_ret
   all_goals exact⟨aL1 (by rw[aT1,aX5,if_neg U,if_neg U];simp[aY8];omega),by go_grown⟩
theorem tri(x:Int):x<0\/x=0\/1<=x:=by omega
def aO2(a l b m:Int):Bool:=
 if l<1 then(if m<1 then a==b else inB a b m)else if m<1 then false else inB a b m||inB ((a+l - 1) % 4294967296) b m
theorem cL5(a l b m:Int)(w:World)(hl: -9223372036854775808<=l)(hl':l<=9223372036854775807)(hm: -9223372036854775808<=m)(hm':m<=9223372036854775807):
 Calls prog 100 #[.int .u32 a, .int .i64 l, .int .u32 b, .int .i64 m] w fun e w'=>e= .returned (.bool (aO2 a l b m))/\w=w':=by
 by_cases h1:l<1
 .by_cases h2:m<1
  .go_enter func100,ntmps100;go_wp2;go_ret;exact⟨aR6 (by simp[aO2,h1,h2]),rfl⟩
  .go_enter func100,ntmps100;go_wp2_with (go_at_call 123;refine(cb6 _ _ _ _ hm hm').mono ?_;rintro e w' ⟨rfl,rfl⟩);go_ret;exact⟨aR6 (by rw[aO2,if_pos h1,if_neg U]),rfl⟩
 .by_cases h2:m<1
  .go_enter func100,ntmps100;go_wp2;go_ret;exact⟨aR6 (by rw[aO2,if_neg U,if_pos h2]),rfl⟩
  .go_enter func100,ntmps100;go_wp2_with (go_at_call 123;refine(cb6 _ _ _ _ hm hm').mono ?_;rintro e w' ⟨rfl,rfl⟩);all_goals go_ret
   all_goals refine⟨aR6 ?_,rfl⟩
   all_goals rw[aO2,if_neg U,if_neg U];simp[*]
theorem br0(a l b m:Int)(w:World)(ha:0<=a)(ha':a<=4294967295)(hb:0<=b)(hb':b<=4294967295)(hl: -9223372036854775808<=l)(hl':l<=9223372036854775807)(hm: -9223372036854775808<=m)(hm':m<=9223372036854775807):
 Calls prog 105 #[.int .u32 a, .int .i64 l, .int .u32 b, .int .i64 m] w fun e w'=>e= .returned (.bool (aO2 a l b m))/\w=w':=by
 rcases tri l with h1|rfl|h1<;>rcases tri m with h2|rfl|h2<;>rcases Decidable.em (a=b)with rfl|h3;all_goals
  go_enter func105,ntmps105;go_wp2_with (first|(go_at_call 129;refine(ce7 _ _ _ _ U U U U).mono ?_;rintro e w' ⟨rfl,rfl⟩)|(go_at_call 59;refine(af1 _ _ _ U U U U).mono ?_;rintro e w' ⟨rfl,rfl⟩));all_goals go_ret
  all_goals refine⟨aR6 ?_,rfl⟩
 all_goals try simp only[Int.add_emod_emod,Int.emod_add_emod,Int.sub_emod_emod,Int.emod_sub_emod]
 all_goals go_light
 all_goals rw[Bool.eq_iff_iff]
 all_goals unfold aO2
 all_goals repeat' split
 all_goals try simp[inB]at*
 all_goals try omega
theorem ce6(b:Bool)(w:World):Calls prog 48 #[.bool b] w fun e w'=>e= .returned (.int .i64 (if b then 1 else 0))/\w=w':=by
 cases b with
 | true=>
   go_enter func48,ntmps48;go_wp2;go_ret;exact⟨rfl,rfl⟩
 | false=>
   go_enter func48,ntmps48;go_wp2;go_ret;exact⟨rfl,rfl⟩
namespace Sy
def aw2(c:Cx)(b:Tm):Tm:=
 match aH9 c b with
 | some true=> .il 1
 | some false=> .il 0
 | none=>aP7 b l9 i9
def c93(c:Cx):List SV->Option (SV × List Bd)
 | [.one (.c (.bool b))]=>some (.one (.c (.int .i64 (aw2 c b))),[])
 | _=>none
def a41:Spec:=aa1 48 (fun _ _=>some []) c93
theorem az4{J:Env}{c:Cx}(hc:c.ok J)(b:Tm):(u9 J (aw2 c b)).i=if(u9 J b).b then 1 else 0:=by
 unfold aw2;split
 .rename_i h;rw[aL5 hc h];rfl
 .rename_i h;rw[aL5 hc h];rfl
 .rw[a48];rfl
theorem a94{J:Env}:a41.Ok prog J:=by
 refine aY3 fun c xs m v bs hc hpre hres hm=>?_
 match xs,hres with
 | [.one (.c (.bool b))],hres=>
   injection hres with hres;injection hres with h1 h2;subst h1 h2;refine⟨fun x hx=>(by cases hx),fun N w=>?_⟩;refine(ce6 (u9 J b).b w).mono ?_;rintro e w' ⟨rfl,rfl⟩;refine⟨?_,⟨rfl,rfl,rfl,aI _,fun _ _=>rfl⟩⟩;show _=Ending.returned (.int .i64 (u9 J (aw2 c b)).i);rw[az4 hc]
end Sy
end Go.Proofs.YtnlcpcmdlcakgaaGreat
namespace Go.Proofs.YtnlcpcmdlcakgaaGreat
open Go.RowKit Sy
def W9:List C:=[.int .u32 j9, .int .i64 m8, .int .u32 m9, .int .i64 n7, .int .u32 n8, .int .u32 l8, .bool o9, .bool (.bv 1), .bool (.bv 2), .bool (.bv 3), .int .i64 p7, .int .i64 o8, .str l7]
def seg:SV:= .one (.agg W9)
def eX8(sa sp da dp sq ak:Int)(syn hasAck fin rst:Bool)(win mss:Int)(body:ByteArray):List Value:=
 [.int .u32 sa, .int .i64 sp, .int .u32 da, .int .i64 dp, .int .u32 sq, .int .u32 ak, .bool syn, .bool hasAck, .bool fin, .bool rst, .int .i64 win, .int .i64 mss, .string body]
def dt7(sa sp da dp sq ak:Int)(syn hasAck fin rst:Bool)(win mss:Int)(body:ByteArray):Value:= .agg (eX8 sa sp da dp sq ak syn hasAck fin rst win mss body).toArray
def br6(n:Nat):Bd:=⟨.iv n,0,4294967295⟩
def bt2(n:Nat):Bd:=⟨.iv n,-9223372036854775808,9223372036854775807⟩
def bZ3:Sy.St:=⟨[],[],⟨[br6 0,bt2 1,br6 2,bt2 3,br6 4,br6 5,bt2 6,bt2 7,⟨.len l7,0,9223372036854775807⟩],[]⟩,0⟩
structure SegIn(sa sp da dp sq ak win mss:Int)(body:ByteArray):Prop where
 a0:0<=sa
 a1:sa<=4294967295
 b0: -9223372036854775808<=sp
 b1:sp<=9223372036854775807
 c0:0<=da
 c1:da<=4294967295
 d0: -9223372036854775808<=dp
 d1:dp<=9223372036854775807
 e0:0<=sq
 e1:sq<=4294967295
 f0:0<=ak
 f1:ak<=4294967295
 g0: -9223372036854775808<=win
 g1:win<=9223372036854775807
 h0: -9223372036854775808<=mss
 h1:mss<=9223372036854775807
 s:body.size<=9223372036854775807
def b2(b:Bool):Int:=if b then 1 else 0
theorem a36:b2 true=1:=rfl
theorem aW0:b2 false=0:=rfl
theorem aL3(b:Bool):0<=b2 b/\b2 b<=1:=by cases b<;>decide
def ao3(sp dp ak:Int)(syn hasAck fin rst:Bool)(win mss:Int)(len:Int):Int:=
 if sp<1\/65535<sp\/dp<1\/65535<dp\/win<0\/65535<win\/mss<0\/65535<mss then 1
 else if(0<mss/\b2 syn=0)\/(b2 syn=1/\b2 fin=1)\/(b2 syn=1/\b2 rst=1)\/(b2 fin=1/\b2 rst=1)\/(0<ak/\b2 hasAck=0)then 4
 else if 1000<len then 2 else 0
section
variable{sa sp da dp sq ak win mss:Int}{body:ByteArray}
def bE3(sa sp da dp sq ak:Int)(syn hasAck fin rst:Bool)(win mss:Int)(body:ByteArray):Env:=U9 [sa,sp,da,dp,sq,ak,win,mss] [syn,hasAck,fin,rst] [body] []
theorem b07(h:SegIn sa sp da dp sq ak win mss body)(syn hasAck fin rst:Bool):bZ3.cx.ok (bE3 sa sp da dp sq ak syn hasAck fin rst win mss body):=by
 refine⟨fun x hx=>?_,fun t ht=>(by cases ht)⟩;rcases aa.1 hx with rfl|hx;·exact⟨h.a0,h.a1⟩
 rcases aa.1 hx with rfl|hx;·exact⟨h.b0,h.b1⟩
 rcases aa.1 hx with rfl|hx;·exact⟨h.c0,h.c1⟩
 rcases aa.1 hx with rfl|hx;·exact⟨h.d0,h.d1⟩
 rcases aa.1 hx with rfl|hx;·exact⟨h.e0,h.e1⟩
 rcases aa.1 hx with rfl|hx;·exact⟨h.f0,h.f1⟩
 rcases aa.1 hx with rfl|hx;·exact⟨h.g0,h.g1⟩
 rcases aa.1 hx with rfl|hx;·exact⟨h.h0,h.h1⟩
 rcases aa.1 hx with rfl|hx
 .have:=h.s;show(0:Int)<=(body.size:Int)/\(body.size:Int)<=9223372036854775807;omega
 cases hx
abbrev wbC:List (Tq8 Sm):=[.d (.lt p7 i9),.d (.lt u7 p7),.d (.lt o8 i9),.b (.lt u7 o8),.l (.ret qas [])]
abbrev wbq:List (Tq8 Sm):=[.l (.ret qbe []),.b qbm,.l (.ret qbd []),.l (.ret qad []),.b qbm,.l (.ret qbd []),.l (.ret qad [])]
abbrev wbB:List (Tq8 Sm):=[.d (.bv 3),.d qf3,.d (.bv 1)]++wbq++[.l (.ret qbe [])]
abbrev wbz:List (Tq8 Sm):=[.l (.ret qas []),.l (.ret qas [])]
abbrev wbr:List (Tq8 Sm):=wbz++wbz
theorem bq7:smR prog f51 0 (R6 prog [] 10 400 0 (.code (y7 f51)) (L3 f51 [seg] bZ3))=some (fq8 ([.b qf2,.b (.le m8 u7),.b (.lt i9 n7),.b (.le n7 u7)]++wbC++[.d qg8,.b o9,.d (.bv 2)]++wbB++[.l (.ret qbe []),.l (.ret qbe []),.b o9,.d (.bv 2)]++wbB++[.l (.ret qbe []),.b (.bv 2)]++wbB++[.d qf3,.d (.bv 1)]++wbq++wbr++wbz++[.l (.ret qas [])]) [[]]):=by kernel_rfl
theorem bq8(h:SegIn sa sp da dp sq ak win mss body)(syn hasAck fin rst:Bool)(w:World)(er:Int)(he:ao3 sp dp ak syn hasAck fin rst win mss body.size=er):
 Calls prog 51 #[dt7 sa sp da dp sq ak syn hasAck fin rst win mss body] w fun e w'=>e= .returned (.int .i64 er)/\Below w.heap.size w w':=by
 refine(W3 (B:=⟨bE3 sa sp da dp sq ak syn hasAck fin rst win mss body,fun _=>False,w,fun _=>0,0⟩) (sp:=[]) (b81 _ _ _ _) (by
  intro q hq;cases hq) 10 400 func51 rfl [seg] bZ3 _ 0 rfl bq7 (Md.aj5 (b07 h syn hasAck fin rst)) (R:=fun v w'=>v= .int .i64 er/\Below w.heap.size w w') ?_ rfl).mono ?_
 .refine⟨?_,?_,?_,?_,?_,?_,?_,?_,?_,?_,?_,?_,?_,?_,?_,?_,?_,?_,?_,?_,?_,?_,?_,?_,?_,?_,?_,?_,?_,?_,?_,?_,?_,?_,trivial⟩;all_goals
   intro hpc N w' hH;simp only[A6,u9,bE3,U9,dI,dB,dS,List.getD_cons_zero,List.getD_cons_succ,aB,aN,decide_eq_false_iff_not,beq_iff_eq,beq_eq_false_iff_ne,and_true]at hpc;refine⟨?_,Sy.Only.R9 hH.only⟩;refine congrArg (Value.int .i64) ?_;simp only[u9,dI];have k1:=aL3 syn;have k2:=aL3 hasAck;have k3:=aL3 fin;have k4:=aL3 rst;have k5:=h.f0;simp only[hpc,a36,aW0,ao3,or_true,true_or,or_false,false_or,and_true,true_and,and_false,false_and,if_true,if_false,aJ,aM,Int.one_ne_zero,Int.zero_ne_one,show ¬((0:Int)=1)from by decide,show ¬((1:Int)=0)from by decide]at he
   (repeat' split at he)<;>omega
 .rintro e w' ⟨v,rfl,rfl,hb⟩;exact⟨rfl,hb⟩
theorem bP0:smR prog f53 0 (R6 prog [] 10 400 0 (.code (y7 f53)) (L3 f53 [seg] bZ3))=some (fq8 ([.d (.lt m8 l9),.b (.lt u7 m8),.l (.ret qas []),.d (.lt n7 l9),.b (.lt u7 n7),.l (.ret qas [])]++wbC++[.d o9,.d (.lt i9 o8),.b (.bv 2),.d (.bv 3),.d (.bv 1),.b qg7]++wbq++[.l (.ret qbe []),.d (.bv 1),.b qg7]++wbq++[.l (.ret qbe []),.d (.bv 2),.d (.bv 3),.d (.bv 1),.b qg7]++wbq++[.l (.ret qbe []),.l (.ret qbe [])]++wbr++[.l (.ret qas [])]) [[]]):=by kernel_rfl
theorem bP1(h:SegIn sa sp da dp sq ak win mss body)(syn hasAck fin rst:Bool)(w:World)(er:Int)(he:ao3 sp dp ak syn hasAck fin rst win mss body.size=er):
 Calls prog 53 #[dt7 sa sp da dp sq ak syn hasAck fin rst win mss body] w fun e w'=>e= .returned (.int .i64 er)/\Below w.heap.size w w':=by
 refine(W3 (B:=⟨bE3 sa sp da dp sq ak syn hasAck fin rst win mss body,fun _=>False,w,fun _=>0,0⟩) (sp:=[]) (b81 _ _ _ _) (by
  intro q hq;cases hq) 10 400 func53 rfl [seg] bZ3 _ 0 rfl bP0 (Md.aj5 (b07 h syn hasAck fin rst)) (R:=fun v w'=>v= .int .i64 er/\Below w.heap.size w w') ?_ rfl).mono ?_
 .refine⟨?_,?_,?_,?_,?_,?_,?_,?_,?_,?_,?_,?_,?_,?_,?_,?_,?_,?_,?_,?_,?_,?_,?_,?_,?_,?_,?_,trivial⟩;all_goals
   intro hpc N w' hH;simp only[A6,u9,bE3,U9,dI,dB,dS,List.getD_cons_zero,List.getD_cons_succ,aB,aN,decide_eq_false_iff_not,beq_iff_eq,beq_eq_false_iff_ne,and_true]at hpc;refine⟨?_,Sy.Only.R9 hH.only⟩;refine congrArg (Value.int .i64) ?_;simp only[u9,dI];have k1:=aL3 syn;have k2:=aL3 hasAck;have k3:=aL3 fin;have k4:=aL3 rst;have k5:=h.f0;simp only[hpc,a36,aW0,ao3,or_true,true_or,or_false,false_or,and_true,true_and,and_false,false_and,if_true,if_false,aJ,aM,Int.one_ne_zero,Int.zero_ne_one,show ¬((0:Int)=1)from by decide,show ¬((1:Int)=0)from by decide]at he
   (repeat' split at he)<;>omega
 .rintro e w' ⟨v,rfl,rfl,hb⟩;exact⟨rfl,hb⟩
end
abbrev Rws:=List (List Value)
structure Ou where
 all:ByteArray
 shut:Bool
 una:Int
 cur:Int
 snt:Int
namespace Ou
def fen(o:Ou):Int:=(o.all.size:Int)+1+b2 o.shut
def pN(o:Ou)(lo limit mss:Int):Prop:=limit<=lo\/o.fen<=lo\/mss<1
instance(o:Ou)(lo limit mss:Int):Decidable (o.pN lo limit mss):=by unfold pN;exact inferInstance
def pAt(o:Ou)(lo limit mss:Int):Int:=if o.pN lo limit mss then 0 else lo
def aB5(o:Ou)(lo limit mss:Int):Bool:=decide (¬o.pN lo limit mss/\lo=0)
def aI0(o:Ou)(lo limit mss:Int):Bool:=if o.pN lo limit mss\/lo=0 then false else o.shut&&decide (lo+pcM ((o.all.size:Int)+1) lo limit mss=(o.all.size:Int)+1/\(o.all.size:Int)+1<limit)
def aD6(o:Ou)(lo limit mss:Int):ByteArray:=if o.pN lo limit mss\/lo=0 then K4 else o.all.extract (lo - 1).toNat (lo - 1+pcM ((o.all.size:Int)+1) lo limit mss).toNat
def pIs(o:Ou)(lo limit mss:Int):Bool:=decide (¬o.pN lo limit mss)
def aB6(o:Ou)(limit mss:Int):Int:=o.cur+((o.aD6 o.cur limit mss).size:Int)+b2 (o.aB5 o.cur limit mss)+b2 (o.aI0 o.cur limit mss)
def eK3(o:Ou)(limit mss:Int):Ou:= { o with cur:=o.aB6 limit mss,snt:=max o.snt (o.aB6 limit mss) }
def pV(o:Ou)(lo limit mss:Int):Value:= .tuple #[.agg #[.int .i64 (o.pAt lo limit mss), .bool (o.aB5 lo limit mss), .bool (o.aI0 lo limit mss), .string (o.aD6 lo limit mss)], .bool (o.pIs lo limit mss)]
theorem cs3(o:Ou)(lo limit mss:Int):pcV ((o.all.size:Int)+1) o.shut lo limit mss (o.all.extract (lo - 1).toNat (lo - 1+pcM ((o.all.size:Int)+1) lo limit mss).toNat)=o.pV lo limit mss:=by
 unfold pV;by_cases h:o.pN lo limit mss
 .rw[a74 h];simp only[pAt,aB5,aI0,aD6,pIs,h,if_true,true_or,aJ,false_and,decide_false];rfl
 .by_cases h0:lo=0
  .rw[bI8 h h0];rw[h0]at h;simp only[pAt,aB5,aI0,aD6,pIs,h,h0,if_false,if_true,or_true,aM,true_and,decide_true];rfl
  .rw[bP8 h h0];simp only[pAt,aB5,aI0,aD6,pIs,h,h0,if_false,or_self,aM,and_false,decide_false,decide_true]
def aS5(o:Ou):Int:=if o.shut then 0 else 2048 - ((o.all.size:Int) - min (o.all.size:Int) (max 0 (o.una - 1)))
def cZ8(o:Ou)(s:ByteArray):Ou:= { o with all:=o.all++s.extract 0 (min (s.size:Int) o.aS5).toNat }
def ad1(o:Ou)(a:Int):Int:=if a<o.una+1\/o.snt<a then 0 else a - o.una
def ack(o:Ou)(a:Int):Ou:=if a<o.una+1\/o.snt<a then o else{ o with una:=a,cur:=max o.cur a }
end Ou
structure Cn where
 la:Int
 lp:Int
 ra:Int
 rp:Int
 st:Int
 why:Int
 iss:Int
 irs:Int
 own:Int
 mss:Int
 wnd:Int
 wat:Int
 wak:Int
 now:Int
 clk:Int
 gone:Int
 same:Int
 ends:Int
 owed:Bool
 again:Bool
 prb:Bool
 meas:Int
 wen:Int
 shut:Bool
 una:Int
 cur:Int
 snt:Int
 all:ByteArray
 has:Bool
 rd:Int
 fin:Int
 mean:Int
 spr:Int
 dbl:Int
 cm:Int
 cz:Int
 cs:Int
 bg:Int
structure Sg where
 fa:Int
 fp:Int
 ta:Int
 tp:Int
 sq:Int
 ak:Int
 syn:Bool
 hak:Bool
 fin:Bool
 rst:Bool
 win:Int
 mss:Int
 body:ByteArray
def Sg.len(g:Sg):Int:=(g.body.size:Int)+b2 g.syn+b2 g.fin
namespace Cn
def fen(c:Cn):Int:=(c.all.size:Int)+1+b2 c.shut
def aS8(c:Cn):Int:=(c.all.size:Int) - min (c.all.size:Int) (max 0 (c.una - 1))
def a23(c:Cn):Int:=if c.shut then 0 else 2048 - c.aS8
def aI5(c:Cn):Prop:=c.st≠0/\c.st≠9/\(c.una<c.cur\/(c.wnd=0/\0<c.una/\c.cur<c.fen))
instance(c:Cn):Decidable c.aI5:=by unfold aI5;exact inferInstance
def bgn(c:Cn):Int:=if c.clk<0 then c.bg else c.clk
def F6(c:Cn):Cn:=if c.aI5 then(if c.clk<0 then{ c with clk:=c.now,bg:=c.now }else c)else{ c with clk:= -1,bg:=c.bgn }
def aS7(c:Cn)(g:Sg):Int:=max 8 (min c.own (if g.mss=0 then 536 else g.mss))
def syn(c:Cn)(g:Sg):Cn:= { c with irs:=g.sq,wnd:=g.win,has:=true,rd:=1,fin:=0,mss:=c.aS7 g,cm:=c.aS7 g,cz:=2*c.aS7 g,cs:=65535 }
def dS8(c:Cn)(at_:Int):Int:=if at_<c.una+1\/c.snt<at_ then 0 else at_ - c.una
def dJ3(c:Cn)(at_:Int):Cn:=if at_<c.una+1\/c.snt<at_ then c else{ c with una:=at_,cur:=max c.cur at_ }
def cA5(c:Cn)(r:Int):Cn:=
 if r<0\/1099511627776<r then c
 else if c.mean<0 then{ c with mean:=8*r,spr:=2*r,dbl:=0 }
 else{ c with mean:=c.mean+(r - c.mean /8),spr:=c.spr+(af9 (r - c.mean /8) - c.spr /4),dbl:=0 }
def dS7(c:Cn)(at_:Int):Cn:=if 0<c.meas/\c.meas<=at_ then{ c.cA5 (c.now - c.wen)with meas:=0 }else c
def V7(c:Cn)(at_:Int):Cn:= { (c.dJ3 at_).dS7 at_ with cz:=aN3 c.cm c.cz c.cs (c.dS8 at_),gone:=0,same:=0,clk:= -1,bg:=c.bgn }
def B5(c:Cn)(g:Sg):Int:=aT1 ((g.ak - c.iss) % 4294967296) c.una
def Z2(c:Cn)(g:Sg):Prop:=c.st=2/\(c.B5 g<1\/c.snt<c.B5 g)
instance(c:Cn)(g:Sg):Decidable (c.Z2 g):=by unfold Z2;exact inferInstance
def up(c:Cn):Cn:=if c.st=2 then{ c with st:=if c.shut then 4 else 3 }else c
def dup(c:Cn):Cn:=if c.same+1=3 then{ c with same:=c.same+1,cs:=aC3 c.cm (c.cur - c.una),cz:=aC3 c.cm (c.cur - c.una),again:=true,meas:=0 }else{ c with same:=c.same+1 }
def ag7(c:Cn)(g:Sg)(a:Int):Cn:=if c.una<a then c.V7 a else if a=c.una/\g.len=0/\c.una<c.cur/\g.win=c.wnd then c.dup else c
def ag6(c:Cn)(g:Sg)(a at_ una:Int):Cn:=if una<a\/(a=una/\(c.wat<at_\/(at_=c.wat/\c.wak<=a)))then{ c with wnd:=g.win,wat:=at_,wak:=a }else c
def aJ0(c:Cn):Cn:=if c.shut=true/\c.una=c.fen then(if c.st=4 then{ c with st:=5 }else if c.st=7 then{ c with st:=9,ends:=c.now+20 }else if c.st=8 then{ c with st:=0 }else c)else c
def aP9(c:Cn):Bool:= !(c.shut&&(decide (c.una=c.fen)&&decide (c.st=8)))
def aW9(c:Cn)(g:Sg)(at_:Int):Cn:=((c.up).ag7 g (c.B5 g)).ag6 g (c.B5 g) at_ c.una
def Z4(c:Cn)(g:Sg)(at_:Int):Cn:=if c.Z2 g then c else if c.snt<c.B5 g then{ c.up with owed:=true }else(c.aW9 g at_).aJ0
def aE9(c:Cn)(g:Sg)(at_:Int):Bool:=if c.Z2 g then false else if c.snt<c.B5 g then false else(c.aW9 g at_).aP9
def aC5(c:Cn)(g:Sg):List Int:=if c.Z2 g then [g.ak]else []
def opn(c:Cn):Prop:=3<=c.st/\c.st<=5
instance(c:Cn):Decidable c.opn:=by unfold opn;exact inferInstance
def aA4(c:Cn)(L:Rws)(g:Sg)(at_:Int):Rws:=if c.opn then W8 L c.rd c.fin at_ g.body else L
def aV2(c:Cn)(L:Rws)(g:Sg)(at_:Int):Int:=if c.opn then aF7 L c.rd c.fin at_ g.body g.fin else c.fin
def bl8(c:Cn):Cn:=if c.st=3 then{ c with st:=6 }else if c.st=4 then{ c with st:=7 }else{ c with st:=9,ends:=c.now+20 }
def aA5(c:Cn)(L:Rws)(g:Sg)(at_:Int):Cn:=
 if c.opn then
  (if Z3 (c.aA4 L g at_) c.rd (c.aV2 L g at_)then({ c with owed:=c.owed||decide (0<g.len),fin:=c.aV2 L g at_ }:Cn).bl8
  else{ c with owed:=c.owed||decide (0<g.len),fin:=c.aV2 L g at_ })
 else if c.st=9/\g.fin=true then{ c with owed:=c.owed||decide (0<g.len),ends:=c.now+20 }else{ c with owed:=c.owed||decide (0<g.len) }
def ag5(c:Cn)(g:Sg):Prop:=g.hak=true/\g.ak=(c.iss+1) % 4294967296/\c.snt≠0
instance(c:Cn)(g:Sg):Decidable (c.ag5 g):=by unfold ag5;exact inferInstance
def aI6(c:Cn)(g:Sg):Cn:=
 if g.hak=true/\¬c.ag5 g then c
 else if g.rst=true then(if g.hak=true then{ c with st:=0,why:=11 }else c)
 else if g.syn=true then(if g.hak=true then{ (c.syn g).V7 1 with st:=3,owed:=true }else{ c.syn g with st:=2,cur:=c.una })
 else c
def aC7(c:Cn)(g:Sg):List Int:=if g.hak=true/\¬c.ag5 g/\g.rst=false then [g.ak]else []
def aF5(c:Cn)(L:Rws)(g:Sg):Rws:=if g.hak=true/\¬c.ag5 g then L else if g.rst=true then L else if g.syn=true then []else L
def a22(c:Cn)(L:Rws):Int:=(c.irs+Z8 L c.rd c.fin) % 4294967296
def bU4(c:Cn)(L:Rws):Int:=2048 - (L1 L c.rd - c.rd)
def K8(c:Cn)(L:Rws)(g:Sg):Int:=aT1 ((g.sq - c.irs) % 4294967296) (Z8 L c.rd c.fin)
def bU9(c:Cn)(L:Rws)(g:Sg):Bool:=aO2 g.sq g.len (c.a22 L) (c.bU4 L)
def ay3(c:Cn)(L:Rws)(g:Sg):Nat:=
 if c.bU9 L g=false then 0 else if g.rst=true/\g.sq=c.a22 L then 1 else if g.rst=true\/g.syn=true then 2 else if g.hak=true then 3 else 4
def aj8(c:Cn)(g:Sg):Cn:=if c.st=9/\g.fin=true then{ c with owed:=c.owed|| !g.rst,ends:=c.now+20 }else{ c with owed:=c.owed|| !g.rst }
def aj9(c:Cn)(L:Rws)(g:Sg):Cn:=
 if c.ay3 L g=0 then c.aj8 g
 else if c.ay3 L g=1 then(if c.st=9 then{ c with st:=0 }else{ c with st:=0,why:=12 })
 else if c.ay3 L g=2 then{ c with owed:=true }
 else if c.ay3 L g=3 then(if c.aE9 g (c.K8 L g)then(c.Z4 g (c.K8 L g)).aA5 L g (c.K8 L g)else c.Z4 g (c.K8 L g))
 else c
def aR5(c:Cn)(L:Rws)(g:Sg):List Int:=if c.ay3 L g=3 then c.aC5 g else []
def ac3(c:Cn)(L:Rws)(g:Sg):Rws:=if c.ay3 L g=3/\c.aE9 g (c.K8 L g)=true then(c.Z4 g (c.K8 L g)).aA4 L g (c.K8 L g)else L
def err(g:Sg):Int:=ao3 g.fp g.tp g.ak g.syn g.hak g.fin g.rst g.win g.mss g.body.size
def inE(c:Cn)(g:Sg):Int:=
 if err g≠0 then err g else if ¬(g.fa=c.ra/\g.fp=c.rp/\g.ta=c.la/\g.tp=c.lp)then 6 else if c.st=0 then 10 else 0
def inC(c:Cn)(L:Rws)(g:Sg):Cn:=if c.inE g≠0 then c else if c.st=1 then(c.aI6 g).F6 else(c.aj9 L g).F6
def inR(c:Cn)(L:Rws)(g:Sg):List Int:=if c.inE g≠0 then []else if c.st=1 then c.aC7 g else c.aR5 L g
def inL(c:Cn)(L:Rws)(g:Sg):Rws:=if c.inE g≠0 then L else if c.st=1 then c.aF5 L g else c.ac3 L g
def ar9(c:Cn):Cn:=
 if c.gone=8 then{ c with st:=0,why:=13 }
 else if c.cur=c.una then{ c with gone:=c.gone+1,dbl:=aK1 c.dbl,clk:=c.now,bg:=c.now,prb:=true }
 else if c.has=true then{ c with gone:=c.gone+1,dbl:=aK1 c.dbl,clk:=c.now,bg:=c.now,cs:=aC3 c.cm (c.cur - c.una),cz:=c.cm,cur:=c.una,meas:=0 }
 else{ c with gone:=c.gone+1,dbl:=aK1 c.dbl,clk:=c.now,bg:=c.now,cur:=c.una,meas:=0 }
def val(c:Cn):Int:=aT5 (decide (0<=c.mean)) c.mean c.spr c.dbl
def aW7(c:Cn)(n:Int):Int:=if n<0\/1099511627776<c.now+n then 1 else 0
def aN4(c:Cn)(n:Int):Cn:=
 if c.aW7 n≠0 then c
 else if c.st=9/\c.ends<=c.now+n then({ c with now:=c.now+n,st:=0 }:Cn).F6
 else if 0<=c.clk/\c.val<=c.now+n - c.clk then(({ c with now:=c.now+n }:Cn).ar9).F6
 else({ c with now:=c.now+n }:Cn).F6
def wrN(c:Cn)(s:ByteArray):Int:=min (s.size:Int) c.a23
def bD6(c:Cn):Bool:=decide (c.st=0)||c.shut
def wrC(c:Cn)(s:ByteArray):Cn:=if c.bD6 then c else({ c with all:=c.all++s.extract 0 (c.wrN s).toNat }:Cn).F6
def wrA(c:Cn)(s:ByteArray):Int:=if c.bD6 then 0 else c.wrN s
def wrE(c:Cn)(s:ByteArray):Int:=if c.st=0/\c.why≠0 then c.why else if c.bD6 then 17 else if c.wrN s=0/\s.size≠0 then 14 else 0
def rdy(c:Cn)(L:Rws):Int:=L1 L c.rd - c.rd
def rdC(c:Cn)(L:Rws)(most:Int):Cn:=if c.has=true/\0<c.rdy L then{ c with rd:=c.rd+rdN L c.rd most }else c
def rdT(c:Cn)(L:Rws)(most:Int):ByteArray:=if c.has=true/\0<c.rdy L then rdS (aP5 L) c.rd (rdN L c.rd most).toNat else K4
def rdB(c:Cn)(L:Rws):Bool:=if c.has=true/\0<c.rdy L then false else if c.has=true/\Z3 L c.rd c.fin=true then true else if c.st≠0 then false else decide (c.why=0)
def rdE(c:Cn)(L:Rws):Int:=if c.has=true/\0<c.rdy L then 0 else if c.has=true/\Z3 L c.rd c.fin=true then 0 else if c.st≠0 then 14 else c.why
def am6(c:Cn)(L:Rws):Int:=
 b2 (decide (c.st=0\/(c.has=true/\(0<c.rdy L\/Z3 L c.rd c.fin=true))))+2*b2 (decide ((c.st=3\/c.st=6)/\0<c.a23))+4*b2 (decide (c.st=0/\c.why≠0))
def clE(c:Cn):Int:=if c.st=0 then 10 else if c.shut then 17 else 0
def clC(c:Cn):Cn:=if c.clE≠0 then c else if c.st=1 then({ c with st:=0 }:Cn).F6 else if c.st=3 then({ c with shut:=true,st:=4 }:Cn).F6 else if c.st=6 then({ c with shut:=true,st:=8 }:Cn).F6 else({ c with shut:=true }:Cn).F6
def abE(c:Cn):Int:=if c.st=0 then 10 else 0
def abC(c:Cn):Cn:=if c.st=0 then c else({ c with st:=0,why:=17 }:Cn).F6
def abR(c:Cn):List Int:=if c.st=0\/c.st=1\/c.st=9 then []else [(c.iss+c.snt) % 4294967296]
def ou(c:Cn):Ou:=⟨c.all,c.shut,c.una,c.cur,c.snt⟩
def bI0(c:Cn)(L:Rws)(at_:Int):Sg:=
 ⟨c.la,c.lp,c.ra,c.rp,(c.iss+at_) % 4294967296,if c.has then c.a22 L else 0,false,c.has,false,false,if c.has then c.bU4 L else 2048,0,K4⟩
def aP4(c:Cn)(L:Rws)(lo limit:Int):Sg:= { c.bI0 L (c.ou.pAt lo limit c.mss)with syn:=c.ou.aB5 lo limit c.mss,fin:=c.ou.aI0 lo limit c.mss,mss:=if c.ou.aB5 lo limit c.mss then c.own else 0,body:=c.ou.aD6 lo limit c.mss }
def K3(c:Cn):Int:=if c.una=0 then 1 else c.una+max (b2 c.prb) (min c.wnd c.cz)
def Y1(c:Cn)(limit:Int):Cn:=
 if c.ou.pAt c.cur limit c.mss=c.snt/\c.meas=0 then{ c with cur:=c.ou.aB6 limit c.mss,snt:=max c.snt (c.ou.aB6 limit c.mss),meas:=c.ou.aB6 limit c.mss,wen:=c.now }
 else{ c with cur:=c.ou.aB6 limit c.mss,snt:=max c.snt (c.ou.aB6 limit c.mss) }
def ay2:Nat->Cn->Rws->Int->List Sg
 | 0,_,_,_=>[]
 | n+1,c,L,limit=>if c.ou.pN c.cur limit c.mss then []else c.aP4 L c.cur limit::ay2 n (c.Y1 limit) L limit
def at8:Nat->Cn->Int->Cn
 | 0,c,_=>c
 | n+1,c,limit=>if c.ou.pN c.cur limit c.mss then c else at8 n (c.Y1 limit) limit
def bm0(c:Cn):Nat:=(c.K3 - c.cur).toNat
def rsG(c:Cn)(n:Int):Sg:=⟨c.la,c.lp,c.ra,c.rp,n,0,false,false,false,true,0,0,K4⟩
def aI1(c:Cn)(L:Rws):List Sg:=if c.again=true/\¬c.ou.pN c.una c.snt c.mss then [c.aP4 L c.una c.snt]else []
def aW8(c:Cn)(L:Rws):List Sg:=c.aI1 L++ay2 c.bm0 c L c.K3
def aK9(c:Cn):Cn:=at8 c.bm0 c c.K3
def bU8(c:Cn)(L:Rws):List Sg:=if c.owed=true/\(c.aW8 L).length=0 then [c.aK9.bI0 L c.aK9.snt]else c.aW8 L
def aB3(c:Cn)(L:Rws)(R:List Int):List Sg:=R.map c.rsG++(if c.st=0 then []else c.bU8 L)
def aN5(c:Cn):Cn:=if c.st=0 then c else({ c.aK9 with owed:=false,again:=false,prb:=false }:Cn).F6
end Cn
def aY9(la lp ra rp iss mss st:Int):Cn where
 la:=la
 lp:=lp
 ra:=ra
 rp:=rp
 st:=st
 why:=0
 iss:=iss
 irs:=0
 own:=mss
 mss:=mss
 wnd:=0
 wat:=0
 wak:=0
 now:=0
 clk:= -1
 gone:=0
 same:=0
 ends:=0
 owed:=false
 again:=false
 prb:=false
 meas:=0
 wen:=0
 shut:=false
 una:=0
 cur:=0
 snt:=0
 all:=K4
 has:=false
 rd:=1
 fin:=0
 mean:= -1
 spr:=0
 dbl:=0
 cm:=0
 cz:=0
 cs:=0
 bg:=0
def K9(c:Cn):List Value:=[.int .i64 c.la, .int .i64 c.lp, .int .i64 c.ra, .int .i64 c.rp, .int .i64 c.st, .int .i64 c.why, .int .i64 c.iss, .int .i64 c.irs, .int .i64 c.own, .int .i64 c.mss, .int .i64 c.wnd, .int .i64 c.wat, .int .i64 c.wak, .int .i64 c.now, .int .i64 c.clk, .int .i64 c.gone, .int .i64 c.same, .int .i64 c.ends, .bool c.owed, .bool c.again, .bool c.prb, .int .i64 c.meas, .int .i64 c.wen, .bool c.shut, .int .i64 c.una, .int .i64 c.cur, .int .i64 c.snt, .string c.all, .bool c.has, .int .i64 c.rd, .int .i64 c.fin, .int .i64 c.mean, .int .i64 c.spr, .int .i64 c.dbl, .int .i64 c.cm, .int .i64 c.cz, .int .i64 c.cs, .int .i64 c.bg]
def R7(r:List Value):Cn:=⟨z9 r 0,z9 r 1,z9 r 2,z9 r 3,z9 r 4,z9 r 5,z9 r 6,z9 r 7,z9 r 8,z9 r 9,z9 r 10,z9 r 11,z9 r 12,z9 r 13,z9 r 14,z9 r 15,z9 r 16,z9 r 17,Y5 r 18,Y5 r 19,Y5 r 20,z9 r 21,z9 r 22,Y5 r 23,z9 r 24,z9 r 25,z9 r 26,aB8 r 27,Y5 r 28,z9 r 29,z9 r 30,z9 r 31,z9 r 32,z9 r 33,z9 r 34,z9 r 35,z9 r 36,z9 r 37⟩
theorem U7(c:Cn):R7 (K9 c)=c:=rfl
def W5(r:List Value):Sg:=⟨z9 r 0,z9 r 1,z9 r 2,z9 r 3,z9 r 4,z9 r 5,Y5 r 6,Y5 r 7,Y5 r 8,Y5 r 9,z9 r 10,z9 r 11,aB8 r 12⟩
def Cn.aD8(c:Cn)(j:Nat)(v:Int):Cn:=
 if j=0 then{ c with la:=v }
 else if j=1 then{ c with lp:=v }
 else if j=2 then{ c with ra:=v }
 else if j=3 then{ c with rp:=v }
 else if j=4 then{ c with st:=v }
 else if j=5 then{ c with why:=v }
 else if j=6 then{ c with iss:=v }
 else if j=7 then{ c with irs:=v }
 else if j=8 then{ c with own:=v }
 else if j=9 then{ c with mss:=v }
 else if j=10 then{ c with wnd:=v }
 else if j=11 then{ c with wat:=v }
 else if j=12 then{ c with wak:=v }
 else if j=13 then{ c with now:=v }
 else if j=14 then{ c with clk:=v }
 else if j=15 then{ c with gone:=v }
 else if j=16 then{ c with same:=v }
 else if j=17 then{ c with ends:=v }
 else if j=21 then{ c with meas:=v }
 else if j=22 then{ c with wen:=v }
 else if j=24 then{ c with una:=v }
 else if j=25 then{ c with cur:=v }
 else if j=26 then{ c with snt:=v }
 else if j=29 then{ c with rd:=v }
 else if j=30 then{ c with fin:=v }
 else if j=31 then{ c with mean:=v }
 else if j=32 then{ c with spr:=v }
 else if j=33 then{ c with dbl:=v }
 else if j=34 then{ c with cm:=v }
 else if j=35 then{ c with cz:=v }
 else if j=36 then{ c with cs:=v }
 else if j=37 then{ c with bg:=v }
 else c
def Cn.ay1(c:Cn)(j:Nat)(v:Bool):Cn:=
 if j=18 then{ c with owed:=v }
 else if j=19 then{ c with again:=v }
 else if j=20 then{ c with prb:=v }
 else if j=23 then{ c with shut:=v }
 else if j=28 then{ c with has:=v }
 else c
def Cn.bU7(c:Cn)(j:Nat)(v:ByteArray):Cn:=
 if j=27 then{ c with all:=v }
 else c
end Go.Proofs.YtnlcpcmdlcakgaaGreat
