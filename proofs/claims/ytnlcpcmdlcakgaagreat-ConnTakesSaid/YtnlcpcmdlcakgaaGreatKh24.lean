/- A part of the proof that a connection answers as the document says: CnP. -/
import Derived.Test.YtnlcpcmdlcakgaaGreatKh23
set_option maxRecDepth 100000
set_option maxHeartbeats 4000000
set_option linter.unusedVariables false
set_option linter.unusedSimpArgs false
set_option linter.unusedSectionVars false
open Go.Proofs.Tryz
namespace Go.Proofs.YtnlcpcmdlcakgaaGreat
open Go.RowKit Sy
def cE7(rw:Bool)(s:Sy.St):Bool:=(s.hp.any fun b=>ap3 b { dy6 (.iv 0) (.iv 1) (.iv 2) (.iv 3) (.bv 0)with rw:=rw })&&s.hp.any fun b=>ap3 b ⟨2,5,[],rw,some (.sv 0), .no⟩
def pcT(lo limit mss:Tm):SV:= .tup [.agg [.int .i64 (.ap 110 lo limit mss), .bool (.ap 111 lo limit mss), .bool (.ap 112 lo limit mss), .str (.ap 113 lo limit mss)], .c (.bool (.ap 114 lo limit mss))]
def dL4(rw:Bool)(s:Sy.St):List SV->Option Did
 | [.one (.c (.ptr 0 0)), .one (.c (.int .i64 lo)), .one (.c (.int .i64 limit)), .one (.c (.int .i64 mss))]=>if cE7 rw s&&(E7 lo (.iv 1)||E7 lo (.iv 2))&&(E7 limit (.iv 5)||E7 limit (.iv 3))&&E7 mss (.iv 4)then some ⟨[],[],[],[],pcT lo limit mss,[⟨.len (.ap 113 lo limit mss),0,2048⟩],none⟩else none
 | _=>none
def bx6(rw:Bool):Sy.Spec:=R4 82 (dL4 rw)
section
variable{w:World}{g gb cap:Nat}{bytes:ByteArray}{base a m:Int}{o:Ou}{s:ByteArray}
theorem dK8{x y z:Tm}{b:Bool}(h:(b&&(E7 x y||E7 x z))=true):b=true/\(x=y\/x=z):=by
 rw[m5,bp]at h;exact⟨h.1,h.2.imp H9 H9⟩
theorem OuI.cK4(h:OuI w g gb cap bytes base o a m s)(lo limit mss:Int)(hlo:o.una<=lo):((o.aD6 lo limit mss).size:Int)<=2048:=by
 unfold Ou.aD6;split
 .show((0:Nat):Int)<=2048;decide
 .rename_i q;have hl:lo≠0:=fun e=>q (.inr e)
  have hr:=h.rel.a21;have e1:=h.rel.hbase;have e2:=h.rel.s1;have e3:=h.rel.a0;have hsz:(o.all.extract (lo - 1).toNat (lo - 1+pcM ((o.all.size:Int)+1) lo limit mss).toNat).size=min (lo - 1+pcM ((o.all.size:Int)+1) lo limit mss).toNat o.all.size - (lo - 1).toNat:=by simp
  rw[hsz];unfold pcM;omega
theorem cE5(rw:Bool)(h:OuI w g gb cap bytes base o a m s):(bx6 rw).Ok prog (K5 o bytes base a m s):=by
 refine U1 fun{st xs d} hs hc hm {N w1} hb hne=>?_
 unfold dL4 at hs;split at hs
 .rename_i lo limit mss;split at hs
  .rename_i q;injection hs with hs;subst hs;rw[m5]at q;obtain⟨q,q3⟩:=q;obtain⟨q,q2⟩:=dK8 q;obtain⟨q,q1⟩:=dK8 q;have e3:=H9 q3;subst e3;unfold cE7 at q;rw[m5]at q;obtain⟨x,hx,hx'⟩:=List.any_eq_true.1 q.1;obtain⟨y,hy,hy'⟩:=List.any_eq_true.1 q.2;have ex:=ap2 hx';have ey:=ap2 hy';subst ex ey;have B0:Blk w1 (N 0) 110 (bJ0 (N 2) (N 3) bytes.size base o.una o.cur o.snt o.shut):=hb _ hx;have B1:RowB w1 (N 2) (N 3) 5 true bytes.data.toList:=hb _ hy;have hne':N 3≠0->N 0≠N 2:=fun h3=>(hne _ hx _ hy (show(0:Nat)≠2 by decide) (.inl rfl) (.inr h3)).ne
   obtain⟨c1,c2,c3,c4,c5,c6,c7,c8,c9⟩:=h.bd;have hsz:=h.rel.a21;have hlo:o.una<=(u9 (K5 o bytes base a m s) lo).i/\(u9 (K5 o bytes base a m s) lo).i<=1152921504606846976:=by
    have:=h.rel.a1;rcases q1 with rfl|rfl
    .exact⟨aF _,c4⟩
    .exact⟨this,c6⟩
   have hli: -9223372036854775808<=(u9 (K5 o bytes base a m s) limit).i/\(u9 (K5 o bytes base a m s) limit).i<=9223372036854775807:=by
    rcases q2 with rfl|rfl
    .exact⟨h.a0,h.a1⟩
    .show -9223372036854775808<=o.snt/\o.snt<=9223372036854775807;omega
   refine⟨fun x hx=>?_,?_⟩
   .rw[ah.1 hx];refine⟨?_,h.cK4 _ _ _ hlo.1⟩;show(0:Int)<=((o.aD6 _ _ _).size:Int);omega
   .have hbase:=h.rel.hbase;have hal:base+(bytes.size:Int)=(o.all.size:Int)+1:=by omega
    refine(cB3 (N 0) (N 2) (N 3) bytes base o.una o.cur o.snt (u9 (K5 o bytes base a m s) lo).i (u9 (K5 o bytes base a m s) limit).i m o.shut (o.all.extract ((u9 (K5 o bytes base a m s) lo).i - 1).toNat ((u9 (K5 o bytes base a m s) lo).i - 1+pcM ((o.all.size:Int)+1) (u9 (K5 o bytes base a m s) lo).i (u9 (K5 o bytes base a m s) limit).i m).toNat) w1 B0 B1 hne' U c1 c2 U hlo.2 hli ⟨h.m0,h.m1⟩ (fun q=>by omega) (fun q=>dx1 h.rel hlo.1 q)).mono ?_;rintro e w' ⟨rfl,hbel⟩;refine⟨N,?_,Chg.bd7 hbel⟩;rw[hal,Ou.cs3];rfl
  .cases hs
 .cases hs
end
def az0:List Bk:=(ro ouS).hp
theorem dT3:smR prog f83 4 (R6 prog [] 10 400 4 (.code (y7 f83)) (L3 f83 [.one (.c (.ptr 0 0))] (ro ouS)))=some [(.ret (.one (.c (.int .i64 (.iv 1)))) az0 [])]:=by kernel_rfl
theorem dh3:smR prog f43 4 (R6 prog [] 10 400 4 (.code (y7 f43)) (L3 f43 [.one (.c (.ptr 0 0))] (ro ouS)))=some [(.ret (.one (.c (.int .i64 (.iv 2)))) az0 [])]:=by kernel_rfl
theorem cv3:smR prog Tryz.f41 4 (R6 prog [] 10 400 4 (.code (y7 Tryz.f41)) (L3 Tryz.f41 [.one (.c (.ptr 0 0))] (ro ouS)))=some [(.ret (.one (.c (.int .i64 (.iv 3)))) az0 [])]:=by kernel_rfl
theorem c11:smR prog f88 4 (R6 prog [] 10 400 4 (.code (y7 f88)) (L3 f88 [.one (.c (.ptr 0 0))] (ro ouS)))=some (fq8 [.b (.bv 0),.l (.ret (.one (.c (.int .i64 (.add (.add (.iv 0) (.len (.sv 0))) (.il 1))))) az0),.l (.ret (.one (.c (.int .i64 (.add (.iv 0) (.len (.sv 0)))))) az0)] [[]]):=by kernel_rfl
theorem cv6:smR prog f80 4 (R6 prog [] 10 400 4 (.code (y7 f80)) (L3 f80 [.one (.c (.ptr 0 0))] (ro ouS)))=some (fq8 [.b (.bv 0),.l (.ret (.one (.c (.int .i64 (.il 0)))) az0),.l (.ret (.one (.c (.int .i64 (.sub (.il 2048) (.len (.sv 0)))))) az0)] [[]]):=by kernel_rfl
theorem ca6:smR prog f71 4 (R6 prog [] 10 400 4 (.code (y7 f71)) (L3 f71 [.one (.c (.ptr 0 0)), .one (.c (.str (.sv 1)))] ouS))=some (fq8 [.b (.bv 0),.p,.l (.must (.le (.ite (.lt (.il 0) (.len (.sv 1))) (.il 0) (.len (.sv 1))) (.len (.sv 1)))),.a (.le (.ite (.lt (.il 0) (.len (.sv 1))) (.il 0) (.len (.sv 1))) (.len (.sv 1))),.p,.l (.must (.le (.add (.len (.sv 0)) (.ite (.lt (.il 0) (.len (.sv 1))) (.il 0) (.len (.sv 1)))) (.il 140737488355328))),.a (.le (.add (.len (.sv 0)) (.ite (.lt (.il 0) (.len (.sv 1))) (.il 0) (.len (.sv 1)))) (.il 140737488355328)),.l (.ret (.one (.c (.int .i64 (.ite (.lt (.il 0) (.len (.sv 1))) (.il 0) (.len (.sv 1)))))) [⟨20,5,[],true,(.some (.app (.sv 0) (.cut (.sv 1) (.il 0) (.ite (.lt (.il 0) (.len (.sv 1))) (.il 0) (.len (.sv 1)))))), .no⟩,⟨0,110,[(.slr 20 (.il 0) (.add (.len (.sv 0)) (.ite (.lt (.il 0) (.len (.sv 1))) (.il 0) (.len (.sv 1)))) (.il 0)),(.int .i64 (.iv 0)),(.int .i64 (.iv 1)),(.int .i64 (.iv 2)),(.int .i64 (.iv 3)),(.bool (.bv 0))],true, .none, .no⟩]),.p,.l (.must (.le (.ite (.lt (.sub (.il 2048) (.len (.sv 0))) (.len (.sv 1))) (.sub (.il 2048) (.len (.sv 0))) (.len (.sv 1))) (.len (.sv 1)))),.a (.le (.ite (.lt (.sub (.il 2048) (.len (.sv 0))) (.len (.sv 1))) (.sub (.il 2048) (.len (.sv 0))) (.len (.sv 1))) (.len (.sv 1))),.p,.l (.must (.le (.add (.len (.sv 0)) (.ite (.lt (.sub (.il 2048) (.len (.sv 0))) (.len (.sv 1))) (.sub (.il 2048) (.len (.sv 0))) (.len (.sv 1)))) (.il 140737488355328))),.a (.le (.add (.len (.sv 0)) (.ite (.lt (.sub (.il 2048) (.len (.sv 0))) (.len (.sv 1))) (.sub (.il 2048) (.len (.sv 0))) (.len (.sv 1)))) (.il 140737488355328)),.l (.ret (.one (.c (.int .i64 (.ite (.lt (.sub (.il 2048) (.len (.sv 0))) (.len (.sv 1))) (.sub (.il 2048) (.len (.sv 0))) (.len (.sv 1)))))) [⟨20,5,[],true,(.some (.app (.sv 0) (.cut (.sv 1) (.il 0) (.ite (.lt (.sub (.il 2048) (.len (.sv 0))) (.len (.sv 1))) (.sub (.il 2048) (.len (.sv 0))) (.len (.sv 1)))))), .no⟩,⟨0,110,[(.slr 20 (.il 0) (.add (.len (.sv 0)) (.ite (.lt (.sub (.il 2048) (.len (.sv 0))) (.len (.sv 1))) (.sub (.il 2048) (.len (.sv 0))) (.len (.sv 1)))) (.il 0)),(.int .i64 (.iv 0)),(.int .i64 (.iv 1)),(.int .i64 (.iv 2)),(.int .i64 (.iv 3)),(.bool (.bv 0))],true, .none, .no⟩])] [[]]):=by kernel_rfl
theorem ck9:smR prog f79 4 (R6 prog [] 10 400 4 (.code (y7 f79)) (L3 f79 [.one (.c (.ptr 0 0))] ouS))=some [(.ret (.tup []) [⟨0,110,[(.slr 2 (.il 0) (.len (.sv 0)) (.il 0)),(.int .i64 (.iv 0)),(.int .i64 (.iv 1)),(.int .i64 (.iv 2)),(.int .i64 (.iv 3)),(.bool (.bl true))],true, .none, .no⟩,⟨2,5,[],true,(.some (.sv 0)), .no⟩] [])]:=by kernel_rfl
theorem c59:smR prog f98 4 (R6 prog [] 10 400 4 (.code (y7 f98)) (L3 f98 [.one (.c (.ptr 0 0))] ouS))=some [(.ret (.tup []) [⟨0,110,[(.slr 2 (.il 0) (.len (.sv 0)) (.il 0)),(.int .i64 (.iv 0)),(.int .i64 (.iv 1)),(.int .i64 (.iv 1)),(.int .i64 (.iv 3)),(.bool (.bv 0))],true, .none, .no⟩,⟨2,5,[],true,(.some (.sv 0)), .no⟩] [])]:=by kernel_rfl
theorem dk4:smR prog f119 4 (R6 prog [] 10 400 4 (.code (y7 f119)) (L3 f119 [.one (.c (.ptr 0 0)), .one (.c (.int .i64 (.iv 5)))] ouS))=some (fq8 [.d (.le (.iv 5) (.iv 1)),.b (.lt (.iv 3) (.iv 5)),.l (.ret (.one (.c (.int .i64 (.il 0)))) cx9),.b (.lt (.il 0) (.sub (.ite (.lt (.add (.iv 0) (.len (.sv 0))) (.iv 5)) (.add (.iv 0) (.len (.sv 0))) (.iv 5)) (.iv 0))),.p,.l (.must (.le (.sub (.ite (.lt (.add (.iv 0) (.len (.sv 0))) (.iv 5)) (.add (.iv 0) (.len (.sv 0))) (.iv 5)) (.iv 0)) (.len (.sv 0)))),.a (.le (.sub (.ite (.lt (.add (.iv 0) (.len (.sv 0))) (.iv 5)) (.add (.iv 0) (.len (.sv 0))) (.iv 5)) (.iv 0)) (.len (.sv 0))),.p,.l (.must (.le (.add (.sub (.ite (.lt (.add (.iv 0) (.len (.sv 0))) (.iv 5)) (.add (.iv 0) (.len (.sv 0))) (.iv 5)) (.iv 0)) (.sub (.len (.sv 0)) (.sub (.ite (.lt (.add (.iv 0) (.len (.sv 0))) (.iv 5)) (.add (.iv 0) (.len (.sv 0))) (.iv 5)) (.iv 0)))) (.len (.sv 0)))),.a (.le (.add (.sub (.ite (.lt (.add (.iv 0) (.len (.sv 0))) (.iv 5)) (.add (.iv 0) (.len (.sv 0))) (.iv 5)) (.iv 0)) (.sub (.len (.sv 0)) (.sub (.ite (.lt (.add (.iv 0) (.len (.sv 0))) (.iv 5)) (.add (.iv 0) (.len (.sv 0))) (.iv 5)) (.iv 0)))) (.len (.sv 0))),.p,.l (.must (.le (.len (.cut (.sv 0) (.sub (.ite (.lt (.add (.iv 0) (.len (.sv 0))) (.iv 5)) (.add (.iv 0) (.len (.sv 0))) (.iv 5)) (.iv 0)) (.add (.sub (.ite (.lt (.add (.iv 0) (.len (.sv 0))) (.iv 5)) (.add (.iv 0) (.len (.sv 0))) (.iv 5)) (.iv 0)) (.sub (.len (.sv 0)) (.sub (.ite (.lt (.add (.iv 0) (.len (.sv 0))) (.iv 5)) (.add (.iv 0) (.len (.sv 0))) (.iv 5)) (.iv 0)))))) (.il 140737488355328))),.a (.le (.len (.cut (.sv 0) (.sub (.ite (.lt (.add (.iv 0) (.len (.sv 0))) (.iv 5)) (.add (.iv 0) (.len (.sv 0))) (.iv 5)) (.iv 0)) (.add (.sub (.ite (.lt (.add (.iv 0) (.len (.sv 0))) (.iv 5)) (.add (.iv 0) (.len (.sv 0))) (.iv 5)) (.iv 0)) (.sub (.len (.sv 0)) (.sub (.ite (.lt (.add (.iv 0) (.len (.sv 0))) (.iv 5)) (.add (.iv 0) (.len (.sv 0))) (.iv 5)) (.iv 0)))))) (.il 140737488355328)),.l (.ret (.one (.c (.int .i64 (.sub (.iv 5) (.iv 1))))) [⟨46,5,[],true,(.some (.cut (.sv 0) (.sub (.ite (.lt (.add (.iv 0) (.len (.sv 0))) (.iv 5)) (.add (.iv 0) (.len (.sv 0))) (.iv 5)) (.iv 0)) (.add (.sub (.ite (.lt (.add (.iv 0) (.len (.sv 0))) (.iv 5)) (.add (.iv 0) (.len (.sv 0))) (.iv 5)) (.iv 0)) (.sub (.len (.sv 0)) (.sub (.ite (.lt (.add (.iv 0) (.len (.sv 0))) (.iv 5)) (.add (.iv 0) (.len (.sv 0))) (.iv 5)) (.iv 0)))))), .no⟩,⟨0,110,[(.slr 46 (.il 0) (.len (.cut (.sv 0) (.sub (.ite (.lt (.add (.iv 0) (.len (.sv 0))) (.iv 5)) (.add (.iv 0) (.len (.sv 0))) (.iv 5)) (.iv 0)) (.add (.sub (.ite (.lt (.add (.iv 0) (.len (.sv 0))) (.iv 5)) (.add (.iv 0) (.len (.sv 0))) (.iv 5)) (.iv 0)) (.sub (.len (.sv 0)) (.sub (.ite (.lt (.add (.iv 0) (.len (.sv 0))) (.iv 5)) (.add (.iv 0) (.len (.sv 0))) (.iv 5)) (.iv 0)))))) (.il 0)),(.int .i64 (.add (.iv 0) (.sub (.ite (.lt (.add (.iv 0) (.len (.sv 0))) (.iv 5)) (.add (.iv 0) (.len (.sv 0))) (.iv 5)) (.iv 0)))),(.int .i64 (.iv 5)),(.int .i64 (.ite (.lt (.iv 2) (.iv 5)) (.iv 5) (.iv 2))),(.int .i64 (.iv 3)),(.bool (.bv 0))],true, .none, .no⟩,⟨2,5,[],true,(.some (.sv 0)), .no⟩]),.l (.ret (.one (.c (.int .i64 (.sub (.iv 5) (.iv 1))))) [⟨0,110,[(.slr 2 (.il 0) (.len (.sv 0)) (.il 0)),(.int .i64 (.iv 0)),(.int .i64 (.iv 5)),(.int .i64 (.ite (.lt (.iv 2) (.iv 5)) (.iv 5) (.iv 2))),(.int .i64 (.iv 3)),(.bool (.bv 0))],true, .none, .no⟩,⟨2,5,[],true,(.some (.sv 0)), .no⟩]),.l (.ret (.one (.c (.int .i64 (.il 0)))) cx9)] [[]]):=by kernel_rfl
abbrev wbo:List (Tq8 Sm):=[.l (.ret (.tup [(.agg [(.int .i64 (.ap 110 (.iv 2) (.iv 5) (.iv 4))),(.bool (.ap 111 (.iv 2) (.iv 5) (.iv 4))),(.bool (.ap 112 (.iv 2) (.iv 5) (.iv 4))),(.str (.ap 113 (.iv 2) (.iv 5) (.iv 4)))]),(.c (.bool (.ap 114 (.iv 2) (.iv 5) (.iv 4))))]) [⟨0,110,[(.slr 2 (.il 0) (.len (.sv 0)) (.il 0)),(.int .i64 (.iv 0)),(.int .i64 (.iv 1)),(.int .i64 (.add (.add (.iv 2) (.len (.ap 113 (.iv 2) (.iv 5) (.iv 4)))) (.il 1))),(.int .i64 (.ite (.lt (.iv 3) (.add (.add (.iv 2) (.len (.ap 113 (.iv 2) (.iv 5) (.iv 4)))) (.il 1))) (.add (.add (.iv 2) (.len (.ap 113 (.iv 2) (.iv 5) (.iv 4)))) (.il 1)) (.iv 3))),(.bool (.bv 0))],true, .none, .no⟩,⟨2,5,[],true,(.some (.sv 0)), .no⟩])]
theorem cy4:smR prog f42 4 (R6 prog [bx6 true] 10 400 4 (.code (y7 f42)) (L3 f42 [.one (.c (.ptr 0 0)), .one (.c (.int .i64 (.iv 5))), .one (.c (.int .i64 (.iv 4)))] ouS))=some (fq8 ([.b (.ap 111 (.iv 2) (.iv 5) (.iv 4)),.b (.ap 112 (.iv 2) (.iv 5) (.iv 4)),.l (.ret (.tup [(.agg [(.int .i64 (.ap 110 (.iv 2) (.iv 5) (.iv 4))),(.bool (.ap 111 (.iv 2) (.iv 5) (.iv 4))),(.bool (.ap 112 (.iv 2) (.iv 5) (.iv 4))),(.str (.ap 113 (.iv 2) (.iv 5) (.iv 4)))]),(.c (.bool (.ap 114 (.iv 2) (.iv 5) (.iv 4))))]) [⟨0,110,[(.slr 2 (.il 0) (.len (.sv 0)) (.il 0)),(.int .i64 (.iv 0)),(.int .i64 (.iv 1)),(.int .i64 (.add (.add (.iv 2) (.len (.ap 113 (.iv 2) (.iv 5) (.iv 4)))) (.il 2))),(.int .i64 (.ite (.lt (.iv 3) (.add (.add (.iv 2) (.len (.ap 113 (.iv 2) (.iv 5) (.iv 4)))) (.il 2))) (.add (.add (.iv 2) (.len (.ap 113 (.iv 2) (.iv 5) (.iv 4)))) (.il 2)) (.iv 3))),(.bool (.bv 0))],true, .none, .no⟩,⟨2,5,[],true,(.some (.sv 0)), .no⟩])]++wbo++[.b (.ap 112 (.iv 2) (.iv 5) (.iv 4))]++wbo++[.l (.ret (.tup [(.agg [(.int .i64 (.ap 110 (.iv 2) (.iv 5) (.iv 4))),(.bool (.ap 111 (.iv 2) (.iv 5) (.iv 4))),(.bool (.ap 112 (.iv 2) (.iv 5) (.iv 4))),(.str (.ap 113 (.iv 2) (.iv 5) (.iv 4)))]),(.c (.bool (.ap 114 (.iv 2) (.iv 5) (.iv 4))))]) [⟨0,110,[(.slr 2 (.il 0) (.len (.sv 0)) (.il 0)),(.int .i64 (.iv 0)),(.int .i64 (.iv 1)),(.int .i64 (.add (.iv 2) (.len (.ap 113 (.iv 2) (.iv 5) (.iv 4))))),(.int .i64 (.ite (.lt (.iv 3) (.add (.iv 2) (.len (.ap 113 (.iv 2) (.iv 5) (.iv 4))))) (.add (.iv 2) (.len (.ap 113 (.iv 2) (.iv 5) (.iv 4)))) (.iv 3))),(.bool (.bv 0))],true, .none, .no⟩,⟨2,5,[],true,(.some (.sv 0)), .no⟩])]) [[]]):=by kernel_rfl
theorem cj7:smR prog f38 4 (R6 prog [bx6 false] 10 400 4 (.code (y7 f38)) (L3 f38 [.one (.c (.ptr 0 0)), .one (.c (.int .i64 (.iv 4)))] (ro ouS)))=some [(.ret (.tup [(.agg [(.int .i64 (.ap 110 (.iv 1) (.iv 3) (.iv 4))),(.bool (.ap 111 (.iv 1) (.iv 3) (.iv 4))),(.bool (.ap 112 (.iv 1) (.iv 3) (.iv 4))),(.str (.ap 113 (.iv 1) (.iv 3) (.iv 4)))]),(.c (.bool (.ap 114 (.iv 1) (.iv 3) (.iv 4))))]) az0 [])]:=by kernel_rfl
section
variable{w:World}{g:Nat}{F:List Nat}{o:Ou}
theorem OuP.ae8(h:OuP w g F o)(hz:o.all.size<=576460752303423488){a m:Int}{s:ByteArray}(ha: -9223372036854775808<=a/\a<=9223372036854775807)(hm: -9223372036854775808<=m/\m<=9223372036854775807)(hs:s.size<=9223372036854775807):
 ∃ gb cap bytes base,OuI w g gb cap bytes base o a m s/\F=ouF g gb cap:=by
 obtain⟨gb,cap,bytes,base,h1,h2,h3,h4,rfl⟩:=h;exact⟨gb,cap,bytes,base,⟨h1,h2,h3,h4,hz,ha.1,ha.2,hm.1,hm.2,hs⟩,rfl⟩
theorem aU5: -9223372036854775808<=(0:Int)/\(0:Int)<=9223372036854775807:=by decide
theorem aZ4:K4.size<=9223372036854775807:=by decide
theorem dy0(h:OuP w g F o)(hz:o.all.size<=576460752303423488):Calls prog 83 #[.pointer (some ⟨g,0,none⟩)] w (F7 fun v w'=>v= .int .i64 o.una/\Below w.heap.size w w'):=by
 obtain⟨gb,cap,bytes,base,I,rfl⟩:=h.ae8 hz aU5 aU5 aZ4;refine W3 (B:=⟨K5 o bytes base 0 0 K4,fun _=>False,w,ouB g gb cap,4⟩) (sp:=[]) (fun i=>rfl) (fun q hq=>by cases hq) 10 400 func83 rfl [.one (.c (.ptr 0 0))] (ro ouS) _ 4 rfl dT3 (I.md.ro 4) ⟨?_,trivial⟩ rfl;intro _ N w' hH;exact⟨rfl,Sy.Only.R9 hH.only⟩
theorem dy4(h:OuP w g F o)(hz:o.all.size<=576460752303423488):Calls prog 43 #[.pointer (some ⟨g,0,none⟩)] w (F7 fun v w'=>v= .int .i64 o.cur/\Below w.heap.size w w'):=by
 obtain⟨gb,cap,bytes,base,I,rfl⟩:=h.ae8 hz aU5 aU5 aZ4;refine W3 (B:=⟨K5 o bytes base 0 0 K4,fun _=>False,w,ouB g gb cap,4⟩) (sp:=[]) (fun i=>rfl) (fun q hq=>by cases hq) 10 400 func43 rfl [.one (.c (.ptr 0 0))] (ro ouS) _ 4 rfl dh3 (I.md.ro 4) ⟨?_,trivial⟩ rfl;intro _ N w' hH;exact⟨rfl,Sy.Only.R9 hH.only⟩
theorem db6(h:OuP w g F o)(hz:o.all.size<=576460752303423488):Calls prog 41 #[.pointer (some ⟨g,0,none⟩)] w (F7 fun v w'=>v= .int .i64 o.snt/\Below w.heap.size w w'):=by
 obtain⟨gb,cap,bytes,base,I,rfl⟩:=h.ae8 hz aU5 aU5 aZ4;refine W3 (B:=⟨K5 o bytes base 0 0 K4,fun _=>False,w,ouB g gb cap,4⟩) (sp:=[]) (fun i=>rfl) (fun q hq=>by cases hq) 10 400 func41 rfl [.one (.c (.ptr 0 0))] (ro ouS) _ 4 rfl cv3 (I.md.ro 4) ⟨?_,trivial⟩ rfl;intro _ N w' hH;exact⟨rfl,Sy.Only.R9 hH.only⟩
theorem dy3(h:OuP w g F o)(hz:o.all.size<=576460752303423488):Calls prog 88 #[.pointer (some ⟨g,0,none⟩)] w (F7 fun v w'=>v= .int .i64 o.fen/\Below w.heap.size w w'):=by
 obtain⟨gb,cap,bytes,base,I,rfl⟩:=h.ae8 hz aU5 aU5 aZ4;have hr:=I.rel.a21;refine W3 (B:=⟨K5 o bytes base 0 0 K4,fun _=>False,w,ouB g gb cap,4⟩) (sp:=[]) (fun i=>rfl) (fun q hq=>by cases hq) 10 400 func88 rfl [.one (.c (.ptr 0 0))] (ro ouS) _ 4 rfl c11 (I.md.ro 4) ⟨?_,?_,trivial⟩ rfl;all_goals
  intro hpc N w' hH;refine⟨aD3 ?_,Sy.Only.R9 hH.only⟩;replace hpc:A6 (K5 o bytes base 0 0 K4) _:=hpc;simp only[A6,y9,G1,and_true]at hpc;unfold Ou.fen
 .have e:o.shut=true:=hpc;rw[e,a36];show base+(bytes.size:Int)+1=_;omega
 .have e:o.shut=false:=bc.2 hpc;rw[e,aW0];show base+(bytes.size:Int)=_;omega
theorem bg9{base gb cap:Int}{bytes:ByteArray}(I:OqRel o.all bytes o.shut o.una o.cur o.snt base bytes.size o.all.size):(o.all.size:Int) - min (o.all.size:Int) (max 0 (o.una - 1))=(bytes.size:Int):=by
 have:=I.a21;have:=I.hbase;omega
theorem db7(h:OuP w g F o)(hz:o.all.size<=576460752303423488):Calls prog 80 #[.pointer (some ⟨g,0,none⟩)] w (F7 fun v w'=>v= .int .i64 o.aS5/\Below w.heap.size w w'):=by
 obtain⟨gb,cap,bytes,base,I,rfl⟩:=h.ae8 hz aU5 aU5 aZ4;have hr:=bg9 (gb:=0) (cap:=0) I.rel;refine W3 (B:=⟨K5 o bytes base 0 0 K4,fun _=>False,w,ouB g gb cap,4⟩) (sp:=[]) (fun i=>rfl) (fun q hq=>by cases hq) 10 400 func80 rfl [.one (.c (.ptr 0 0))] (ro ouS) _ 4 rfl cv6 (I.md.ro 4) ⟨?_,?_,trivial⟩ rfl;all_goals
  intro hpc N w' hH;refine⟨aD3 ?_,Sy.Only.R9 hH.only⟩;replace hpc:A6 (K5 o bytes base 0 0 K4) _:=hpc;simp only[A6,y9,G1,and_true]at hpc;unfold Ou.aS5
 .have e:o.shut=true:=hpc;rw[e,if_pos rfl];rfl
 .have e:o.shut=false:=bc.2 hpc;rw[e,if_neg bA,hr];rfl
theorem ch0(h:OuP w g F o)(hz:o.all.size<=576460752303423488):Calls prog 79 #[.pointer (some ⟨g,0,none⟩)] w (F7 fun v w'=>v= .tuple #[]/\ay0 w w' g F { o with shut:=true }):=by
 obtain⟨gb,cap,bytes,base,I,rfl⟩:=h.ae8 hz aU5 aU5 aZ4;refine W3 (B:=⟨K5 o bytes base 0 0 K4,fun i=>i∈ouF g gb cap,w,ouB g gb cap,4⟩) (sp:=[]) (fun i=>rfl) (fun q hq=>by cases hq) 10 400 func79 rfl [.one (.c (.ptr 0 0))] ouS _ 4 rfl ck9 I.md ⟨?_,trivial⟩ rfl;intro _ N w' hH;exact⟨rfl,aV9 hH (ae ..) (aj _ (ae ..)) bA rfl rfl rfl rfl rfl I.rel.eU6⟩
theorem db9(h:OuP w g F o)(hz:o.all.size<=576460752303423488):Calls prog 98 #[.pointer (some ⟨g,0,none⟩)] w (F7 fun v w'=>v= .tuple #[]/\ay0 w w' g F { o with cur:=o.una }):=by
 obtain⟨gb,cap,bytes,base,I,rfl⟩:=h.ae8 hz aU5 aU5 aZ4;refine W3 (B:=⟨K5 o bytes base 0 0 K4,fun i=>i∈ouF g gb cap,w,ouB g gb cap,4⟩) (sp:=[]) (fun i=>rfl) (fun q hq=>by cases hq) 10 400 func98 rfl [.one (.c (.ptr 0 0))] ouS _ 4 rfl c59 I.md ⟨?_,trivial⟩ rfl;intro _ N w' hH;exact⟨rfl,aV9 hH (ae ..) (aj _ (ae ..)) bA rfl rfl rfl rfl rfl I.rel.ed1⟩
theorem OqRel.eK4{A bytes:ByteArray}{shut:Bool}{una cur sent base n K:Int}(h:OqRel A bytes shut una cur sent base n K):OqRel A bytes shut una cur sent base n A.size:=⟨h.hbase,h.hn,h.hb,h.a0,h.a1,h.a2,h.a3,h.s1,aF _⟩
theorem cx7(h:OuP w g F o)(hz:o.all.size<=576460752303423488){s:ByteArray}(hs:s.size<=9223372036854775807):Calls prog 71 #[.pointer (some ⟨g,0,none⟩), .string s] w (F7 fun v w'=>v= .int .i64 (min (s.size:Int) o.aS5)/\ay0 w w' g F (o.cZ8 s)):=by
 obtain⟨gb,cap,bytes,base,I,rfl⟩:=h.ae8 hz aU5 aU5 hs;have hl:=bg9 (gb:=0) (cap:=0) I.rel;have h1:=I.rel.s1;refine W3 (B:=⟨K5 o bytes base 0 0 s,fun i=>i∈ouF g gb cap,w,ouB g gb cap,4⟩) (sp:=[]) (fun i=>rfl) (fun q hq=>by cases hq) 10 400 func71 rfl [.one (.c (.ptr 0 0)), .one (.c (.str (.sv 1)))] ouS _ 4 rfl ca6 I.md ⟨?_,?_,?_,?_,?_,?_,trivial⟩ rfl;all_goals intro hpc
 all_goals replace hpc:A6 (K5 o bytes base 0 0 s) _:=hpc
 all_goals simp only[A6,y9,G1,E5,A7,aD5,z7,E9,A0,A8,aG6,and_true]at hpc
 all_goals have es:(K5 o bytes base 0 0 s).s 1=s:=rfl
 all_goals have eb:(K5 o bytes base 0 0 s).s 0=bytes:=rfl
 .show(u9 (K5 o bytes base 0 0 s) _).b=true;simp only[E5,aD5,A7,A0,A8,aG6];split<;>omega
 .show(u9 (K5 o bytes base 0 0 s) _).b=true;simp only[E5,aD5,A7,A0,A8,z7,aG6,eb];split<;>omega
 .intro N w' hH;have e:o.shut=true:=hpc.2.2;have hr:o.aS5=0:=by unfold Ou.aS5;rw[e];rfl
  have hx:(u9 (K5 o bytes base 0 0 s) (.ite (.lt (.il 0) (.len (.sv 1))) (.il 0) (.len (.sv 1)))).i=min (s.size:Int) o.aS5:=by
   simp only[A7,aD5,A0,A8,aG6,hr,es];split<;>omega
  refine⟨aD3 hx,aV9 (o':=o.cZ8 s) hH (aj _ (ae ..)) (ae ..) bA ?_ rfl rfl rfl rfl ?_⟩
  .show((bytes.size:Int)+_)=_;rw[hx,hr];show(bytes.size:Int)+min (s.size:Int) 0=((bytes++s.extract 0 (u9 (K5 o bytes base 0 0 s) (.ite (.lt (.il 0) (.len (.sv 1))) (.il 0) (.len (.sv 1)))).i.toNat).size:Int);rw[hx,hr,aR];simp;omega
  .have:=I.rel.dS2 (s.extract 0 (min (s.size:Int) o.aS5).toNat) (fun _=>by rw[hr];simp;omega) (by rw[hr];simp;omega);have e2:(u9 (K5 o bytes base 0 0 s) (.app (.sv 0) (.cut (.sv 1) (.il 0) (.ite (.lt (.il 0) (.len (.sv 1))) (.il 0) (.len (.sv 1)))))).s=bytes++s.extract 0 (min (s.size:Int) o.aS5).toNat:=by
    show bytes++s.extract 0 (u9 (K5 o bytes base 0 0 s) (.ite (.lt (.il 0) (.len (.sv 1))) (.il 0) (.len (.sv 1)))).i.toNat=_;rw[hx]
   rw[e2,aR];have:=this.eK4;rw[Int.natCast_add];exact this
 .show(u9 (K5 o bytes base 0 0 s) _).b=true;simp only[E5,aD5,A7,A0,A8,E9,aG6];split<;>omega
 .show(u9 (K5 o bytes base 0 0 s) _).b=true;simp only[E5,aD5,A7,A0,A8,z7,E9,aG6,eb];split<;>omega
 .intro N w' hH;have e:o.shut=false:=bc.2 hpc.2.2;have hr:o.aS5=2048 - (bytes.size:Int):=by unfold Ou.aS5;rw[e,if_neg bA,hl]
  have hx:(u9 (K5 o bytes base 0 0 s) (.ite (.lt (.sub (.il 2048) (.len (.sv 0))) (.len (.sv 1))) (.sub (.il 2048) (.len (.sv 0))) (.len (.sv 1)))).i=min (s.size:Int) o.aS5:=by
   simp only[A7,aD5,A0,A8,E9,aG6,hr,es,eb];split<;>omega
  refine⟨aD3 hx,aV9 (o':=o.cZ8 s) hH (aj _ (ae ..)) (ae ..) bA ?_ rfl rfl rfl rfl ?_⟩
  .show((bytes.size:Int)+_)=_;rw[hx,hr];show(bytes.size:Int)+min (s.size:Int) (2048 - (bytes.size:Int))=((bytes++s.extract 0 (u9 (K5 o bytes base 0 0 s) (.ite (.lt (.sub (.il 2048) (.len (.sv 0))) (.len (.sv 1))) (.sub (.il 2048) (.len (.sv 0))) (.len (.sv 1)))).i.toNat).size:Int);rw[hx,hr,aR];simp;omega
  .have:=I.rel.dS2 (s.extract 0 (min (s.size:Int) o.aS5).toNat) (fun q=>by rw[e]at q;cases q) (by rw[hr];simp;omega);have e2:(u9 (K5 o bytes base 0 0 s) (.app (.sv 0) (.cut (.sv 1) (.il 0) (.ite (.lt (.sub (.il 2048) (.len (.sv 0))) (.len (.sv 1))) (.sub (.il 2048) (.len (.sv 0))) (.len (.sv 1)))))).s=bytes++s.extract 0 (min (s.size:Int) o.aS5).toNat:=by
    show bytes++s.extract 0 (u9 (K5 o bytes base 0 0 s) (.ite (.lt (.sub (.il 2048) (.len (.sv 0))) (.len (.sv 1))) (.sub (.il 2048) (.len (.sv 0))) (.len (.sv 1)))).i.toNat=_;rw[hx]
   rw[e2,aR];have:=this.eK4;rw[Int.natCast_add];exact this
theorem Ou.cZ9(o:Ou){lo limit mss:Int}(h0:0<=lo):((o.aD6 lo limit mss).size:Int)=if o.pN lo limit mss\/lo=0 then 0 else pcM ((o.all.size:Int)+1) lo limit mss:=by
 unfold Ou.aD6;split
 .rfl
 .rename_i q;have hl:lo≠0:=fun e=>q (.inr e)
  have hn:¬(limit<=lo\/o.fen<=lo\/mss<1):=fun e=>q (.inl e)
  unfold Ou.fen at hn;have:=aL3 o.shut;have hsz:(o.all.extract (lo - 1).toNat (lo - 1+pcM ((o.all.size:Int)+1) lo limit mss).toNat).size=min (lo - 1+pcM ((o.all.size:Int)+1) lo limit mss).toNat o.all.size - (lo - 1).toNat:=by simp
  rw[hsz];unfold pcM;omega
theorem Ou.cK5(o:Ou){limit mss:Int}(h0:0<=o.cur)(h1:o.cur<=o.fen):o.cur<=o.aB6 limit mss/\o.aB6 limit mss<=o.fen/\o.aB6 limit mss<=max o.cur limit:=by
 have hs:=o.cZ9 (limit:=limit) (mss:=mss) h0;have b1:=aL3 (o.aB5 o.cur limit mss);have b2':=aL3 (o.aI0 o.cur limit mss);unfold Ou.aB6;rw[hs];by_cases q:o.pN o.cur limit mss
 .have e1:o.aB5 o.cur limit mss=false:=by unfold Ou.aB5;exact aH fun e=>e.1 q
  have e2:o.aI0 o.cur limit mss=false:=by unfold Ou.aI0;exact if_pos (.inl q)
  rw[e1,e2,if_pos (.inl q),aW0];omega
 .have q':¬(limit<=o.cur\/o.fen<=o.cur\/mss<1):=q;by_cases z:o.cur=0
  .have e2:o.aI0 o.cur limit mss=false:=by unfold Ou.aI0;exact if_pos (.inr z)
   rw[e2,if_pos (.inr z),aW0];omega
  .have e1:o.aB5 o.cur limit mss=false:=by unfold Ou.aB5;exact aH fun e=>z e.2
   rw[e1,if_neg (fun e=>e.elim q z),aW0];have e2:o.aI0 o.cur limit mss=(o.shut&&decide (o.cur+pcM ((o.all.size:Int)+1) o.cur limit mss=(o.all.size:Int)+1/\(o.all.size:Int)+1<limit)):=by unfold Ou.aI0;exact if_neg fun e=>e.elim q z
   have b3:=aL3 o.shut;have hf:o.fen=(o.all.size:Int)+1+b2 o.shut:=rfl;rw[e2];by_cases r:o.cur+pcM ((o.all.size:Int)+1) o.cur limit mss=(o.all.size:Int)+1/\(o.all.size:Int)+1<limit
   .rw[aD r,Bool.and_true];omega
   .rw[aH r,Bool.and_false,aW0];unfold pcM;omega
theorem db8(h:OuP w g F o)(hz:o.all.size<=576460752303423488){a m:Int}(ha: -9223372036854775808<=a/\a<=9223372036854775807)(hm: -9223372036854775808<=m/\m<=9223372036854775807):
 Calls prog 42 #[.pointer (some ⟨g,0,none⟩), .int .i64 a, .int .i64 m] w (F7 fun v w'=>v=o.pV o.cur a m/\ay0 w w' g F (o.eK3 a m)):=by
 obtain⟨gb,cap,bytes,base,I,rfl⟩:=h.ae8 hz ha hm aZ4;have r1:=I.rel.a0;have r2:=I.rel.a1;have r3:=I.rel.a2;have r4:o.snt<=o.fen:=I.rel.a3;obtain⟨p1,p2,_⟩:=o.cK5 (limit:=a) (mss:=m) U U;refine W3 (B:=⟨K5 o bytes base a m K4,fun i=>i∈ouF g gb cap,w,ouB g gb cap,4⟩) (sp:=[bx6 true]) (fun i=>rfl) (fun q hq=>by rw[ah.1 hq];exact cE5 true I) 10 400 func42 rfl [.one (.c (.ptr 0 0)), .one (.c (.int .i64 (.iv 5))), .one (.c (.int .i64 (.iv 4)))] ouS _ 4 rfl cy4 I.md ⟨?_,?_,?_,?_,trivial⟩ rfl;all_goals
  intro hpc N w' hH;have f1:(u9 (K5 o bytes base a m K4) (.ap 111 (.iv 2) (.iv 5) (.iv 4))).b=o.aB5 o.cur a m:=rfl;have f2:(u9 (K5 o bytes base a m K4) (.ap 112 (.iv 2) (.iv 5) (.iv 4))).b=o.aI0 o.cur a m:=rfl;replace hpc:A6 (K5 o bytes base a m K4) _:=hpc;simp only[A6,y9,f1,f2,and_true,aQ]at hpc;have fb:(u9 (K5 o bytes base a m K4) (.ap 113 (.iv 2) (.iv 5) (.iv 4))).s=o.aD6 o.cur a m:=rfl;have i2:(K5 o bytes base a m K4).i 2=o.cur:=rfl;have i3:(K5 o bytes base a m K4).i 3=o.snt:=rfl;have ee:o.aB6 a m=o.cur+((o.aD6 o.cur a m).size:Int)+b2 (o.aB5 o.cur a m)+b2 (o.aI0 o.cur a m):=rfl;rw[hpc.1,hpc.2]at ee;simp only[a36,aW0]at ee;have hcur:∀ t:Tm,(u9 (K5 o bytes base a m K4) t).i=o.aB6 a m->(u9 (K5 o bytes base a m K4) (.ite (.lt (.iv 3) t) t (.iv 3))).i=max o.snt (o.aB6 a m):=fun t ht=>by
   simp only[aD5,A7,F0,ht,i3];split<;>omega
  refine⟨rfl,aV9 (o':=o.eK3 a m) hH (ae ..) (aj _ (ae ..)) bA rfl rfl ?_ (hcur _ ?_) rfl (I.rel.ed0 p1 p2)⟩;all_goals
   simp only[z7,A0,F0,A8,fb,i2];show _=o.aB6 a m;omega
theorem cx8(h:OuP w g F o)(hz:o.all.size<=576460752303423488){m:Int}(hm: -9223372036854775808<=m/\m<=9223372036854775807):
 Calls prog 38 #[.pointer (some ⟨g,0,none⟩), .int .i64 m] w (F7 fun v w'=>v=o.pV o.una o.snt m/\Below w.heap.size w w'):=by
 obtain⟨gb,cap,bytes,base,I,rfl⟩:=h.ae8 hz aU5 hm aZ4;refine W3 (B:=⟨K5 o bytes base 0 m K4,fun _=>False,w,ouB g gb cap,4⟩) (sp:=[bx6 false]) (fun i=>rfl) (fun q hq=>by rw[ah.1 hq];exact cE5 false I) 10 400 func38 rfl [.one (.c (.ptr 0 0)), .one (.c (.int .i64 (.iv 4)))] (ro ouS) _ 4 rfl cj7 (I.md.ro 4) ⟨?_,trivial⟩ rfl;intro _ N w' hH;exact⟨rfl,Sy.Only.R9 hH.only⟩
theorem dy5(h:OuP w g F o)(hz:o.all.size<=576460752303423488){a:Int}(ha: -9223372036854775808<=a/\a<=9223372036854775807):
 Calls prog 119 #[.pointer (some ⟨g,0,none⟩), .int .i64 a] w (F7 fun v w'=>v= .int .i64 (o.ad1 a)/\ay0 w w' g F (o.ack a)):=by
 obtain⟨gb,cap,bytes,base,I,rfl⟩:=h.ae8 hz ha aU5 aZ4;have hsz:=I.rel.a21;have r1:=I.rel.a0;have r2:=I.rel.s1;have i1:(K5 o bytes base a 0 K4).i 1=o.una:=rfl;have i2:(K5 o bytes base a 0 K4).i 2=o.cur:=rfl;have i3:(K5 o bytes base a 0 K4).i 3=o.snt:=rfl;have i0:(K5 o bytes base a 0 K4).i 0=base:=rfl;have i5:(K5 o bytes base a 0 K4).i 5=a:=rfl;have es:(K5 o bytes base a 0 K4).s 0=bytes:=rfl;have hmin:(u9 (K5 o bytes base a 0 K4) (.sub (.ite (.lt (.add (.iv 0) (.len (.sv 0))) (.iv 5)) (.add (.iv 0) (.len (.sv 0))) (.iv 5)) (.iv 0))).i=min (base+(bytes.size:Int)) a - base:=by
  simp only[E9,aD5,A7,z7,A8,F0,aG6,i0,i5,es];split<;>omega
 have hmax:(u9 (K5 o bytes base a 0 K4) (.ite (.lt (.iv 2) (.iv 5)) (.iv 5) (.iv 2))).i=max o.cur a:=by
  simp only[aD5,A7,F0,i2,i5];split<;>omega
 refine W3 (B:=⟨K5 o bytes base a 0 K4,fun i=>i∈ouF g gb cap,w,ouB g gb cap,4⟩) (sp:=[]) (fun i=>rfl) (fun q hq=>by cases hq) 10 400 func119 rfl [.one (.c (.ptr 0 0)), .one (.c (.int .i64 (.iv 5)))] ouS _ 4 rfl dk4 I.md ⟨?_,?_,?_,?_,?_,?_,?_,trivial⟩ rfl;all_goals intro hpc
 all_goals replace hpc:A6 (K5 o bytes base a 0 K4) _:=hpc
 all_goals simp only[A6,y9,E5,A7,hmin,F0,A0,i1,i3,i5,and_true]at hpc
 all_goals try generalize hk:(Tm.sub (.ite (.lt (.add (.iv 0) (.len (.sv 0))) (.iv 5)) (.add (.iv 0) (.len (.sv 0))) (.iv 5)) (.iv 0))=k at*
 .intro N w' hH;have e:a<o.una+1\/o.snt<a:= .inr hpc.1;have:=aV9 (o':=o) hH (ae ..) (aj _ (ae ..)) bA rfl rfl rfl rfl rfl I.rel;unfold Ou.ad1 Ou.ack;rw[if_pos e,if_pos e];exact⟨rfl,this⟩
 .show(u9 (K5 o bytes base a 0 K4) _).b=true;simp only[E5,A8,aG6,hmin,es];omega
 .show(u9 (K5 o bytes base a 0 K4) _).b=true;simp only[E5,A8,z7,E9,aG6,hmin,es];omega
 .show(u9 (K5 o bytes base a 0 K4) _).b=true;simp only[E5,A8,A0];show(((bytes.extract (u9 (K5 o bytes base a 0 K4) k).i.toNat _).size:Nat):Int)<=_;have:(bytes.extract (u9 (K5 o bytes base a 0 K4) k).i.toNat (u9 (K5 o bytes base a 0 K4) (.add k (.sub (.len (.sv 0)) k))).i.toNat).size<=bytes.size:=by simp;omega
  omega
 .intro N w' hH;have e:¬(a<o.una+1\/o.snt<a):=by omega
  unfold Ou.ad1 Ou.ack;rw[if_neg e,if_neg e];have ed:(u9 (K5 o bytes base a 0 K4) (.add k (.sub (.len (.sv 0)) k))).i=(bytes.size:Int):=by
   simp only[z7,E9,A8,aG6,es];omega
  have rr:=I.rel.ed2 (k:=a) (d:=(u9 (K5 o bytes base a 0 K4) k).i) U U (hmin) U (e:=(u9 (K5 o bytes base a 0 K4) (.add k (.sub (.len (.sv 0)) k))).i) ed rfl;exact⟨rfl,aV9 (o':= { o with una:=a,cur:=max o.cur a }) hH (aj _ (ae ..)) (ae ..) bA rfl rfl hmax rfl rfl rr⟩
 .intro N w' hH;have e:¬(a<o.una+1\/o.snt<a):=by omega
  unfold Ou.ad1 Ou.ack;rw[if_neg e,if_neg e];have rr:=I.rel.ed3 (k:=a) U U U;exact⟨rfl,aV9 (o':= { o with una:=a,cur:=max o.cur a }) hH (ae ..) (aj _ (ae ..)) bA rfl rfl hmax rfl rfl rr⟩
 .intro N w' hH;have e:a<o.una+1\/o.snt<a:= .inl U;have:=aV9 (o':=o) hH (ae ..) (aj _ (ae ..)) bA rfl rfl rfl rfl rfl I.rel;unfold Ou.ad1 Ou.ack;rw[if_pos e,if_pos e];exact⟨rfl,this⟩
end
end Go.Proofs.YtnlcpcmdlcakgaaGreat
