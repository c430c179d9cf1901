/- A part of the proof that a connection answers as the document says: SyA. -/
import Derived.IntWalk
import Derived.OwnWalk
import Derived.Deep.Draws
import Derived.Test.YtnlcpcmdlcakgaaGreatKh00
set_option maxRecDepth 100000
set_option maxHeartbeats 4000000
set_option linter.unusedVariables false
set_option linter.unusedSimpArgs false
set_option linter.unusedSectionVars false
namespace Go.Proofs.YtnlcpcmdlcakgaaGreat
namespace Sy
open Go
structure Dn where
 i:Int
 b:Bool
 s:ByteArray
 c:List (List Value)
inductive Kd where
 | int (k:IntKind)|bool|str|ptr|sls
 deriving Repr,Inhabited
inductive TO where
 | nil|app|cut|len|set|get (k:Kd) (f:Nat)|row|cons (k:Kd)|eq|clr|mix (n:Nat)|mput (n:Nat)|mdel (n:Nat)|str
 deriving Repr,Inhabited
inductive Tm where
 | iv (n:Nat)|il (n:Int)
 | add (x y:Tm)|sub (x y:Tm)|mul (x y:Tm)|dv (x y:Tm)|md (x y:Tm)|quo (x y:Tm)|rem (x y:Tm)|pw (x:Tm)
 | wrap (k:IntKind) (x:Tm)
 | bop (o:BinOp) (k:IntKind) (x y:Tm)
 | len (s:Tm)|byte (s i:Tm)
 | ap (f:Nat) (x y z:Tm)
 | bv (n:Nat)|bl (b:Bool)|lt (x y:Tm)|le (x y:Tm)|eq (x y:Tm)|not (x:Tm)|and (x y:Tm)|or (x y:Tm)|seq (s t:Tm)|bq (x y:Tm)
 | ite (c x y:Tm)
 | sv (n:Nat)|sl (l:List UInt8)|cut (s lo hi:Tm)|app (s t:Tm)|chr (x:Tm)
 | cv (n:Nat)|tb (o:TO) (x y z:Tm)
 deriving Repr,Inhabited
structure Thing where
 P:World->Nat->(Nat->Prop)->List (List Value)->Prop
 keep:∀{w w':World} {g:Nat} {F:Nat->Prop} {c:List (List Value)},P w g F c->(∀ i,F i->w'.heap[i]? =w.heap[i]?)->P w' g F c
 lt:∀{w:World} {g:Nat} {F:Nat->Prop} {c:List (List Value)},P w g F c->∀ i,F i->i<w.heap.size
 root:∀{w:World} {g:Nat} {F:Nat->Prop} {c:List (List Value)},P w g F c->F g
def Thing.a20:Thing:=⟨fun _ _ _ _=>False,fun h=>h.elim,fun h=>h.elim,fun h=>h.elim⟩
structure Env where
 i:Nat->Int
 b:Nat->Bool
 s:Nat->ByteArray
 f:Nat->Dn->Dn->Dn->Dn
 v:Nat->Value
 u:Nat->Value
 c:Nat->List (List Value)
 o:Nat->Thing:=fun _=>Thing.a20
def K4:ByteArray:=⟨#[]⟩
def dI(n:Int):Dn:=⟨n,false,K4,[]⟩
def dB(b:Bool):Dn:=⟨0,b,K4,[]⟩
def dS(s:ByteArray):Dn:=⟨0,false,s,[]⟩
def dC(c:List (List Value)):Dn:=⟨0,false,K4,c⟩
def slV:Value->Value
 | .slice a n c=> .slice a n c
 | _=> .slice none 0 0
def aF3:Kd->Value->Dn
 | .int k, .int _ n=>dI (k.wrap n)
 | .bool, .bool b=>dB b
 | .str, .string s=>dS (if s.size<=9223372036854775807 then s else K4)
 | .ptr, .pointer (some a)=>dI a.block
 | .sls,v=>dC [[slV v]]
 | _,_=>dI 0
def mkV:Kd->Dn->Value
 | .int k,x=> .int k x.i
 | .bool,x=> .bool x.b
 | .str,x=> .string x.s
 | .ptr,x=> .pointer (some ⟨x.i.toNat,0,none⟩)
 | .sls,x=>slV ((x.c.headD []).headD (.bool false))
def sqI:Int->Int->Bool
 | .ofNat a, .ofNat b=>Nat.beq a b
 | .negSucc a, .negSucc b=>Nat.beq a b
 | _,_=>false
def kN:IntKind->Nat
 | .i8=>0| .i16=>1| .i32=>2| .i64=>3| .u8=>4| .u16=>5| .u32=>6| .u64=>7
def sqV:Value->Value->Bool
 | .int k m, .int l n=>Nat.beq (kN k) (kN l)&&sqI m n
 | .bool a, .bool b=>a==b
 | .string s, .string t=>s.data.toList==t.data.toList
 | .pointer (some a), .pointer (some b)=>Nat.beq a.block b.block
 | .slice a n c, .slice b m d=>decide (a=b)&&(Nat.beq n m&&Nat.beq c d)
 | _,_=>true
def sqR:List Value->List Value->Bool
 | [],[]=>true
 | a::x,b::y=>sqV a b&&sqR x y
 | _,_=>false
def sqT:List (List Value)->List (List Value)->Bool
 | [],[]=>true
 | a::x,b::y=>sqR a b&&sqT x y
 | _,_=>false
def dQ5:Value->Value
 | .int k _=> .int k 0
 | .bool _=> .bool false
 | .string _=> .string K4
 | v=>v
def an1(r:List Value):List Value:=r.map dQ5
def fM(n:Nat)(k:List Value):List (List Value)->Option Nat
 | []=>none
 | r::l=>if sqR (r.take n) k then some 0 else(fM n k l).map (· +1)
def ad0(n:Nat)(r:List Value)(l:List (List Value)):List (List Value):=match fM n (r.take n) l with
 | some i=>l.set i r
 | none=>l++[r]
def cV3(n:Nat)(k:List Value)(l:List (List Value)):List (List Value):=match fM n k l with
 | some i=>l.eraseIdx i
 | none=>l
def mIx(n:Nat)(k:List Value)(l:List (List Value)):Int:=match fM n k l with
 | some i=>(i:Int)
 | none=> -1
def a14(l:List (List Value)):ByteArray:=⟨(l.map fun r=>match r with
 | [.int _ n]=>UInt8.ofNat n.toNat
 | _=>0).toArray⟩
def tbF:TO->Dn->Dn->Dn->Dn
 | .str,x,_,_=>dS (a14 x.c)
 | .mix n,x,y,_=>dI (mIx n (y.c.headD []) x.c)
 | .mput n,x,y,_=>dC (ad0 n (y.c.headD []) x.c)
 | .mdel n,x,y,_=>dC (cV3 n (y.c.headD []) x.c)
 | .clr,x,y,_=>dC (x.c.take y.i.toNat++(x.c.drop y.i.toNat).map an1)
 | .nil,_,_,_=>dC []
 | .app,x,y,_=>dC (x.c++y.c)
 | .cut,x,y,z=>dC ((x.c.drop y.i.toNat).take (z.i.toNat - y.i.toNat))
 | .len,x,_,_=>dI (x.c.length:Int)
 | .set,x,y,z=>dC (x.c.set y.i.toNat (z.c.headD []))
 | .get k f,x,y,_=>aF3 k ((x.c.getD y.i.toNat []).getD f (.bool false))
 | .row,_,_,_=>dC [[]]
 | .cons k,x,y,_=>dC [mkV k x::y.c.headD []]
 | .eq,x,y,_=>dB (sqT x.c y.c)
def Y4(s:ByteArray)(i:Int):Int:=((s.data.toList.getD i.toNat 0).toNat:Int)
def ac2(n:Int):ByteArray:=⟨#[UInt8.ofNat (n % 256).toNat]⟩
def u9(J:Env):Tm->Dn
 | .iv n=>dI (J.i n)
 | .il n=>dI n
 | .add x y=>dI ((u9 J x).i+(u9 J y).i)
 | .sub x y=>dI ((u9 J x).i - (u9 J y).i)
 | .mul x y=>dI ((u9 J x).i*(u9 J y).i)
 | .dv x y=>dI ((u9 J x).i /(u9 J y).i)
 | .md x y=>dI ((u9 J x).i % (u9 J y).i)
 | .quo x y=>dI ((u9 J x).i.tdiv (u9 J y).i)
 | .rem x y=>dI ((u9 J x).i.tmod (u9 J y).i)
 | .pw x=>dI (2 ^ (u9 J x).i.toNat)
 | .wrap k x=>dI (k.wrap (u9 J x).i)
 | .bop o k x y=>dI (bits o k (u9 J x).i (u9 J y).i)
 | .len s=>dI ((u9 J s).s.size:Int)
 | .byte s i=>dI (Y4 (u9 J s).s (u9 J i).i)
 | .ap f x y z=>J.f f (u9 J x) (u9 J y) (u9 J z)
 | .bv n=>dB (J.b n)
 | .bl b=>dB b
 | .lt x y=>dB (decide ((u9 J x).i<(u9 J y).i))
 | .le x y=>dB (decide ((u9 J x).i<=(u9 J y).i))
 | .eq x y=>dB ((u9 J x).i==(u9 J y).i)
 | .not x=>dB (!(u9 J x).b)
 | .and x y=>dB ((u9 J x).b&&(u9 J y).b)
 | .or x y=>dB ((u9 J x).b||(u9 J y).b)
 | .seq s t=>dB ((u9 J s).s.toList==(u9 J t).s.toList)
 | .bq x y=>dB ((u9 J x).b==(u9 J y).b)
 | .ite c x y=>if(u9 J c).b then u9 J x else u9 J y
 | .sv n=>dS (J.s n)
 | .sl l=>dS ⟨l.toArray⟩
 | .cut s lo hi=>dS ((u9 J s).s.extract (u9 J lo).i.toNat (u9 J hi).i.toNat)
 | .app s t=>dS ((u9 J s).s++(u9 J t).s)
 | .chr x=>dS (ac2 (u9 J x).i)
 | .cv n=>dC (J.c n)
 | .tb o x y z=>tbF o (u9 J x) (u9 J y) (u9 J z)
def kNo:IntKind->Nat
 | .i8=>0| .i16=>1| .i32=>2| .i64=>3| .u8=>4| .u16=>5| .u32=>6| .u64=>7
theorem ac1{a b:IntKind}(h:kNo a=kNo b):a=b:=by cases a<;>cases b<;>simp_all[kNo]
def oNo:BinOp->Nat
 | .add=>0| .sub=>1| .mul=>2| .quo=>3| .rem=>4| .and=>5| .or=>6| .xor=>7| .shl=>8| .shr=>9| .andNot=>10
 | .eql=>11| .neq=>12| .lss=>13| .leq=>14| .gtr=>15| .geq=>16
theorem dn5{a b:BinOp}(h:oNo a=oNo b):a=b:=by cases a<;>cases b<;>simp_all[oNo]
def aP6:Int->Int->Bool
 | .ofNat a, .ofNat b=>Nat.beq a b
 | .negSucc a, .negSucc b=>Nat.beq a b
 | _,_=>false
theorem aF8{a b:Int}(h:aP6 a b=true):a=b:=by
 cases a<;>cases b<;>simp_all[aP6]
def ai7:List UInt8->List UInt8->Bool
 | [],[]=>true
 | a::x,b::y=>Nat.beq a.toNat b.toNat&&ai7 x y
 | _,_=>false
theorem bR7:∀{a b:List UInt8},ai7 a b=true->a=b
 | [],[],_=>rfl
 | a::x,b::y,h=>by
   rw[ai7,m5]at h;have h1:=UInt8.toNat_inj.1 (af h.1);rw[bR7 h.2,h1]
 | [],_::_,h=>by simp[ai7]at h
 | _::_,[],h=>by simp[ai7]at h
def ab4:Kd->Kd->Bool
 | .int k, .int l=>Nat.beq (kNo k) (kNo l)
 | .bool, .bool=>true
 | .str, .str=>true
 | .ptr, .ptr=>true
 | .sls, .sls=>true
 | _,_=>false
theorem aw5{a b:Kd}(h:ab4 a b=true):a=b:=by
 cases a<;>cases b<;>simp only[ab4]at h<;>first
  | rfl
  | (cases h;done)
  | rw[ac1 (af h)]
def cS8:TO->TO->Bool
 | .nil, .nil=>true
 | .app, .app=>true
 | .cut, .cut=>true
 | .len, .len=>true
 | .set, .set=>true
 | .get k f, .get l g=>ab4 k l&&Nat.beq f g
 | .row, .row=>true
 | .cons k, .cons l=>ab4 k l
 | .eq, .eq=>true
 | .clr, .clr=>true
 | .str, .str=>true
 | .mix n, .mix m=>Nat.beq n m
 | .mput n, .mput m=>Nat.beq n m
 | .mdel n, .mdel m=>Nat.beq n m
 | _,_=>false
theorem dB3{a b:TO}(h:cS8 a b=true):a=b:=by
 cases a<;>cases b<;>simp only[cS8,m5]at h<;>first
  | rfl
  | (cases h;done)
  | rw[aw5 h.1,af h.2]
  | rw[aw5 h]
  | rw[af h]
def E7:Tm->Tm->Bool
 | .iv a, .iv b=>Nat.beq a b
 | .il a, .il b=>aP6 a b
 | .add a b, .add c d=>E7 a c&&E7 b d
 | .sub a b, .sub c d=>E7 a c&&E7 b d
 | .mul a b, .mul c d=>E7 a c&&E7 b d
 | .dv a b, .dv c d=>E7 a c&&E7 b d
 | .md a b, .md c d=>E7 a c&&E7 b d
 | .quo a b, .quo c d=>E7 a c&&E7 b d
 | .rem a b, .rem c d=>E7 a c&&E7 b d
 | .pw a, .pw b=>E7 a b
 | .wrap k a, .wrap l b=>Nat.beq (kNo k) (kNo l)&&E7 a b
 | .bop o k a b, .bop p l c d=>Nat.beq (oNo o) (oNo p)&&(Nat.beq (kNo k) (kNo l)&&(E7 a c&&E7 b d))
 | .len a, .len b=>E7 a b
 | .byte a b, .byte c d=>E7 a c&&E7 b d
 | .ap f a b c, .ap g d e h=>Nat.beq f g&&(E7 a d&&(E7 b e&&E7 c h))
 | .bv a, .bv b=>Nat.beq a b
 | .bl a, .bl b=>match a,b with|true,true=>true|false,false=>true|_,_=>false
 | .lt a b, .lt c d=>E7 a c&&E7 b d
 | .le a b, .le c d=>E7 a c&&E7 b d
 | .eq a b, .eq c d=>E7 a c&&E7 b d
 | .not a, .not b=>E7 a b
 | .and a b, .and c d=>E7 a c&&E7 b d
 | .or a b, .or c d=>E7 a c&&E7 b d
 | .seq a b, .seq c d=>E7 a c&&E7 b d
 | .bq a b, .bq c d=>E7 a c&&E7 b d
 | .ite a b c, .ite d e f=>E7 a d&&(E7 b e&&E7 c f)
 | .sv a, .sv b=>Nat.beq a b
 | .sl a, .sl b=>ai7 a b
 | .cut a b c, .cut d e f=>E7 a d&&(E7 b e&&E7 c f)
 | .app a b, .app c d=>E7 a c&&E7 b d
 | .chr a, .chr b=>E7 a b
 | .cv a, .cv b=>Nat.beq a b
 | .tb f a b c, .tb g d e h=>cS8 f g&&(E7 a d&&(E7 b e&&E7 c h))
 | _,_=>false
theorem H9:∀{a b:Tm},E7 a b=true->a=b:=by
 intro a
 induction a with
 | il n=>intro b h;cases b<;>simp_all[E7];exact aF8 h
 | wrap k x ih=>intro b h;cases b<;>simp[E7]at h;exact by rw[ac1 h.1,ih h.2]
 | bop o k x y ih1 ih2=>intro b h;cases b<;>simp[E7]at h;exact by rw[dn5 h.1,ac1 h.2.1,ih1 h.2.2.1,ih2 h.2.2.2]
 | ap f x y z i1 i2 i3=>intro b h;cases b<;>simp[E7]at h;exact by rw[h.1,i1 h.2.1,i2 h.2.2.1,i3 h.2.2.2]
 | tb f x y z i1 i2 i3=>intro b h;cases b<;>simp[E7]at h;exact by rw[dB3 h.1,i1 h.2.1,i2 h.2.2.1,i3 h.2.2.2]
 | cv n=>intro b h;cases b<;>simp_all[E7]
 | bl p=>intro b h;cases b<;>simp[E7]at h;rename_i q;cases p<;>cases q<;>simp_all
 | sl l=>intro b h;cases b<;>simp[E7]at h;exact by rw[bR7 h]
 | iv n=>intro b h;cases b<;>simp_all[E7]
 | bv n=>intro b h;cases b<;>simp_all[E7]
 | sv n=>intro b h;cases b<;>simp_all[E7]
 | pw x ih=>intro b h;cases b<;>simp[E7]at h;rw[ih h]
 | len x ih=>intro b h;cases b<;>simp[E7]at h;rw[ih h]
 | not x ih=>intro b h;cases b<;>simp[E7]at h;rw[ih h]
 | chr x ih=>intro b h;cases b<;>simp[E7]at h;rw[ih h]
 | ite c x y i1 i2 i3=>intro b h;cases b<;>simp[E7]at h;rw[i1 h.1,i2 h.2.1,i3 h.2.2]
 | cut c x y i1 i2 i3=>intro b h;cases b<;>simp[E7]at h;rw[i1 h.1,i2 h.2.1,i3 h.2.2]
 | add x y i1 i2=>intro b h;cases b<;>simp[E7]at h;rw[i1 h.1,i2 h.2]
 | sub x y i1 i2=>intro b h;cases b<;>simp[E7]at h;rw[i1 h.1,i2 h.2]
 | mul x y i1 i2=>intro b h;cases b<;>simp[E7]at h;rw[i1 h.1,i2 h.2]
 | dv x y i1 i2=>intro b h;cases b<;>simp[E7]at h;rw[i1 h.1,i2 h.2]
 | md x y i1 i2=>intro b h;cases b<;>simp[E7]at h;rw[i1 h.1,i2 h.2]
 | quo x y i1 i2=>intro b h;cases b<;>simp[E7]at h;rw[i1 h.1,i2 h.2]
 | rem x y i1 i2=>intro b h;cases b<;>simp[E7]at h;rw[i1 h.1,i2 h.2]
 | byte x y i1 i2=>intro b h;cases b<;>simp[E7]at h;rw[i1 h.1,i2 h.2]
 | lt x y i1 i2=>intro b h;cases b<;>simp[E7]at h;rw[i1 h.1,i2 h.2]
 | le x y i1 i2=>intro b h;cases b<;>simp[E7]at h;rw[i1 h.1,i2 h.2]
 | eq x y i1 i2=>intro b h;cases b<;>simp[E7]at h;rw[i1 h.1,i2 h.2]
 | and x y i1 i2=>intro b h;cases b<;>simp[E7]at h;rw[i1 h.1,i2 h.2]
 | or x y i1 i2=>intro b h;cases b<;>simp[E7]at h;rw[i1 h.1,i2 h.2]
 | seq x y i1 i2=>intro b h;cases b<;>simp[E7]at h;rw[i1 h.1,i2 h.2]
 | bq x y i1 i2=>intro b h;cases b<;>simp[E7]at h;rw[i1 h.1,i2 h.2]
 | app x y i1 i2=>intro b h;cases b<;>simp[E7]at h;rw[i1 h.1,i2 h.2]
structure Bd where
 t:Tm
 lo:Int
 hi:Int
 deriving Repr,Inhabited
def Bd.ok(J:Env)(x:Bd):Prop:=x.lo<=(u9 J x.t).i/\(u9 J x.t).i<=x.hi
def X5(J:Env)(bs:List Bd):Prop:=∀ x∈bs,x.ok J
def Y6(a b:Int):Bool:=decide (a<=b)
abbrev Rg:=Option (Int × Int)
def Rg.ok(r:Rg)(n:Int):Prop:=∀ lo hi,r=some (lo,hi)->lo<=n/\n<=hi
theorem Rg.aD9(n:Int):Rg.ok none n:=fun _ _ h=>by cases h
theorem Rg.X7{lo hi n:Int}(h:lo<=n/\n<=hi):Rg.ok (some (lo,hi)) n:=fun a b e=>by
 injection e with e;injection e with e1 e2;subst e1 e2;exact h
def bj9(a b:Int):Int:=if Y6 a b then b else a
def bS3(a b:Int):Int:=if Y6 a b then a else b
theorem do3{a b n:Int}(h1:a<=n)(h2:b<=n):bj9 a b<=n:=by unfold bj9;split<;>assumption
theorem cJ2{a b n:Int}(h1:n<=a)(h2:n<=b):n<=bS3 a b:=by unfold bS3;split<;>assumption
theorem cI6{a b n:Int}(h:a<=n\/b<=n):bS3 a b<=n:=by
 unfold bS3 Y6;split<;>rename_i q<;>simp at q<;>omega
theorem cJ3{a b n:Int}(h:n<=a\/n<=b):n<=bj9 a b:=by
 unfold bj9 Y6;split<;>rename_i q<;>simp at q<;>omega
def aV1:Rg->Rg->Rg
 | none,r=>r
 | r,none=>r
 | some (a,b),some (c,d)=>some (bj9 a c,bS3 b d)
theorem aG4{r s:Rg}{n:Int}(h1:r.ok n)(h2:s.ok n):(aV1 r s).ok n:=by
 cases r with
 | none=>exact h2
 | some p=>
   cases s with
   | none=>exact h1
   | some q=>
     have a:=h1 _ _ rfl;have b:=h2 _ _ rfl;exact Rg.X7 ⟨do3 a.1 b.1,cJ2 a.2 b.2⟩
def aR9(t:Tm):List Bd->Rg
 | []=>none
 | x::bs=>if E7 t x.t then aV1 (some (x.lo,x.hi)) (aR9 t bs)else aR9 t bs
theorem aD4{J:Env}{t:Tm}:∀{bs:List Bd},X5 J bs->(aR9 t bs).ok (u9 J t).i
 | [],_=>Rg.aD9 _
 | x::bs,h=>by
   unfold aR9;have ih:=aD4 (t:=t) (bs:=bs) fun y hy=>h y (aj _ hy)
   split
   .rename_i e;have:=H9 e;subst this;exact aG4 (Rg.X7 (h x (ae ..))) ih
   .exact ih
def aQ0:IntKind->Int
 | .i8=> -128| .i16=> -32768| .i32=> -2147483648| .i64=> -9223372036854775808|_=>0
def aQ1:IntKind->Int
 | .i8=>127| .i16=>32767| .i32=>2147483647| .i64=>9223372036854775807| .u8=>255| .u16=>65535| .u32=>4294967295| .u64=>18446744073709551615
theorem aU9{k:IntKind}{n:Int}(h:aQ0 k<=n)(h':n<=aQ1 k):k.wrap n=n:=by
 cases k<;>simp only[aQ0,aQ1]at h h'
 .exact IntWalk.i8_in _ ⟨h,h'⟩
 .exact IntWalk.i16_in _ ⟨h,h'⟩
 .exact IntWalk.i32_in _ ⟨h,h'⟩
 .exact IntWalk.i64_in _ ⟨h,h'⟩
 .exact IntWalk.u8_in _ ⟨h,h'⟩
 .exact IntWalk.u16_in _ ⟨h,h'⟩
 .exact IntWalk.u32_in _ ⟨h,h'⟩
 .exact IntWalk.u64_in _ ⟨h,h'⟩
theorem a40(k:IntKind)(n:Int):aQ0 k<=k.wrap n/\k.wrap n<=aQ1 k:=by
 cases k<;>simp only[aQ0,aQ1,IntKind.wrap,IntKind.bits,IntKind.signed]<;>simp<;>(try split)<;>omega
theorem dq3(o:BinOp)(k:IntKind)(x y:Int):aQ0 k<=bits o k x y/\bits o k x y<=aQ1 k:=a40 k _
def cT8:Rg->Rg->Rg
 | some (a,b),some (c,d)=>some (a+c,b+d)
 | _,_=>none
def dC0:Rg->Rg->Rg
 | some (a,b),some (c,d)=>some (a - d,b - c)
 | _,_=>none
def dC3:Rg->Rg->Rg
 | some (a,b),some (c,d)=>if Y6 0 a&&Y6 0 c then some (a*c,b*d)else if Y6 0 c&&Y6 c d&&Y6 d c then some (a*c,b*c)else none
 | _,_=>none
def rDv:Rg->Rg->Rg
 | some (a,b),some (c,d)=>if Y6 1 c&&Y6 d c then some (a /c,b /c)else if Y6 1 c&&Y6 0 a then some (0,b)else none
 | _,_=>none
def rMd:Rg->Rg->Rg
 | some (a,b),some (c,d)=>if Y6 1 c then(if Y6 0 a then some (0,bS3 b (d - 1))else some (0,d - 1))else none
 | none,some (c,d)=>if Y6 1 c then some (0,d - 1)else none
 | _,_=>none
def dC2:Rg->Rg->Rg
 | some (a,b),some (c,d)=>if Y6 1 c&&Y6 0 a then some (0,b)else none
 | _,_=>none
def dC1:Rg->Rg->Rg
 | some (a,b),some (c,d)=>if Y6 1 c then(if Y6 0 a then some (0,d - 1)else some (1 - d,d - 1))else none
 | none,some (c,d)=>if Y6 1 c then some (1 - d,d - 1)else none
 | _,_=>none
def cT7:Rg->Rg->Rg
 | some (a,b),some (c,d)=>some (bS3 a c,bj9 b d)
 | _,_=>none
theorem cI0{r s:Rg}{x y:Int}(h1:r.ok x)(h2:s.ok y):(cT8 r s).ok (x+y):=by
 unfold cT8;split
 .have a:=h1 _ _ rfl;have b:=h2 _ _ rfl;exact Rg.X7 U
 .exact Rg.aD9 _
theorem dm9{r s:Rg}{x y:Int}(h1:r.ok x)(h2:s.ok y):(dC0 r s).ok (x - y):=by
 unfold dC0;split
 .have a:=h1 _ _ rfl;have b:=h2 _ _ rfl;exact Rg.X7 U
 .exact Rg.aD9 _
theorem dn2{r s:Rg}{x y:Int}(h1:r.ok x)(h2:s.ok y):(dC3 r s).ok (x*y):=by
 unfold dC3;split
 .have a:=h1 _ _ rfl;have b:=h2 _ _ rfl;split
  .rename_i q;simp[Y6]at q;exact Rg.X7 ⟨Int.mul_le_mul a.1 b.1 q.2 U,Int.mul_le_mul a.2 b.2 U U⟩
  .split
   .rename_i q;simp[Y6]at q;have hy:y=_:=Int.le_antisymm (bw b.2 q.2) b.1;subst hy;exact Rg.X7 ⟨Int.mul_le_mul_of_nonneg_right a.1 q.1.1,Int.mul_le_mul_of_nonneg_right a.2 q.1.1⟩
   .exact Rg.aD9 _
 .exact Rg.aD9 _
theorem eG1{r s:Rg}{x y:Int}(h1:r.ok x)(h2:s.ok y):(rDv r s).ok (x /y):=by
 unfold rDv;split
 .have a:=h1 _ _ rfl;have b:=h2 _ _ rfl;split
  .rename_i q;simp[Y6]at q;have hy:y=_:=Int.le_antisymm (bw b.2 q.2) b.1;subst hy;exact Rg.X7 ⟨Int.ediv_le_ediv U a.1,Int.ediv_le_ediv U a.2⟩
  .split
   .rename_i q;simp[Y6]at q;exact Rg.X7 ⟨Int.ediv_nonneg U U,bw (Int.ediv_le_self _ U) a.2⟩
   .exact Rg.aD9 _
 .exact Rg.aD9 _
theorem eG0{r s:Rg}{x y:Int}(h1:r.ok x)(h2:s.ok y):(rMd r s).ok (x % y):=by
 unfold rMd;split
 .have a:=h1 _ _ rfl;have b:=h2 _ _ rfl;split
  .rename_i q;simp[Y6]at q;have e1:=Int.emod_nonneg x (show y≠0 by omega);have e2:=Int.emod_lt_of_pos x (show 0<y by omega);split
   .rename_i q2;simp[Y6]at q2;have e3:x % y<=x:=by
     have:=Int.emod_add_mul_ediv x y;have h3:0<=x /y:=Int.ediv_nonneg U U;have h4:0<=y*(x /y):=Int.mul_nonneg U h3;omega
    exact Rg.X7 ⟨e1,cJ2 U U⟩
   .exact Rg.X7 ⟨e1,by omega⟩
  .exact Rg.aD9 _
 .have b:=h2 _ _ rfl;split
  .rename_i q;simp[Y6]at q;have e1:=Int.emod_nonneg x (show y≠0 by omega);have e2:=Int.emod_lt_of_pos x (show 0<y by omega);exact Rg.X7 ⟨e1,by omega⟩
  .exact Rg.aD9 _
 .exact Rg.aD9 _
theorem dn1{r s:Rg}{x y:Int}(h1:r.ok x)(h2:s.ok y):(dC2 r s).ok (x.tdiv y):=by
 unfold dC2;split
 .have a:=h1 _ _ rfl;have b:=h2 _ _ rfl;split
  .rename_i q;simp[Y6]at q;rw[Int.tdiv_eq_ediv_of_nonneg U];exact Rg.X7 ⟨Int.ediv_nonneg U U,bw (Int.ediv_le_self _ U) a.2⟩
  .exact Rg.aD9 _
 .exact Rg.aD9 _
theorem cG9(x y d:Int)(h:1<=y)(hd:y<=d):1 - d<=x.tmod y/\x.tmod y<=d - 1:=by
 rcases Int.le_total 0 x with hx|hx
 .rw[Int.tmod_eq_emod_of_nonneg hx];have e1:=Int.emod_nonneg x (show y≠0 by omega);have e2:=Int.emod_lt_of_pos x (show 0<y by omega);omega
 .have e:x.tmod y= -((-x) % y):=by
   rw[<-Int.tmod_eq_emod_of_nonneg (show 0<= -x by omega),Int.neg_tmod];omega
  have e1:=Int.emod_nonneg (-x) (show y≠0 by omega);have e2:=Int.emod_lt_of_pos (-x) (show 0<y by omega);omega
theorem dn0{r s:Rg}{x y:Int}(h1:r.ok x)(h2:s.ok y):(dC1 r s).ok (x.tmod y):=by
 unfold dC1;split
 .have a:=h1 _ _ rfl;have b:=h2 _ _ rfl;split
  .rename_i q;simp[Y6]at q;split
   .rename_i q2;simp[Y6]at q2;rw[Int.tmod_eq_emod_of_nonneg U];have e1:=Int.emod_nonneg x (show y≠0 by omega);have e2:=Int.emod_lt_of_pos x (show 0<y by omega);exact Rg.X7 ⟨by omega,by omega⟩
   .exact Rg.X7 (cG9 _ _ _ U U)
  .exact Rg.aD9 _
 .have b:=h2 _ _ rfl;split
  .rename_i q;simp[Y6]at q;exact Rg.X7 (cG9 _ _ _ U U)
  .exact Rg.aD9 _
 .exact Rg.aD9 _
theorem cH9{r s:Rg}{x y:Int}(c:Bool)(h1:r.ok x)(h2:s.ok y):(cT7 r s).ok (if c then x else y):=by
 unfold cT7;split
 .have a:=h1 _ _ rfl;have b:=h2 _ _ rfl;cases c
  .exact Rg.X7 ⟨cI6 (.inr b.1),cJ3 (.inr b.2)⟩
  .exact Rg.X7 ⟨cI6 (.inl a.1),cJ3 (.inl a.2)⟩
 .exact Rg.aD9 _
def rPw:Rg->Rg
 | some (a,b)=>if Y6 0 a&&Y6 b 64 then some (1,(2:Int) ^ b.toNat)else none
 | none=>none
theorem eF9{r:Rg}{x:Int}(h:r.ok x):(rPw r).ok (2 ^ x.toNat):=by
 unfold rPw;split
 .have a:=h _ _ rfl;split
  .rename_i q;refine Rg.X7 ⟨?_,?_⟩
   .have:0<2 ^ x.toNat:=Nat.pow_pos (by decide:0<2);have e:((2 ^ x.toNat:Nat):Int)=(2:Int) ^ x.toNat:=by simp
    omega
   .have e:∀ m:Nat,((2 ^ m:Nat):Int)=(2:Int) ^ m:=fun m=>by simp
    rw[<-e,<-e];exact Int.ofNat_le.2 (Nat.pow_le_pow_right (by decide:0<2) (Int.toNat_le_toNat a.2))
  .exact Rg.aD9 _
 .exact Rg.aD9 _
def cT6(k:IntKind):Rg->Rg
 | some (a,b)=>if Y6 (aQ0 k) a&&Y6 b (aQ1 k)then some (a,b)else some (aQ0 k,aQ1 k)
 | none=>some (aQ0 k,aQ1 k)
theorem dB9{k:IntKind}{r:Rg}{x:Int}(h:r.ok x):(cT6 k r).ok (k.wrap x):=by
 unfold cT6;split
 .have a:=h _ _ rfl;split
  .rename_i q;simp[Y6]at q;rw[aU9 U U];exact Rg.X7 a
  .exact Rg.X7 (a40 _ _)
 .exact Rg.X7 (a40 _ _)
def bj3(bs:List Bd):Tm->Rg
 | .sl l=>some ((l.length:Int),(l.length:Int))
 | .chr _=>some (1,1)
 | .app s t=>aV1 (cT8 (bj3 bs s) (bj3 bs t)) (aR9 (.len (.app s t)) bs)
 | .ite c x y=>aV1 (cT7 (bj3 bs x) (bj3 bs y)) (aR9 (.len (.ite c x y)) bs)
 | .tb (.get .str f) x y z=>aV1 (some (0,9223372036854775807)) (aR9 (.len (.tb (.get .str f) x y z)) bs)
 | t=>aR9 (.len t) bs
def rng(bs:List Bd):Tm->Rg
 | .il n=>some (n,n)
 | .add x y=>aV1 (cT8 (rng bs x) (rng bs y)) (aR9 (.add x y) bs)
 | .sub x y=>aV1 (dC0 (rng bs x) (rng bs y)) (aR9 (.sub x y) bs)
 | .mul x y=>aV1 (dC3 (rng bs x) (rng bs y)) (aR9 (.mul x y) bs)
 | .dv x y=>aV1 (rDv (rng bs x) (rng bs y)) (aR9 (.dv x y) bs)
 | .md x y=>aV1 (rMd (rng bs x) (rng bs y)) (aR9 (.md x y) bs)
 | .quo x y=>aV1 (dC2 (rng bs x) (rng bs y)) (aR9 (.quo x y) bs)
 | .rem x y=>aV1 (dC1 (rng bs x) (rng bs y)) (aR9 (.rem x y) bs)
 | .pw x=>rPw (rng bs x)
 | .wrap k x=>aV1 (cT6 k (rng bs x)) (aR9 (.wrap k x) bs)
 | .bop o k x y=>aV1 (some (aQ0 k,aQ1 k)) (aR9 (.bop o k x y) bs)
 | .len s=>bj3 bs s
 | .byte s i=>aV1 (some (0,255)) (aR9 (.byte s i) bs)
 | .ite c x y=>aV1 (cT7 (rng bs x) (rng bs y)) (aR9 (.ite c x y) bs)
 | .tb (.get (.int k) f) x y z=>aV1 (some (aQ0 k,aQ1 k)) (aR9 (.tb (.get (.int k) f) x y z) bs)
 | t=>aR9 t bs
theorem cr3(s:ByteArray)(i:Int):0<=Y4 s i/\Y4 s i<=255:=by
 unfold Y4;have:=(s.data.toList.getD i.toNat 0).toNat_lt;omega
theorem dp2(k:IntKind)(v:Value):aQ0 k<=(aF3 (.int k) v).i/\(aF3 (.int k) v).i<=aQ1 k:=by
 cases v<;>first
  | exact a40 _ _
  | (show aQ0 k<=0/\0<=aQ1 k;cases k<;>decide)
theorem dq2(s:ByteArray):(if s.size<=9223372036854775807 then s else K4).size<=9223372036854775807:=by
 by_cases h:s.size<=9223372036854775807
 .rw[if_pos h];exact h
 .rw[if_neg h];exact bf _
theorem dF3(v:Value):(aF3 .str v).s.size<=9223372036854775807:=by
 cases v with
 | string s=>exact dq2 s
 | _=>exact bf _
theorem do9(v:Value):(0:Int)<=((aF3 .str v).s.size:Int)/\((aF3 .str v).s.size:Int)<=9223372036854775807:=by
 have:=dF3 v;omega
theorem cp9(c:Bool)(x y:Dn):(if c then x else y).i=if c then x.i else y.i:=by cases c<;>rfl
theorem eH0(c:Bool)(x y:Dn):(if c then x else y).s=if c then x.s else y.s:=by cases c<;>rfl
theorem dm6{J:Env}{bs:List Bd}(h:X5 J bs)(t:Tm):(bj3 bs t).ok ((u9 J t).s.size:Int):=by
 induction t with
 | sl l=>exact Rg.X7 (by show _<=((l.toArray.size:Nat):Int)/\((l.toArray.size:Nat):Int)<=_;simp)
 | chr x _=>exact Rg.X7 ⟨aF _,aF _⟩
 | app s t i1 i2=>
   refine aG4 ?_ (aD4 (t:= .len (.app s t)) h);have:=cI0 i1 i2;show Rg.ok _ ((((u9 J s).s++(u9 J t).s).size:Nat):Int);rw[aR];simpa using this
 | ite c x y _ i1 i2=>
   refine aG4 ?_ (aD4 (t:= .len (.ite c x y)) h);have:=cH9 (u9 J c).b i1 i2;show Rg.ok _ (((if(u9 J c).b then u9 J x else u9 J y).s.size:Nat):Int);cases hc:(u9 J c).b<;>simpa[hc]using this
 | tb o x y z _ _ _=>
   cases o with
   | get k f=>
     cases k with
     | str=>exact aG4 (Rg.X7 (do9 _)) (aD4 (t:= .len (.tb (.get .str f) x y z)) h)
     | _=>exact aD4 (t:= .len _) h
   | _=>exact aD4 (t:= .len _) h
 | _=>exact aD4 (t:= .len _) h
theorem aK6{J:Env}{bs:List Bd}(h:X5 J bs)(t:Tm):(rng bs t).ok (u9 J t).i:=by
 induction t with
 | il n=>exact Rg.X7 ⟨aF _,aF _⟩
 | add x y i1 i2=>exact aG4 (cI0 i1 i2) (aD4 (t:= .add x y) h)
 | sub x y i1 i2=>exact aG4 (dm9 i1 i2) (aD4 (t:= .sub x y) h)
 | mul x y i1 i2=>exact aG4 (dn2 i1 i2) (aD4 (t:= .mul x y) h)
 | dv x y i1 i2=>exact aG4 (eG1 i1 i2) (aD4 (t:= .dv x y) h)
 | md x y i1 i2=>exact aG4 (eG0 i1 i2) (aD4 (t:= .md x y) h)
 | quo x y i1 i2=>exact aG4 (dn1 i1 i2) (aD4 (t:= .quo x y) h)
 | rem x y i1 i2=>exact aG4 (dn0 i1 i2) (aD4 (t:= .rem x y) h)
 | pw x i1=>exact eF9 i1
 | wrap k x i1=>exact aG4 (dB9 i1) (aD4 (t:= .wrap k x) h)
 | bop o k x y _ _=>exact aG4 (Rg.X7 (dq3 _ _ _ _)) (aD4 (t:= .bop o k x y) h)
 | len s _=>exact dm6 h s
 | byte s i _ _=>exact aG4 (Rg.X7 (cr3 _ _)) (aD4 (t:= .byte s i) h)
 | ite c x y _ i1 i2=>
   refine aG4 ?_ (aD4 (t:= .ite c x y) h);have:=cH9 (u9 J c).b i1 i2;show Rg.ok _ (if(u9 J c).b then u9 J x else u9 J y).i;rw[cp9];exact this
 | tb o x y z _ _ _=>
   cases o with
   | get k f=>
     cases k with
     | int k=>exact aG4 (Rg.X7 (dp2 _ _)) (aD4 (t:= .tb (.get (.int k) f) x y z) h)
     | _=>exact aD4 h
   | _=>exact aD4 h
 | _=>exact aD4 h
def aC4:Tm->Option Int
 | .il n=>some n
 | _=>none
theorem U8{t:Tm}{n:Int}(h:aC4 t=some n):t= .il n:=by
 cases t<;>simp[aC4]at h;rw[h]
def a49(x:Tm)(b:Int):Tm:=
 match x with
 | .add u (.il c)=>if aP6 (c+b) 0 then u else .add u (.il (c+b))
 | .sub u (.il c)=>if aP6 (b - c) 0 then u else .add u (.il (b - c))
 | x=> .add x (.il b)
theorem az8(J:Env)(x:Tm)(b:Int):(u9 J (a49 x b)).i=(u9 J x).i+b:=by
 unfold a49;split
 .rename_i u c;split
  .rename_i q;have:=aF8 q;show(u9 J u).i=((u9 J u).i+c)+b;omega
  .show(u9 J u).i+(c+b)=((u9 J u).i+c)+b;omega
 .rename_i u c;split
  .rename_i q;have:=aF8 q;show(u9 J u).i=((u9 J u).i - c)+b;omega
  .show(u9 J u).i+(b - c)=((u9 J u).i - c)+b;omega
 .rfl
def cZ0(x y:Tm):Tm:=
 match y with
 | .add v (.il d)=>a49 (.add x v) d
 | y=> .add x y
theorem cK1(J:Env)(x y:Tm):(u9 J (cZ0 x y)).i=(u9 J x).i+(u9 J y).i:=by
 unfold cZ0;split
 .rename_i v d;rw[az8];show(u9 J x).i+(u9 J v).i+d=(u9 J x).i+((u9 J v).i+d);omega
 .rfl
def dI1(x y:Tm):Tm:=
 match x with
 | .add u (.il c)=>a49 (cZ0 u y) c
 | x=>cZ0 x y
theorem dq9(J:Env)(x y:Tm):(u9 J (dI1 x y)).i=(u9 J x).i+(u9 J y).i:=by
 unfold dI1;split
 .rename_i u c;rw[az8,cK1];show(u9 J u).i+(u9 J y).i+c=(u9 J u).i+c+(u9 J y).i;omega
 .exact cK1 ..
def U0(x y:Tm):Tm:=
 match aC4 x,aC4 y with
 | some a,some b=> .il (a+b)
 | some a,none=>if aP6 a 0 then y else a49 y a
 | none,some b=>if aP6 b 0 then x else a49 x b
 | none,none=>dI1 x y
theorem X2(J:Env)(x y:Tm):(u9 J (U0 x y)).i=(u9 J x).i+(u9 J y).i:=by
 unfold U0;split
 .rename_i h1 h2;rw[U8 h1,U8 h2];rfl
 .rename_i h1 h2;rw[U8 h1];split
  .rename_i q;rw[aF8 q];show _=(0:Int)+_;omega
  .rw[az8];show _+_=_+_;exact Int.add_comm ..
 .rename_i h1 h2;rw[U8 h2];split
  .rename_i q;rw[aF8 q];show _=_+(0:Int);omega
  .exact az8 J x _
 .exact dq9 ..
def b61(x y:Tm):Tm:=
 match x with
 | .add u (.il c)=>if E7 u y then .il c else .sub (.add u (.il c)) y
 | x=> .sub x y
theorem cp5(J:Env)(x y:Tm):(u9 J (b61 x y)).i=(u9 J x).i - (u9 J y).i:=by
 unfold b61;split
 .rename_i u c;split
  .rename_i q;rw[H9 q];show c=((u9 J y).i+c) - (u9 J y).i;omega
  .rfl
 .rfl
def bR9(y:Tm):Tm->Option Tm
 | .add a b=>if E7 b y then some a else if E7 a y then some b else match bR9 y a with
   | some a'=>some (U0 a' b)
   | none=>match bR9 y b with
     | some b'=>some (U0 a b')
     | none=>none
 | _=>none
theorem dm8{J:Env}{y:Tm}:∀{x t:Tm},bR9 y x=some t->(u9 J t).i=(u9 J x).i - (u9 J y).i:=by
 intro x
 induction x with
 | add a b i1 i2=>
   intro t h;have e:(u9 J (.add a b)).i=(u9 J a).i+(u9 J b).i:=rfl;simp only[bR9]at h;split at h
   .rename_i q;injection h with h;subst h;rw[e,H9 q];omega
   .split at h
    .rename_i q;injection h with h;subst h;rw[e,H9 q];omega
    .split at h
     .rename_i a' ha;injection h with h;subst h;rw[X2,i1 ha,e];omega
     .split at h
      .rename_i b' hb;injection h with h;subst h;rw[X2,i2 hb,e];omega
      .cases h
 | _=>intro t h;cases h
def b26(x:Tm):Tm->Option Tm
 | .add u v=>match b26 x u with
   | some x'=>match v with
     | .il b=>some (U0 x' (.il (-b)))
     | v=>if E7 x' v then some (.il 0)else bR9 v x'
   | none=>none
 | y=>if E7 x y then some (.il 0)else bR9 y x
theorem b25{J:Env}{x y t:Tm}(h:(if E7 x y then some (.il 0)else bR9 y x)=some t):(u9 J t).i=(u9 J x).i - (u9 J y).i:=by
 split at h
 .rename_i q;injection h with h;subst h;rw[H9 q];show(0:Int)=_;omega
 .exact dm8 h
theorem cH3{J:Env}{x:Tm}:∀{y t:Tm},b26 x y=some t->(u9 J t).i=(u9 J x).i - (u9 J y).i:=by
 intro y
 induction y with
 | add u v i1 i2=>
   intro t h;have e:(u9 J (.add u v)).i=(u9 J u).i+(u9 J v).i:=rfl;simp only[b26]at h;split at h
   .rename_i x' hx;have h1:=i1 hx;split at h
    .rename_i b;injection h with h;subst h;rw[X2,e,h1];show _+ -b=_ - (_+b);omega
    .have:=b25 (J:=J) h;omega
   .cases h
 | _=>intro t h;exact b25 h
def b60(x y:Tm):Tm:=
 match b26 x y with
 | some t=>t
 | none=>match b26 y x with
   | some t=> .sub (.il 0) t
   | none=>b61 x y
theorem cp4(J:Env)(x y:Tm):(u9 J (b60 x y)).i=(u9 J x).i - (u9 J y).i:=by
 unfold b60;split
 .rename_i t h;exact cH3 h
 .split
  .rename_i t h;have:=cH3 (J:=J) h;show(0:Int) - (u9 J t).i=_;omega
  .exact cp5 J x y
def aB0(x y:Tm):Tm:=
 match aC4 y with
 | some b=>U0 x (.il (-b))
 | none=>if E7 x y then .il 0 else b60 x y
theorem aA6(J:Env)(x y:Tm):(u9 J (aB0 x y)).i=(u9 J x).i - (u9 J y).i:=by
 unfold aB0;split
 .rename_i b h;rw[U8 h,X2];show(u9 J x).i+ -b=(u9 J x).i - b;omega
 .split
  .rename_i q;rw[H9 q];show(0:Int)=_;omega
  .exact cp4 J x y
def bb5(x y:Tm):Tm:=
 match aC4 x,aC4 y with
 | some a,some b=> .il (a*b)
 | some a,none=>if aP6 a 1 then y else if aP6 a 0 then .il 0 else .mul x y
 | none,some b=>if aP6 b 1 then x else if aP6 b 0 then .il 0 else .mul x y
 | none,none=> .mul x y
theorem bS2(J:Env)(x y:Tm):(u9 J (bb5 x y)).i=(u9 J x).i*(u9 J y).i:=by
 unfold bb5;split
 .rename_i h1 h2;rw[U8 h1,U8 h2];rfl
 .rename_i h1 h2;rw[U8 h1];split
  .rename_i q;rw[aF8 q];show _=(1:Int)*_;omega
  .split
   .rename_i q;rw[aF8 q];show(0:Int)=(0:Int)*_;omega
   .rfl
 .rename_i h1 h2;rw[U8 h2];split
  .rename_i q;rw[aF8 q];show _=_*(1:Int);omega
  .split
   .rename_i q;rw[aF8 q];show(0:Int)=_*(0:Int);omega
   .rfl
 .rfl
def bk2(a b:Int):Bool:=decide (a<=b)
def dv1(z:Tm)(b:Int):Tm:=
 match z with
 | .dv z' (.il a)=>if bk2 1 a&&bk2 1 b then .dv z' (.il (a*b))else .dv z (.il b)
 | _=> .dv z (.il b)
theorem cq6(J:Env)(z:Tm)(b:Int):(u9 J (dv1 z b)).i=(u9 J z).i /b:=by
 unfold dv1;split
 .rename_i z' a;split
  .rename_i q;simp only[bk2,m5,aB]at q;show(u9 J z').i /(a*b)=(u9 J z').i /a /b;rw[Int.ediv_ediv_of_nonneg U]
  .rfl
 .rfl
theorem eT8{x m b:Int}(hb:1<=b)(hm:1<=m)(hd:m % b=0):x % m /b=x /b % (m /b):=by
 obtain⟨k,hk⟩:=Int.dvd_of_emod_eq_zero hd;have hk1:m /b=k:=by rw[hk,Int.mul_ediv_cancel_left _ U]
 have h1:x % (b*k)=x - b*k*(x /(b*k)):=Int.emod_def ..;have h2:x /(b*k)=x /b /k:=(Int.ediv_ediv_of_nonneg U).symm;have h3:x /b % k=x /b - k*(x /b /k):=Int.emod_def ..;rw[hk1,hk];rw[h1,h2,h3,show x - b*k*(x /b /k)=x+b*(-(k*(x /b /k)))from by rw[Int.mul_neg,<-Int.mul_assoc];omega,Int.add_mul_ediv_left _ _ U];omega
def cU9(x y:Tm):Tm:=
 match aC4 x,aC4 y with
 | some a,some b=> .il (a /b)
 | none,some b=>
   if aP6 b 1 then x
   else
    match x with
    | .md z (.il m)=>if bk2 1 b&&(bk2 1 m&&aP6 (m % b) 0)then .md (dv1 z b) (.il (m /b))else .dv x y
    | x=>dv1 x b
 | _,_=> .dv x y
theorem cI5(J:Env)(x y:Tm):(u9 J (cU9 x y)).i=(u9 J x).i /(u9 J y).i:=by
 unfold cU9;split
 .rename_i h1 h2;rw[U8 h1,U8 h2];rfl
 .rename_i h1 h2;rw[U8 h2];split
  .rename_i q;rw[aF8 q];show _=_ /(1:Int);rw[Int.ediv_one]
  .split
   .rename_i z m;split
    .rename_i q;simp only[bk2,m5,aB]at q;show(u9 J (dv1 z _)).i % (m /_)=(u9 J z).i % m /_;rw[cq6];exact(eT8 q.1 q.2.1 (aF8 q.2.2)).symm
    .rfl
   .exact cq6 ..
 .rfl
def cU8(x:Tm):Tm:=
 match aC4 x with
 | some a=> .il (2 ^ a.toNat)
 | none=> .pw x
theorem cI2(J:Env)(x:Tm):(u9 J (cU8 x)).i=2 ^ (u9 J x).i.toNat:=by
 unfold cU8;split
 .rename_i h;rw[U8 h];rfl
 .rfl
def dF5(k:IntKind):Rg->Bool
 | some (a,b)=>Y6 (aQ0 k) a&&Y6 b (aQ1 k)
 | none=>false
theorem dp3{k:IntKind}{r:Rg}{n:Int}(h:dF5 k r=true)(hr:r.ok n):aQ0 k<=n/\n<=aQ1 k:=by
 unfold dF5 at h;split at h
 .have:=hr _ _ rfl;simp[Y6]at h;omega
 .cases h
def bb4:Rg->Bool
 | some (a,_)=>Y6 0 a
 | none=>false
theorem bo5{r:Rg}{n:Int}(h:bb4 r=true)(hr:r.ok n):0<=n:=by
 unfold bb4 at h;split at h
 .have:=hr _ _ rfl;simp[Y6]at h;omega
 .cases h
def cU7(bs:List Bd)(x y:Tm):Tm:=if bb4 (rng bs x)then cU9 x y else .quo x y
theorem dD2{J:Env}{bs:List Bd}(hb:X5 J bs)(x y:Tm):(u9 J (cU7 bs x y)).i=(u9 J x).i.tdiv (u9 J y).i:=by
 unfold cU7;split
 .rename_i q;rw[cI5,Int.tdiv_eq_ediv_of_nonneg (bo5 q (aK6 hb x))]
 .rfl
def cY4:Rg->Rg->Bool
 | some (a,b),some (c,_)=>Y6 0 a&&Y6 (b+1) c
 | _,_=>false
theorem dH3{r s:Rg}{m n:Int}(h:cY4 r s=true)(hr:r.ok m)(hs:s.ok n):0<=m/\m<n:=by
 unfold cY4 at h;split at h
 .have a:=hr _ _ rfl;have b:=hs _ _ rfl;simp[Y6]at h;omega
 .cases h
def md1(bs:List Bd)(x y:Tm):Tm:=if cY4 (rng bs x) (rng bs y)then x else .md x y
theorem bb7{J:Env}{bs:List Bd}(hb:X5 J bs)(x y:Tm):(u9 J (md1 bs x y)).i=(u9 J x).i % (u9 J y).i:=by
 unfold md1;split
 .rename_i q;have:=dH3 q (aK6 hb x) (aK6 hb y);rw[Int.emod_eq_of_lt this.1 this.2]
 .rfl
def bj7(bs:List Bd)(x y:Tm):Tm:=
 match aC4 x,aC4 y with
 | some a,some b=> .il (a % b)
 | none,some k=>
   match x with
   | .md z (.il m)=>if aP6 (m % k) 0 then md1 bs z (.il k)else md1 bs x y
   | x=>md1 bs x y
 | _,_=>md1 bs x y
theorem bL4{J:Env}{bs:List Bd}(hb:X5 J bs)(x y:Tm):(u9 J (bj7 bs x y)).i=(u9 J x).i % (u9 J y).i:=by
 unfold bj7;split
 .rename_i h1 h2;rw[U8 h1,U8 h2];rfl
 .rename_i h1 h2;split
  .rename_i z m;split
   .rename_i q;rw[bb7 hb,U8 h2];show _ % _=(u9 J z).i % m % _;exact(Int.emod_emod_of_dvd _ (Int.dvd_of_emod_eq_zero (aF8 q))).symm
   .exact bb7 hb ..
  .exact bb7 hb ..
 .exact bb7 hb ..
def ad5(bs:List Bd)(k:IntKind)(x:Tm):Tm:=
 match aC4 x with
 | some a=> .il (k.wrap a)
 | none=>if dF5 k (rng bs x)then x else(match k with
   | .u8=>bj7 bs x (.il 256)
   | .u16=>bj7 bs x (.il 65536)
   | .u32=>bj7 bs x (.il 4294967296)
   | k=> .wrap k x)
theorem aV3{J:Env}{bs:List Bd}(hb:X5 J bs)(k:IntKind)(x:Tm):(u9 J (ad5 bs k x)).i=k.wrap (u9 J x).i:=by
 unfold ad5;split
 .rename_i h;rw[U8 h];rfl
 .split
  .rename_i q;have:=dp3 q (aK6 hb x);rw[aU9 this.1 this.2]
  .split
   .rw[bL4 hb];show _ % (256:Int)=_;simp[IntKind.wrap,IntKind.bits,IntKind.signed]
   .rw[bL4 hb];show _ % (65536:Int)=_;simp[IntKind.wrap,IntKind.bits,IntKind.signed]
   .rw[bL4 hb];show _ % (4294967296:Int)=_;simp[IntKind.wrap,IntKind.bits,IntKind.signed]
   .rfl
def cU6(bs:List Bd)(x y:Tm):Tm:=if bb4 (rng bs x)then bj7 bs x y else .rem x y
theorem dD1{J:Env}{bs:List Bd}(hb:X5 J bs)(x y:Tm):(u9 J (cU6 bs x y)).i=(u9 J x).i.tmod (u9 J y).i:=by
 unfold cU6;split
 .rename_i q;rw[bL4 hb,Int.tmod_eq_emod_of_nonneg (bo5 q (aK6 hb x))]
 .rfl
def bA9(o:BinOp)(k:IntKind)(x y:Tm):Tm:=
 match aC4 x,aC4 y with
 | some a,some b=> .il (bits o k a b)
 | _,_=> .bop o k x y
theorem aw9(J:Env)(o:BinOp)(k:IntKind)(x y:Tm):(u9 J (bA9 o k x y)).i=bits o k (u9 J x).i (u9 J y).i:=by
 unfold bA9;split
 .rename_i h1 h2;rw[U8 h1,U8 h2];rfl
 .rfl
abbrev qag:Tm:= .ite (.lt (.add (.iv 3) (.iv 7)) (.ite (.lt (.add (.add (.iv 3) (.iv 7)) (.il 1)) (.iv 1)) (.add (.add (.iv 3) (.iv 7)) (.il 1)) (.iv 1))) (.add (.iv 3) (.iv 7)) (.ite (.lt (.add (.add (.iv 3) (.iv 7)) (.il 1)) (.iv 1)) (.add (.add (.iv 3) (.iv 7)) (.il 1)) (.iv 1))
abbrev qam:Tm:= .ite (.lt (.add (.iv 3) (.iv 7)) (.ite (.lt (.add (.iv 3) (.iv 7)) (.iv 1)) (.add (.iv 3) (.iv 7)) (.iv 1))) (.add (.iv 3) (.iv 7)) (.ite (.lt (.add (.iv 3) (.iv 7)) (.iv 1)) (.add (.iv 3) (.iv 7)) (.iv 1))
abbrev qan:Tm:= .add (.add (.len (.sv 0)) (.ite (.bv 0) (.il 1) (.il 0))) (.ite (.bv 2) (.il 1) (.il 0))
abbrev qao:Tm:= .tb .row (.il 0) (.il 0) (.il 0)
abbrev qar:Tm:= .ap 91 (.il 4) (.cv 0) (.il 0)
abbrev qat:Tm:= .ap 92 (.il 28) (.cv 0) (.bl false)
abbrev qau:Tm:= .sub (.iv 0) (.iv 3)
abbrev qax:TO:= .cons (.int .i64)
abbrev qay:Tm:= .sub (.wrap .i64 (.add (.iv 0) (.iv 2))) (.iv 3)
abbrev qa2:Tm:= .ap 120 (.ap 92 (.il 28) (.ap 92 (.il 18) (.cv 0) (.bl true)) (.bl true)) (.il 0) (.il 0)
abbrev qa9:Tm:= .len (.sv 1)
abbrev qbc:Tm:= .tb .app (.cv 2) (.tb (.cons (.int .u32)) (.iv 5) qao (.il 0)) (.il 0)
abbrev qbh:Tm:= .ap 120 (.ap 92 (.il 28) (.ap 91 (.il 5) qar (.il 17)) (.bl false)) (.il 0) (.il 0)
abbrev qbi:Tm:= .ap 120 (.ap 92 (.il 28) (.ap 91 (.il 5) qar (.il 17)) (.bl true)) (.il 0) (.il 0)
abbrev qbj:Tm:= .ite (.lt (.add (.add (.iv 3) (.iv 7)) (.il 1)) (.iv 1)) (.add (.add (.iv 3) (.iv 7)) (.il 1)) (.iv 1)
abbrev qbm:Tm:= .lt (.il 1000) (.len (.sv 0))
abbrev qb9:TO:= .cons (.int .u32)
abbrev qca:Tm:= .il 4294967296
abbrev qbo:Tm:= .len (.sv 0)
abbrev qbr:Tm:= .ap 120 qat (.il 0) (.il 0)
abbrev qbx:Tm:= .tb .nil (.il 0) (.il 0) (.il 0)
abbrev qb1:Tm:= .lt (.iv 0) (.il 0)
abbrev qb2:Tm:= .il 9223372036854775807
abbrev qb4:TO:= .cons .bool
abbrev qcb:Tm:= .il 140737488355328
abbrev qck:Tm:= .il 1099511627776
abbrev qct:Tm:= .ap 92 (.il 23) (.ap 91 (.il 4) (.cv 0) (.il 8)) (.bl true)
abbrev qcu:Tm:= .ap 92 (.il 23) (.ap 91 (.il 4) (.cv 0) (.il 4)) (.bl true)
abbrev qcv:Tm:= .add (.iv 3) (.iv 7)
abbrev qda:Tm:= .add qbo (.ite (.bv 0) (.il 1) (.il 0))
abbrev qdf:Tm:= .eq (.iv 23) (.il 0)
abbrev qdh:Tm:= .add qau (.sub qay qau)
abbrev qd4:Tm:= .add qau (.sub (.sub qag (.iv 3)) qau)
abbrev qd6:Tm:= .ap 91 (.il 5) qar (.il 0)
abbrev qd7:Tm:= .ap 92 (.il 23) (.cv 0) (.bl true)
abbrev qea:Tm:= .le (.il 0) qau
abbrev qef:Tm:= .ap 120 (.ap 92 (.il 28) (.ap 92 (.il 18) (.cv 0) (.not (.bv 3))) (.bl true)) (.il 0) (.il 0)
abbrev qei:Tm:= .sub qam (.iv 3)
abbrev qen:Tm:= .add (.iv 1) (.il (-1))
abbrev qes:Tm:= .ap 120 (.ap 92 (.il 28) (.ap 91 (.il 5) qar (.il 11)) (.bl false)) (.il 0) (.il 0)
abbrev qev:Tm:= .ap 120 (.ap 92 (.il 28) (.ap 91 (.il 5) qar (.il 12)) (.bl true)) (.il 0) (.il 0)
abbrev qe6:Tm:= .add qbo (.il 1)
abbrev qfd:Tm:= .ite (.lt (.il 0) (.sub (.iv 1) (.iv 3))) (.sub (.iv 1) (.iv 3)) (.il 0)
abbrev qfh:Tm:= .wrap .i64 (.add (.iv 0) (.iv 2))
abbrev qfi:Tm:= .il 576460752303423488
abbrev qfj:Tm:= .tb (.cons .str) (.sv 0) (.tb qb4 (.bv 2) qao (.il 0)) (.il 0)
abbrev qfm:Tm:= .ap 30 (.cv 0) (.iv 0) (.il 0)
abbrev qfp:Tm:= .add (.iv 3) (.il 1)
abbrev qfq:Tm:= .add (.iv 0) (.iv 4)
abbrev qft:Tm:= .ap 120 (.ap 92 (.il 28) qd7 (.bl false)) (.il 0) (.il 0)
abbrev qfu:Tm:= .ap 120 (.ap 92 (.il 28) qcu (.bl false)) (.il 0) (.il 0)
abbrev qfv:Tm:= .ap 120 (.ap 92 (.il 28) qct (.bl false)) (.il 0) (.il 0)
abbrev qfw:Tm:= .ap 120 (.ap 92 (.il 28) qd7 (.bl true)) (.il 0) (.il 0)
abbrev qfx:Tm:= .ap 120 (.ap 92 (.il 28) qd6 (.bl true)) (.il 0) (.il 0)
abbrev qfz:Tm:= .ap 120 (.ap 92 (.il 28) qcu (.bl true)) (.il 0) (.il 0)
abbrev qf0:Tm:= .ap 120 (.ap 92 (.il 28) qct (.bl true)) (.il 0) (.il 0)
abbrev qf1:Tm:= .lt (.iv 2) (.il 1)
abbrev qf2:Tm:= .lt (.il 0) (.iv 1)
abbrev qf3:Tm:= .eq (.iv 5) (.il 0)
abbrev qf4:Tm:= .eq (.iv 0) (.il 0)
abbrev qgf:Tm:= .sub qag (.iv 3)
abbrev qgh:Tm:= .add qau (.sub qei qau)
abbrev qgk:Tm:= .le qay (.iv 7)
abbrev qgu:Tm:= .eq qbo (.il 0)
abbrev qgy:Tm:= .eq qan (.il 0)
abbrev qg2:Tm:= .sub (.iv 1) (.iv 0)
abbrev qg4:Tm:= .cut (.sv 0) qau qdh
abbrev qg5:Tm:= .add (.iv 7) (.il 1)
abbrev qg7:Tm:= .lt (.il 0) (.iv 5)
abbrev qg8:Tm:= .eq (.iv 7) (.il 0)
abbrev i9:Tm:= .il 0
abbrev j5:Tm:= .cv 1
abbrev j6:Tm:= .cv 2
abbrev j8:Tm:= .cv 0
abbrev j9:Tm:= .iv 0
abbrev l4:Tm:= .bl false
abbrev l6:Tm:= .bl true
abbrev l7:Tm:= .sv 0
abbrev l8:Tm:= .iv 5
abbrev l9:Tm:= .il 1
abbrev m8:Tm:= .iv 1
abbrev m9:Tm:= .iv 2
abbrev n7:Tm:= .iv 3
abbrev n8:Tm:= .iv 4
abbrev n9:Tm:= .sv 1
abbrev o6:Tm:= .il 28
abbrev o7:Tm:= .il 2048
abbrev o8:Tm:= .iv 7
abbrev o9:Tm:= .bv 0
abbrev p7:Tm:= .iv 6
abbrev p9:Tm:= .sl []
abbrev s5:Tm:= .cv 5
abbrev s6:Tm:= .iv 8
abbrev s7:Tm:= .cv 6
abbrev s8:Tm:= .il 4
abbrev s9:Tm:= .iv 21
abbrev u0:Tm:= .il 2
abbrev u7:Tm:= .il 65535
end Sy
end Go.Proofs.YtnlcpcmdlcakgaaGreat
