/- A part of the proof that a connection answers as the document says: SyG SyH. -/
import Derived.Test.YtnlcpcmdlcakgaaGreatKh03
set_option maxRecDepth 100000
set_option maxHeartbeats 4000000
set_option linter.unusedVariables false
set_option linter.unusedSimpArgs false
set_option linter.unusedSectionVars false
namespace Go.Proofs.YtnlcpcmdlcakgaaGreat
namespace Sy
open Go Go.RowKit Go.BigFrame
def aP7(c x y:Tm):Tm:=
 match c with
 | .bl true=>x
 | .bl false=>y
 | c=>if E7 x y then x else .ite c x y
theorem a48(J:Env)(c x y:Tm):(u9 J (aP7 c x y)).i=if(u9 J c).b then(u9 J x).i else(u9 J y).i:=by
 unfold aP7;split
 .rfl
 .rfl
 .split
  .rename_i q;rw[H9 q];simp
  .show(if(u9 J c).b then u9 J x else u9 J y).i=_;exact cp9 ..
theorem cI3(J:Env)(c x y:Tm):(u9 J (aP7 c x y)).s=if(u9 J c).b then(u9 J x).s else(u9 J y).s:=by
 unfold aP7;split
 .rfl
 .rfl
 .split
  .rename_i q;rw[H9 q];simp
  .show(if(u9 J c).b then u9 J x else u9 J y).s=_;exact eH0 ..
theorem cI4(J:Env)(c x y:Tm):(u9 J (aP7 c x y)).b=if(u9 J c).b then(u9 J x).b else(u9 J y).b:=by
 unfold aP7;split
 .rfl
 .rfl
 .split
  .rename_i q;rw[H9 q];simp
  .show(if(u9 J c).b then u9 J x else u9 J y).b=_;cases(u9 J c).b<;>rfl
def cU1(cx:Cx)(c a b:SV):PR:=
 match c with
 | .one (.c (.bool t))=>
   match aH9 cx t with
   | some true=>some ([],a)
   | some false=>some ([],b)
   | none=>
     match a,b with
     | .one (.c (.int k x)), .one (.c (.int l y))=>if Nat.beq (kNo k) (kNo l)then sI [] k (aP7 t x y)else none
     | .one (.c (.bool x)), .one (.c (.bool y))=>sB [] (aP7 t x y)
     | .one (.c (.str x)), .one (.c (.str y))=>sS [] (aP7 t x y)
     | _,_=>none
 | _=>none
theorem dC4{J:Env}{N:Bn}{P:Program}{cx:Cx}(hc:cx.ok J){c a b:SV}{m:List Tm}{r:SV}(h:cU1 cx c a b=some (m,r))(w:World):
 (do pure (.value (if <-asBool (c.A1 J N)then a.A1 J N else b.A1 J N)):Sem Next).run P w= .ok (.value (r.A1 J N)) w:=by
 unfold cU1 at h;split at h
 .rename_i t;show(do pure (.value (if <-asBool (.bool (u9 J t).b)then a.A1 J N else b.A1 J N)):Sem Next).run P w=_;simp only[asBool,am,aq,ai];split at h
  .rename_i q;rw[aL5 hc q];injection h with h;injection h with h1 h2;subst h1 h2;rfl
  .rename_i q;rw[aL5 hc q];injection h with h;injection h with h1 h2;subst h1 h2;rfl
  .split at h
   .rename_i k x l y;split at h
    .rename_i q;have q:=ac1 (af q);subst q;injection h with h;injection h with h1 h2;subst h1 h2;show Result.ok (Next.value (if(u9 J t).b=true then Value.int k (u9 J x).i else Value.int k (u9 J y).i)) w= .ok (.value (.int k _)) w;rw[a48];cases(u9 J t).b<;>rfl
    .cases h
   .rename_i x y;injection h with h;injection h with h1 h2;subst h1 h2;show Result.ok (Next.value (if(u9 J t).b=true then Value.bool (u9 J x).b else Value.bool (u9 J y).b)) w= .ok (.value (.bool _)) w;rw[cI4];cases(u9 J t).b<;>rfl
   .rename_i x y;injection h with h;injection h with h1 h2;subst h1 h2;show Result.ok (Next.value (if(u9 J t).b=true then Value.string (u9 J x).s else Value.string (u9 J y).s)) w= .ok (.value (.string _)) w;rw[cI3];cases(u9 J t).b<;>rfl
   .cases h
 .cases h
def dE5(P:Program)(c:Cx)(ts:Array TypeId)(xs:List SV):PR:=
 match ts.toList,xs with
 | [t],[x]=>
   match P.underlying t,x with
   | some .string, .one (.c (.str s))=>sI [] .i64 (Q6 c s)
   | some (.slice _), .one (.c (.slc _ _ n _))=>sI (F9 c (.le i9 n)) .i64 n
   | some (.slice _), .one (.c .nslc)=>sI [] .i64 i9
   | some (.map _ _), .one (.c .nmap)=>sI [] .i64 i9
   | some (.array n _),_=>sI [] .i64 (.il n)
   | some (.pointer e),_=>match P.underlying e with
     | some (.array n _)=>sI [] .i64 (.il n)
     | _=>none
   | _,_=>none
 | _,_=>none
theorem dE4{ts:Array TypeId}{t:TypeId}(h:ts.toList=[t]):ts=#[t]:=by
 cases ts;simp at h;rw[h]
theorem do5{J:Env}{N:Bn}{P:Program}{c:Cx}(hc:c.ok J){ts:Array TypeId}{xs:List SV}{m:List Tm}{r:SV}(h:dE5 P c ts xs=some (m,r))(hm:Met J m)(ty:TypeId)(w:World):
 (Builtin.len_ ts ty (xs.map (SV.A1 J N)).toArray).run P w= .ok (r.A1 J N) w:=by
 unfold dE5 at h;split at h
 .rename_i t x ht;rw[dE4 ht];show(Builtin.len_ #[t] ty #[x.A1 J N]).run P w=_;split at h
  .rename_i s hu;injection h with h;injection h with h1 h2;subst h1 h2;rw[show SV.A1 J N (.one (.c (.str s)))= .string (u9 J s).s from rfl,run_len_string w t ty _ hu];exact aB9 (Q8 hc s)
  .rename_i e l o n cp hu;injection h with h;injection h with h1 h2;subst h1 h2;have h0:=B2 (z0 hc hm);change(0:Int)<=_ at h0;rw[show SV.A1 J N (.one (.c (.slc l o n cp)))= .slice (some ⟨N l,o,none⟩) (u9 J n).i.toNat (u9 J cp).i.toNat from rfl];simp only[Builtin.len_,bi,be,am,run_underlying hu,ai,aq];exact aB9 U
  .rename_i e hu;injection h with h;injection h with h1 h2;subst h1 h2;rw[show SV.A1 J N (.one (.c .nslc))= .slice none 0 0 from rfl];simp only[Builtin.len_,bi,be,am,run_underlying hu,ai,aq];rfl
  .rename_i k e hu;injection h with h;injection h with h1 h2;subst h1 h2;rw[show SV.A1 J N (.one (.c .nmap))= .map none from rfl];simp only[Builtin.len_,bi,be,am,run_underlying hu,ai,aq];rfl
  .rename_i n e hu;injection h with h;injection h with h1 h2;subst h1 h2;simp only[Builtin.len_,bi,be,am,run_underlying hu,ai,aq];rfl
  .rename_i e hu;split at h
   .rename_i n f hf;injection h with h;injection h with h1 h2;subst h1 h2;simp only[Builtin.len_,bi,be,am,run_underlying hu,run_underlying hf,ai,aq];rfl
   .cases h
  .cases h
 .cases h
def bl0(P:Program)(c:Cx)(b:Builtin)(ts:Array TypeId)(xs:List SV):PR:=
 match b,xs with
 | .len,xs=>dE5 P c ts xs
 | .min,[.one (.c (.int k x)), .one (.c (.int _ y))]=>sI [] k (aP7 (mkB c (.lt y x)) y x)
 | .max,[.one (.c (.int k x)), .one (.c (.int _ y))]=>sI [] k (aP7 (mkB c (.lt x y)) y x)
 | _,_=>none
theorem builtS'_ok{J:Env}{N:Bn}{P:Program}{c:Cx}(hc:c.ok J){b:Builtin}{ts:Array TypeId}{xs:List SV}{m:List Tm}{r:SV}(h:bl0 P c b ts xs=some (m,r))(hm:Met J m)(ty:TypeId)(cs:Array Bool)(w:World):
 (builtin b ts ty cs (xs.map (SV.A1 J N)).toArray).run P w= .ok (.value (r.A1 J N)) w:=by
 unfold bl0 at h;split at h
 .rw[builtin_len];simp only[am,do5 (N:=N) hc h hm ty w,ai,aq]
 .rename_i k x l y;injection h with h;injection h with h1 h2;subst h1 h2;rw[builtin_min];show(do pure (.value (<-Builtin.min_ ts ty #[.int k (u9 J x).i, .int l (u9 J y).i])):Sem Next).run P w=_;simp only[am,run_min_int2,ai,aq];show Result.ok (Next.value (Value.int k _)) w= .ok (.value (.int k _)) w;rw[a48,aK7 hc];show Result.ok (Next.value (Value.int k _)) w= .ok (.value (.int k (if decide ((u9 J y).i<(u9 J x).i)=true then _ else _))) w;simp only[aB]
 .rename_i k x l y;injection h with h;injection h with h1 h2;subst h1 h2;rw[builtin_max];show(do pure (.value (<-Builtin.max_ ts ty #[.int k (u9 J x).i, .int l (u9 J y).i])):Sem Next).run P w=_;simp only[am,run_max_int2,ai,aq];show Result.ok (Next.value (Value.int k _)) w= .ok (.value (.int k _)) w;rw[a48,aK7 hc];show Result.ok (Next.value (Value.int k _)) w= .ok (.value (.int k (if decide ((u9 J x).i<(u9 J y).i)=true then _ else _))) w;simp only[aB,gt_iff_lt]
 .cases h
def bl2(ev:Operand->Option SV):List Operand->Option (List SV)
 | []=>some []
 | x::l=>match ev x,bl2 ev l with
   | some v,some vs=>some (v::vs)
   | _,_=>none
theorem bM2{J:Env}{N:Bn}{ev:Operand->Option SV}{a:Act}(hev:∀ x v,ev x=some v->a.eval x=v.A1 J N):∀{l:List Operand} {vs:List SV},bl2 ev l=some vs->l.map a.eval=vs.map (SV.A1 J N)
 | [],vs,h=>by injection h with h;subst h;rfl
 | x::l,vs,h=>by
   simp only[bl2]at h;split at h
   .rename_i v us h1 h2;injection h with h;subst h;simp only[aW,hev _ _ h1,bM2 hev h2]
   .cases h
def bG6(ev:Operand->Option SV):List (Nat × Operand)->Option (List (Nat × V1))
 | []=>some []
 | (i,x)::l=>match ev x,bG6 ev l with
   | some (.one v),some vs=>some ((i,v)::vs)
   | _,_=>none
theorem bG5{J:Env}{N:Bn}{ev:Operand->Option SV}{a:Act}(hev:∀ x v,ev x=some v->a.eval x=v.A1 J N):∀{l:List (Nat × Operand)} {vs:List (Nat × V1)},bG6 ev l=some vs->l.map (fun p=>(p.1,a.eval p.2))=vs.map fun p=>(p.1,p.2.W7 J N)
 | [],vs,h=>by injection h with h;subst h;rfl
 | (i,x)::l,vs,h=>by
   simp only[bG6]at h;split at h
   .rename_i v us h1 h2;injection h with h;subst h;simp only[aW,hev _ _ h1,bG5 hev h2];rfl
   .cases h
def bk8:List SV->Option (List Nat)
 | []=>some []
 | .one (.c (.ptr l o))::xs=>if Nat.beq o 0 then(bk8 xs).map (l:: ·)else none
 | _::_=>none
theorem cJ9{J:Env}{N:Bn}:∀{xs:List SV} {ls:List Nat},bk8 xs=some ls->xs.map (SV.A1 J N)=ls.map fun l=>Value.pointer (some ⟨N l,0,none⟩)
 | [],ls,h=>by injection h with h;subst h;rfl
 | x::xs,ls,h=>by
   unfold bk8 at h;split at h
   .rename_i e;cases e
   .rename_i l o ys e;injection e with e1 e2;subst e1 e2;split at h
    .rename_i q;have q:=af q;subst q;cases hq:bk8 xs with
     | none=>rw[hq]at h;cases h
     | some us=>
       rw[hq]at h;injection h with h;subst h;simp only[aW,cJ9 hq];rfl
    .cases h
   .cases h
def at4(ev:Operand->Option SV):Option Operand->Option (Option SV)
 | none=>some none
 | some x=>(ev x).map some
theorem aW3{J:Env}{N:Bn}{ev:Operand->Option SV}{a:Act}(hev:∀ x v,ev x=some v->a.eval x=v.A1 J N){o:Option Operand}{r:Option SV}(h:at4 ev o=some r):o.map a.eval=r.map (SV.A1 J N):=by
 cases o with
 | none=>injection h with h;subst h;rfl
 | some x=>
   simp only[at4]at h;cases hx:ev x with
   | none=>rw[hx]at h;cases h
   | some v=>
     rw[hx]at h;injection h with h;subst h;simp only[ba,hev _ _ hx]
def bt9(P:Program)(c:Cx)(ev:Operand->Option SV):Op->PR
 | .move x| .assign x=>(ev x).map fun v=>([],v)
 | .pick t x y=>match ev t,ev x,ev y with
   | some t,some x,some y=>cU1 c t x y
   | _,_,_=>none
 | .build t parts=>match bG6 ev parts.toList with
   | some ps=>(bd5 P t ps).map fun l=>([], .one (.agg l))
   | none=>none
 | .nilCheck x=>match ev x with
   | some (.one (.c (.ptr l o)))=>some ([], .one (.c (.ptr l o)))
   | some (.one (.c (.fn f ls)))=>some ([], .one (.c (.fn f ls)))
   | some (.one (.c (.map l)))=>some ([], .one (.c (.map l)))
   | _=>none
 | .binOp op t x y _=>match ev x,ev y with
   | some x,some y=>dH2 P c op t x y
   | _,_=>none
 | .unOp op _ x=>match ev x with
   | some x=>unS c op x
   | none=>none
 | .convert s d x=>match ev x with
   | some x=>cX1 P c s d x
   | none=>none
 | .slice t x lo hi mx=>match ev x,at4 ev lo,at4 ev hi,at4 ev mx with
   | some x,some lo,some hi,some mx=>b32 P c t x lo hi mx
   | _,_,_,_=>none
 | .fieldAddr t x f=>match ev x with
   | some x=>bS8 P t x f
   | none=>none
 | .field t x f=>match ev x with
   | some x=>b76 P t x f
   | none=>none
 | .indexAddr t x i=>match ev x,ev i with
   | some x,some i=>bS6 P c t x i
   | _,_=>none
 | .index t x i=>match ev x,ev i with
   | some x,some i=>b70 P c t x i
   | _,_=>none
 | .extract x n=>match ev x with
   | some x=>bS9 x n
   | none=>none
 | .makeFunc (.func f) first captured=>if Nat.beq first.size 0 then
     match bl2 ev captured.toList with
     | some vs=>(bk8 vs).map fun ls=>([], .one (.c (.fn f ls)))
     | none=>none
   else none
 | .call k=>match k.callee with
   | .builtin b=>match bl2 ev k.args.toList with
     | some vs=>bl0 P c b k.argTypes vs
     | none=>none
   | _=>none
 | _=>none
theorem aG0{P:Program}{m:Sem Value}{v:Value}{w:World}(h:m.run P w= .ok v w):(do pure (.value (<-m)):Sem Next).run P w= .ok (.value v) w:=by
 simp only[am,h,ai,aq]
theorem b50{J:Env}(hJ:J.R8){N:Bn}{P:Program}{c:Cx}(hc:c.ok J){ev:Operand->Option SV}{a:Act}(hev:∀ x v,ev x=some v->a.eval x=v.A1 J N){o:Oper}{m:List Tm}{r:SV}
 (h:bt9 P c ev o.op=some (m,r)) (hm:Met J m) (w:World):(execOp a.eval o).run P w= .ok (.value (r.A1 J N)) w:=by
 obtain⟨dst,op,ty,pos,after,guard⟩:=o;simp only[]at h;cases op<;>simp only[bt9]at h<;>try(cases h;done)
 case move x=>
  cases hx:ev x with
  | none=>rw[hx]at h;cases h
  | some v=>
    rw[hx]at h;injection h with h;injection h with h1 h2;subst h1 h2;show Result.ok (Next.value (a.eval x)) w=_;rw[hev _ _ hx]
 case assign x=>
  cases hx:ev x with
  | none=>rw[hx]at h;cases h
  | some v=>
    rw[hx]at h;injection h with h;injection h with h1 h2;subst h1 h2;show Result.ok (Next.value (a.eval x)) w=_;rw[hev _ _ hx]
 case pick t x y=>
  split at h
  .rename_i t' x' y' h1 h2 h3;show(do pure (.value (if <-asBool (a.eval t)then a.eval x else a.eval y)):Sem Next).run P w=_;rw[hev _ _ h1,hev _ _ h2,hev _ _ h3];exact dC4 hc h w
  .cases h
 case build t parts=>
  split at h
  .rename_i ps h1;cases hb:bd5 P t ps with
   | none=>rw[hb]at h;cases h
   | some l=>
     rw[hb]at h;injection h with h;injection h with h2 h3;subst h2 h3;have e:=cr4 hJ (N:=N) hb;rw[<-bG5 hev h1]at e;exact aG0 (run_build w t (parts.map fun p=>(p.1,a.eval p.2)) _ (by simpa using e))
  .cases h
 case nilCheck x=>
  split at h
  .rename_i l o' h1;injection h with h;injection h with h2 h3;subst h2 h3;simp only[execOp,hev _ _ h1];rfl
  .rename_i f ls h1;injection h with h;injection h with h2 h3;subst h2 h3;simp only[execOp,hev _ _ h1];rfl
  .rename_i l h1;injection h with h;injection h with h2 h3;subst h2 h3;simp only[execOp,hev _ _ h1];rfl
  .cases h
 case binOp op t x y yt=>
  split at h
  .rename_i x' y' h1 h2;refine aG0 ?_;rw[hev _ _ h1,hev _ _ h2];exact dq4 hc h hm x y w
  .cases h
 case unOp op t x=>
  split at h
  .rename_i x' h1;refine aG0 ?_;rw[hev _ _ h1];exact eF3 hc h w
  .cases h
 case convert s d x=>
  split at h
  .rename_i x' h1;refine aG0 ?_;rw[hev _ _ h1];exact dG6 hc h w
  .cases h
 case slice t x lo hi mx=>
  split at h
  .rename_i x' lo' hi' mx' h1 h2 h3 h4;refine aG0 ?_;rw[hev _ _ h1,aW3 hev h2,aW3 hev h3,aW3 hev h4];exact cn6 hc h hm w
  .cases h
 case fieldAddr t x f=>
  split at h
  .rename_i x' h1;refine aG0 ?_;rw[hev _ _ h1];exact cC9 h w
  .cases h
 case field t x f=>
  split at h
  .rename_i x' h1;refine aG0 ?_;rw[hev _ _ h1];exact cq2 h w
  .cases h
 case indexAddr t x i=>
  split at h
  .rename_i x' y' h1 h2;refine aG0 ?_;rw[hev _ _ h1,hev _ _ h2];exact cC8 hc h hm w
  .cases h
 case index t x i=>
  split at h
  .rename_i x' y' h1 h2;refine aG0 ?_;rw[hev _ _ h1,hev _ _ h2];exact cq0 hc h hm w
  .cases h
 case extract x n=>
  split at h
  .rename_i x' h1;refine aG0 ?_;rw[hev _ _ h1];exact cD0 h w
  .cases h
 case makeFunc fn first captured=>
  cases fn<;>simp only[]at h<;>try(cases h;done)
  rename_i f;split at h
  .rename_i q;have q:=af q;have q:first=#[]:=Array.eq_empty_of_size_eq_zero q
   subst q;split at h
   .rename_i vs h1;cases hq:bk8 vs with
    | none=>rw[hq]at h;cases h
    | some ls=>
      rw[hq]at h;injection h with h;injection h with h2 h3;subst h2 h3;have e:=cJ9 (J:=J) (N:=N) hq;rw[<-bM2 hev h1]at e;show Result.ok (Next.value (.func (.func f) _ (captured.map a.eval))) w= .ok (.value (.func (.func f) #[] (ls.map fun l=>Value.pointer (some ⟨N l,0,none⟩)).toArray)) w;rw[<-e];cases captured;simp
   .cases h
  .cases h
 case call k=>
  obtain⟨callee,args,ats⟩:=k;cases callee<;>simp only[]at h<;>try(cases h;done)
  rename_i b;split at h
  .rename_i vs h1;have e:=bM2 hev h1;rw[execOp_builtin];have e2:args.map a.eval=(vs.map (SV.A1 J N)).toArray:=by rw[<-e];cases args;simp
   rw[e2];exact builtS'_ok hc h hm ty _ w
  .cases h
end Sy
end Go.Proofs.YtnlcpcmdlcakgaaGreat
namespace Go.Proofs.YtnlcpcmdlcakgaaGreat
namespace Sy
open Go Go.RowKit
def az9(P:Program)(c:Cx)(hp:List Bk)(t:TypeId)(x:SV):Option V1:=
 match x with
 | .one (.c (.ptr l off))=>
   match aD0 l hp with
   | some b=>
     match b.str with
     | none=>
       if b.x.bl3 then
       match P.underlying t with
       | some d=>
         if bR8 d then
          match P.info? t with
          | some i=>if Nat.ble (off+i.size) b.cs.length then some (.agg ((b.cs.take (off+i.size)).drop off))else none
          | none=>none
         else(b.cs[off]?).map .c
       | none=>none
       else none
     | some s=>
       match P.underlying t with
       | some (.int .u8)=>if X1 c (.lt (.il off) (Q6 c s))then some (.c (.int .u8 (ad6 c s (.il off))))else none
       | _=>none
   | none=>none
 | .one (.c (.ptx l off))=>
   match aD0 l hp with
   | some b=>
     match b.str with
     | some s=>
       match P.underlying t with
       | some (.int .u8)=>if X1 c (.le i9 off)&&X1 c (.lt off (Q6 c s))then some (.c (.int .u8 (ad6 c s off)))else none
       | _=>none
     | none=>none
   | none=>none
 | _=>none
theorem RowB.b96{w:World}{g c:Nat}{ty:TypeId}{own:Bool}{l:List UInt8}(h:RowB w g c ty own l){j:Nat}(hj:j<l.length):w.cell? ⟨g,j,none⟩=some (.int .u8 (l[j].toNat:Int))/\w.frozen? ⟨g,j,none⟩=false:=by
 have hlen:=h.len;obtain⟨cur,fr,h1,hf,h2,h3,h4⟩:=h.row U;constructor
 .have h5:(cur.toList.take l.length)[j]? =(W4 l)[j]? :=by rw[h4]
  rw[aL,if_pos hj]at h5;have h6:w.cell? ⟨g,j,none⟩=cur[j]? :=by simp[World.cell?,h1]
  rw[h6,<-Array.getElem?_toList,h5];simp[W4,hj]
 .simp only[World.frozen?,h1];rcases hf with rfl|⟨_,hf⟩
  .simp
  .simp only[Bool.and_eq_false_iff,decide_eq_false_iff_not];exact .inl U
theorem ap4{P:Program}{t:TypeId}{d:TypeDesc}(hu:P.underlying t=some d)(hr:bR8 d=false){w:World}{g o:Nat}{v:Value}(h:w.cell? ⟨g,o,none⟩=some v):(Instr.loadAt t (.pointer (some ⟨g,o,none⟩))).run P w= .ok v w:=by
 have ha:=bo2 hu w;rw[hr]at ha;simp only[Instr.loadAt,Instr.sureAddr,am,aq,ai,loadVar,ha];show(load ⟨g,o,none⟩).run P w=_;unfold load;simp only[Sem.run,h]
theorem b64{J:Env}{N:Bn}{P:Program}{c:Cx}(hc:c.ok J){hp:List Bk}{t:TypeId}{x:SV}{v:V1}(h:az9 P c hp t x=some v){w:World}(hb:∀ b∈hp,BkOk J N w b):
 (Instr.loadAt t (x.A1 J N)).run P w= .ok (v.W7 J N) w:=by
 unfold az9 at h;split at h
 .rename_i l off;split at h
  .rename_i b hf;have hm:=U4 hf;have hB0:=hb b hm.1;unfold BkOk at hB0;split at h
   .rename_i hs;rw[hs]at hB0;split at h
    case isFalse=>cases h
    rename_i hno;rw[Xt.a56 hno]at hB0;have hB:Blk w (N b.l) b.ty (A5 J N b.cs):=hB0;rw[hm.2]at hB;split at h
    .rename_i d hu;show(Instr.loadAt t (.pointer (some ⟨N l,off,none⟩))).run P w=_;split at h
     .rename_i hr;split at h
      .rename_i i hi;split at h
       .rename_i hle;have hle:=au hle;injection h with h;subst h;refine run_loadAt_mid w (N l) off t _ d ?_ hu cg ?_
        .intro j u hj;rw[hB.ag8];rw[aO1,aR4,aS,aL]at hj;split at hj
         .exact hj
         .cases hj
        .rw[hi,U5,bo,aU];simp;omega
       .cases h
      .cases h
     .rename_i hr;cases hcs:b.cs[off]? with
      | none=>rw[hcs]at h;cases h
      | some y=>
        rw[hcs]at h;injection h with h;subst h;exact ap4 hu (by simpa using hr) (by rw[hB.ag8];simp[A5,hcs];rfl)
    .cases h
   .rename_i s hs;rw[hs]at hB0;have hB:RowB w (N b.l) (N (b.l+1)) b.ty b.cs.isEmpty (Sy.u9 J s).s.data.toList:=hB0;rw[hm.2]at hB;split at h
    .rename_i hu;split at h
     .rename_i q;injection h with h;subst h;have q:=aL4 (L0 hc q);rw[Q8 hc]at q;change(off:Int)<_ at q;have hlt:off<(Sy.u9 J s).s.data.toList.length:=by simp;omega
      show(Instr.loadAt t (.pointer (some ⟨N l,off,none⟩))).run P w= .ok (.int .u8 _) w;rw[ap4 hu rfl (hB.b96 hlt).1];refine aB9 ?_;rw[bG9 hc];show Y4 _ ((off:Nat):Int)=_;unfold Y4;rw[aK,List.getD,ar hlt];rfl
     .cases h
    .cases h
  .cases h
 .rename_i l off;split at h
  .rename_i b hf;have hm:=U4 hf;have hB0:=hb b hm.1;unfold BkOk at hB0;split at h
   .rename_i s hs;rw[hs]at hB0;have hB:RowB w (N b.l) (N (b.l+1)) b.ty b.cs.isEmpty (Sy.u9 J s).s.data.toList:=hB0;rw[hm.2]at hB;split at h
    .rename_i hu;split at h
     .rename_i q;injection h with h;subst h;simp only[m5]at q;have q0:=B2 (L0 hc q.1);have q:=aL4 (L0 hc q.2);rw[Q8 hc]at q;change(0:Int)<=_ at q0;have hlt:(Sy.u9 J off).i.toNat<(Sy.u9 J s).s.data.toList.length:=by simp;omega
      show(Instr.loadAt t (.pointer (some ⟨N l,(Sy.u9 J off).i.toNat,none⟩))).run P w= .ok (.int .u8 _) w;rw[ap4 hu rfl (hB.b96 hlt).1];refine aB9 ?_;rw[bG9 hc];unfold Y4;rw[List.getD,ar hlt];rfl
     .cases h
    .cases h
   .cases h
  .cases h
 .cases h
section
variable{w w0:World}{g:Nat}{t:TypeId}{S:Nat->Prop}
theorem aQ2:∀(vs:List Value) (o:Nat) {w:World} {cs:List Value},Blk w g t cs->o+vs.length<=cs.length->Blk (w.setCells g o vs) g t (cs.take o++(vs++cs.drop (o+vs.length)))
 | [],o,w,cs,h,_=>by
   simp only[World.setCells,List.nil_append,List.length_nil,Nat.add_zero,List.take_append_drop];exact h
 | v::vs,o,w,cs,h,hl=>by
   simp only[List.length_cons]at hl;have h1:=aQ2 vs (o+1) (h.aA8 o v) bP;rw[World.setCells];refine h1.ad2 ?_;have hlt:o<cs.length:=by omega
   rw[List.take_succ_eq_append_getElem (by simpa using hlt),List.take_set_of_le (aI _),List.getElem_set_self,List.append_assoc,List.singleton_append];rw[List.drop_set_of_lt U,List.length_cons];congr 3;congr 1;omega
theorem aQ3(hg:S g\/w0.heap.size<=g):∀(vs:List Value) (o:Nat) {w:World},Only S w0 w->Only S w0 (w.setCells g o vs)
 | [],_,_,h=>h
 | v::vs,o,w,h=>aQ3 hg vs (o+1) (h.cK6 (p:=⟨g,o,none⟩) hg v)
end
theorem aW2{P:Program}(w:World)(b o:Nat)(ty:TypeId)(v:Value)(ht:w.there b o v.cells.size)(hi:(P.info? ty).map (·.size)=some v.cells.size)(h1:∀ u∈v.cells.toList,u.oneCell'=true):
 (Instr.storeAt ty (.pointer (some ⟨b,o,none⟩)) v).run P w= .ok () (w.setCells b o v.cells.toList):=by
 have:=run_storeCells_cells (P:=P) b o v.cells.toList 0 w (fun j hj=>by simpa using(ht j (by simpa using hj)).1) (fun j hj=>by simpa using(ht j (by simpa using hj)).2) h1;cases hq:P.info? ty with
 | none=>simp[hq]at hi
 | some i=>
   have hs:v.cells.size=i.size:=by simp[hq]at hi;omega
   simp only[Nat.add_zero]at this;simp[Instr.storeAt,Instr.sureAddr,storeVar,sizeOf,typeInfo,hq,hs,this]
def aV0(nb:Bk)(hp:List Bk):List Bk:=hp.map fun b=>if Nat.beq b.l nb.l then nb else b
theorem aw7{nb x:Bk}{hp:List Bk}(h:x∈aV0 nb hp):x=nb\/(x∈hp/\x.l≠nb.l):=by
 obtain⟨b,hb,e⟩:=aZ.1 h;by_cases q:b.l=nb.l
 .rw[if_pos (by rw[q];exact Nat.beq_refl _)]at e;exact .inl e.symm
 .rw[if_neg (fun h=>q (af h))]at e;subst e;exact .inr ⟨hb,q⟩
theorem Md.bT7{J:Env}{N:Bn}{S:Nat->Prop}{w0 w w':World}{N0:Bn}{n0:Nat}{s:St}{a:Act}(hM:Md J S w0 N0 n0 s N a w){b nb:Bk}(hb:b∈s.hp)(hl:b.l=nb.l)(hr:nb.G0 N->b.G0 N)(hrw:nb.rw=true->b.rw=true)
 (ho:Only S w0 w') (hnb:BkOk J N w' nb) (hoth:∀ x∈s.hp,x.l≠nb.l->BkOk J N w' x) (hown:nb.own=true->b.own=true/\nb.cs=b.cs:=by first|exact fun h=>⟨h,rfl⟩|exact fun h=>bF|(intro h;unfold Bk.own at h;simp_all[Xt.isOwn];done)):Md J S w0 N0 n0 { s with hp:=aV0 nb s.hp } N a w':=by
 have hfp:∀ g,fp N nb g->fp N b g:=fun g hg=>by
  unfold fp at hg ⊢;rw[hl];exact hg.imp id fun q=>⟨(hown q.1).1,by rw[<-(hown q.1).2];exact q.2⟩
 refine⟨hM.act,?_,?_,?_,hM.cx,ho,hM.old⟩
 .intro x hx;rcases aw7 hx with rfl|⟨hx,hne⟩
  .exact hnb
  .exact hoth x hx hne
 .intro x hx y hy hne hrx hry;rcases aw7 hx with ex|⟨hx',hnx⟩<;>rcases aw7 hy with ey|⟨hy',hny⟩
  .exact absurd (by rw[ex,ey]) hne
  .rw[ex]at hne hrx ⊢;have:=hM.ne b hb y hy' (by rw[hl];exact hne) (hr hrx) hry;exact fun g hx=>this g (hfp g hx)
  .rw[ey]at hne hry ⊢;have:=hM.ne x hx' b hb (by rw[hl];exact hne) hrx (hr hry);exact fun g hx hy=>this g hx (hfp g hy)
  .exact hM.ne x hx' y hy' hne hrx hry
 .intro x hx hw hrx g hg;rcases aw7 hx with rfl|⟨hx,_⟩
  .exact hM.may b hb (hrw hw) (hr hrx) g (hfp g hg)
  .exact hM.may x hx hw hrx g hg
theorem Md.a58{J:Env}{N:Bn}{S:Nat->Prop}{w0 w w':World}{N0:Bn}{n0:Nat}{s:St}{a:Act}(hM:Md J S w0 N0 n0 s N a w){b:Bk}(hb:b∈s.hp)(hr:b.G0 N)(hk:∀ g,g≠N b.l->w'.heap[g]? =w.heap[g]?):∀ x∈s.hp,x.l≠b.l->BkOk J N w' x:=
 fun x hx hne=>(hM.hp x hx).bD0 fun hrx g hg _=>hk _ fun e=>hM.ne x hx b hb hne hrx hr g hg (e ▸ I4 N b)
theorem aQ4{w:World}{g k:Nat}(h:k≠g):∀(vs:List Value) (o:Nat) (w:World),(w.setCells g o vs).heap[k]? =w.heap[k]?
 | [],_,_=>rfl
 | v::vs,o,w=>(aQ4 (w:=w) h vs (o+1) _).trans (Below.heap_setCell w ⟨g,o,none⟩ v _ h)
def bb6(x:Tm):Tm:=
 match aC4 x with
 | some n=> .sl [UInt8.ofNat n.toNat]
 | none=> .chr x
def al0(c:Cx)(s:Tm)(i:Nat)(x:Tm):Option Tm:=
 match s with
 | .app (.chr y) t=>if Nat.beq i 0 then some (aK3 (bb6 x) t)else(al0 c t (i - 1) x).map fun t=>aK3 (.chr y) t
 | .chr y=>if Nat.beq i 0 then some (bb6 x)else none
 | .app s t=>match aC4 (Q6 c s)with
   | some n=>if Nat.blt i n.toNat then(al0 c s i x).map fun s=>aK3 s t else(al0 c t (i - n.toNat) x).map fun t=>aK3 s t
   | none=>none
 | s=>if X1 c (.lt (.il i) (Q6 c s))then some (aK3 (aP8 c s i9 (.il i)) (aK3 (bb6 x) (aP8 c s (.il (i+1)) (Q6 c s))))else none
def b28(P:Program)(c:Cx)(hp:List Bk)(t:TypeId)(x v:SV):Option (List Bk):=
 match x,v with
 | .one (.c (.ptr l off)), .one v=>
   match aD0 l hp,P.info? t with
   | some b,some i=>
     match b.str with
     | none=>if b.rw&&(Nat.beq v.cs.length i.size&&(Nat.ble (off+v.cs.length) b.cs.length&&b.x.bl3))then some (aV0 { b with cs:=a16 b.cs off v.cs } hp)else none
     | some s=>
       match v with
       | .c (.int .u8 x)=>
         if b.rw&&(Nat.beq i.size 1&&(X1 c (.le i9 x)&&(X1 c (.le x (.il 255))&&X1 c (.lt (.il off) (Q6 c s)))))then
          match al0 c s off x with
          | some s'=>some (aV0 { b with str:=some s' } hp)
          | none=>none
         else none
       | _=>none
   | _,_=>none
 | _,_=>none
theorem bT2{n:Int}(h0:0<=n)(h1:n<=255):(ac2 n).data.toList=[UInt8.ofNat n.toNat]:=by
 unfold ac2;rw[Int.emod_eq_of_lt h0 U]
theorem co0{α:Type}(l:List α)(i:Nat)(x:α)(h:i<l.length):l.set i x=l.take i++([x]++l.drop (i+1)):=by
 rw[List.set_eq_take_append_cons_drop,if_pos h];rfl
theorem dG4{J:Env}{c:Cx}(hc:c.ok J)(s:Tm)(i:Nat):(u9 J (aP8 c s i9 (.il i))).s.data.toList=(u9 J s).s.data.toList.take i:=by
 rw[ag3 hc];show((u9 J s).s.extract 0 ((i:Int)).toNat).data.toList=_;rw[aK];simp[ByteArray.data_extract]
theorem dG3{J:Env}{c:Cx}(hc:c.ok J)(s:Tm)(i:Nat):(u9 J (aP8 c s (.il (i+1)) (Q6 c s))).s.data.toList=(u9 J s).s.data.toList.drop (i+1):=by
 rw[ag3 hc];show((u9 J s).s.extract (((i:Int)+1)).toNat (u9 J (Q6 c s)).i.toNat).data.toList=_;rw[Q8 hc,show((i:Int)+1).toNat=i+1 from by omega,aK];simp only[ByteArray.data_extract,Array.toList_extract,List.extract_eq_take_drop];rw[bh bM]
theorem dm4{J:Env}{c:Cx}(hc:c.ok J){x:Tm}(h0:0<=(u9 J x).i)(h1:(u9 J x).i<=255):∀{s s':Tm} {i:Nat},al0 c s i x=some s'->i<(u9 J s).s.data.toList.length->
 (u9 J s').s.data.toList=(u9 J s).s.data.toList.set i (UInt8.ofNat (u9 J x).i.toNat):=by
 have app:∀ a b:Tm,(u9 J (.app a b)).s.data.toList=(u9 J a).s.data.toList++(u9 J b).s.data.toList:=fun a b=>by
  show((u9 J a).s++(u9 J b).s).data.toList=_;simp
 have mapp:∀ a b:Tm,(u9 J (aK3 a b)).s.data.toList=(u9 J a).s.data.toList++(u9 J b).s.data.toList:=fun a b=>by
  rw[bB0];simp
 have len:∀ a:Tm,(Q6 c a |> u9 J).i=((u9 J a).s.data.toList.length:Int):=fun a=>by rw[Q8 hc];simp
 have chr:(u9 J (bb6 x)).s.data.toList=[UInt8.ofNat (u9 J x).i.toNat]:=by
  unfold bb6;split
  .rename_i n hn;rw[U8 hn];rfl
  .exact bT2 h0 h1
 have chr1:∀ y:Tm,(u9 J (.chr y)).s.data.toList.length=1:=fun y=>rfl
 intro s
 induction s with
 | app a b iha ihb=>
   intro s' i h hi;rw[app]at hi ⊢;rw[az]at hi;have gen:(match aC4 (Q6 c a)with
    | some n=>if Nat.blt i n.toNat then(al0 c a i x).map fun s=>aK3 s b else(al0 c b (i - n.toNat) x).map fun t=>aK3 a t
    | none=>none)=some s'->(u9 J s').s.data.toList=((u9 J a).s.data.toList++(u9 J b).s.data.toList).set i (UInt8.ofNat (u9 J x).i.toNat):=by
    intro h;split at h
    .rename_i n hn;have hln:=len a;rw[U8 hn]at hln;change n=_ at hln;split at h
     .rename_i q;have q:i<n.toNat:=au q;cases hq:al0 c a i x with
      | none=>rw[hq]at h;cases h
      | some a'=>
        rw[hq]at h;injection h with h;subst h;rw[mapp,iha hq U,List.set_append_left _ _ U]
     .rename_i q;have q:¬i<n.toNat:=fun e=>q (Nat.ble_eq_true_of_le e)
      cases hq:al0 c b (i - n.toNat) x with
      | none=>rw[hq]at h;cases h
      | some b'=>
        rw[hq]at h;injection h with h;subst h;rw[mapp,ihb hq U,List.set_append_right _ _ U];congr 2;omega
    .cases h
   cases a with
   | chr y=>
     simp only[al0]at h;split at h
     .rename_i q;have q:=af q;subst q;injection h with h;subst h;rw[mapp,chr];rfl
     .rename_i q;have q:i≠0:=fun e=>q (by rw[e];rfl)
      cases hq:al0 c b (i - 1) x with
      | none=>rw[hq]at h;cases h
      | some b'=>
        rw[hq]at h;injection h with h;subst h;rw[chr1]at hi;rw[mapp,ihb hq U,List.set_append_right _ _ (by rw[chr1];omega),chr1]
   | _=>exact gen h
 | chr y _=>
   intro s' i h hi;simp only[al0]at h;split at h
   .rename_i q;have q:=af q;subst q;injection h with h;subst h;rw[chr];rfl
   .cases h
 | _=>
   intro s' i h hi;simp only[al0]at h;split at h
   .injection h with h;subst h;rw[mapp,mapp,chr,dG4 hc,dG3 hc,co0 _ _ _ hi]
   .cases h
theorem cn4{J:Env}(hJ:J.R8){N:Bn}{P:Program}{S:Nat->Prop}{w0 w:World}{N0:Bn}{n0:Nat}{s:St}{a:Act}(hM:Md J S w0 N0 n0 s N a w){t:TypeId}{x v:SV}{hp':List Bk}(h:b28 P s.cx s.hp t x v=some hp'):
 ∃ w',(Instr.storeAt t (x.A1 J N) (v.A1 J N)).run P w= .ok () w'/\Md J S w0 N0 n0 { s with hp:=hp' } N a w':=by
 unfold b28 at h;split at h
 .rename_i l off v;split at h
  .rename_i b i hf hi;have hm:=U4 hf;have hB0:=hM.hp b hm.1;have hcl:(v.W7 J N).cells.toList=A5 J N v.cs:=by rw[V1.aV5 hJ]
   have hcs:(v.W7 J N).cells.size=v.cs.length:=by rw[V1.aV5 hJ];simp[U5]
   split at h
   .rename_i hs;unfold BkOk at hB0;rw[hs]at hB0;split at h
    .rename_i q;simp only[m5]at q;have q1:=af q.2.1;have q2:=au q.2.2.1;have hno:=Xt.a56 q.2.2.2;rw[hno]at hB0;have hB:Blk w (N b.l) b.ty (A5 J N b.cs):=hB0;have hreal:b.G0 N:=Bk.dS1 hs hno N;injection h with h;subst h;have hmay:=hM.ar5 b hm.1 q.1 hreal;refine⟨w.setCells (N b.l) off (A5 J N v.cs),?_,?_⟩
     .have:=aW2 (P:=P) w (N b.l) off t (v.W7 J N) (fun j hj=>by
       rw[hcs]at hj;refine⟨?_,hB.Z5 _⟩;rw[hB.ag8,ar (by rw[U5];omega)];rfl) (by rw[hcs,hi];simp;omega) ct
      rw[hcl]at this;rw[<-hm.2];exact this
     .refine hM.bT7 (b:=b) hm.1 rfl (fun _=>hreal) (fun h=>h) (aQ3 hmay _ _ hM.only) ?_ ?_
      .unfold BkOk;rw[hs,hno];have:=aQ2 (A5 J N v.cs) off hB (by rw[U5,U5];omega);refine this.ad2 ?_;simp only[a16,al9,aR4,aO1,U5]
      .exact fun x hx hne=>hM.a58 (b:=b) hm.1 hreal (fun g hg=>aQ4 (w:=w) hg _ _ _) x hx hne
    .cases h
   .rename_i str hs;split at h
    .rename_i x;split at h
     .rename_i q;simp only[m5]at q;split at h
      .rename_i s' hset;injection h with h;subst h;have x0:=B2 (L0 hM.cx q.2.2.1);have x1:=B2 (L0 hM.cx q.2.2.2.1);have xl:=aL4 (L0 hM.cx q.2.2.2.2);rw[Q8 hM.cx]at xl;change(0:Int)<=_ at x0;change _<=(255:Int)at x1;change(off:Int)<_ at xl;unfold BkOk at hB0;rw[hs]at hB0;have hB:RowB w (N b.l) (N (b.l+1)) b.ty b.cs.isEmpty (u9 J str).s.data.toList:=hB0;have hlt:off<(u9 J str).s.data.toList.length:=by simp;omega
       have hcap:=hB.len;have hreal:b.G0 N:= .inr U;have hmay:=hM.ar5 b hm.1 q.1 hreal;have hcell:=hB.b96 hlt;refine⟨w.setCells (N b.l) off [.int .u8 (u9 J x).i],?_,?_⟩
       .have:=aW2 (P:=P) w (N b.l) off t (.int .u8 (u9 J x).i) (fun j hj=>by
         have hj0:j=0:=by
          have:j<1:=hj;omega
         subst hj0;exact⟨by rw[Nat.add_zero,hcell.1];rfl,hcell.2⟩) (by rw[hi];show some i.size=some 1;rw[af q.2.1]) (fun u hu=>by
         have:u= .int .u8 (u9 J x).i:=by simpa[Value.cells]using hu
         rw[this];rfl)
        rw[<-hm.2];exact this
       .refine hM.bT7 (b:=b) hm.1 rfl (fun _=>hreal) (fun h=>h) (aQ3 hmay _ _ hM.only) ?_ ?_
        .have hset':=dm4 hM.cx x0 x1 hset hlt;refine⟨fun _=>?_,by show(u9 J s').s.data.toList.length<=_;rw[hset',List.length_set];exact hcap⟩;obtain⟨cur,fr,h1,hfr,h2,h3,h4⟩:=hB.row U;have hst:(w.setCells (N b.l) off [.int .u8 (u9 J x).i]).heap[N b.l]? =some (.cells (cur.setIfInBounds off (.int .u8 (u9 J x).i)) b.ty fr):=by
          show(w.setCell ⟨N b.l,off,none⟩ (.int .u8 (u9 J x).i)).heap[N b.l]? =_;simp[World.setCell,Array.getElem?_modify,h1]
         refine⟨cur.setIfInBounds off (.int .u8 (u9 J x).i),fr,hst,hfr,by simp[h2],h3,?_⟩;show List.take (u9 J s').s.data.toList.length _=W4 (u9 J s').s.data.toList;rw[hset',List.length_set];rw[Array.toList_setIfInBounds,List.take_set,h4];unfold W4;rw[List.map_set];congr 2;have:((UInt8.ofNat (u9 J x).i.toNat).toNat:Int)=(u9 J x).i:=by
          rw[UInt8.toNat_ofNat'];omega
         rw[this]
        .exact fun x hx hne=>hM.a58 (b:=b) hm.1 hreal (fun g hg=>aQ4 (w:=w) hg _ _ _) x hx hne
      .cases h
     .cases h
    .cases h
  .cases h
 .cases h
def ae5(b:Bk):List Bk->List Bk
 | []=>[b]
 | x::l=>if Nat.ble x.l b.l then b::x::l else x::ae5 b l
theorem aI7{b x:Bk}:∀{l:List Bk},x∈ae5 b l->x=b\/x∈l
 | [],h=>by simpa[ae5]using h
 | y::l,h=>by
   unfold ae5 at h;split at h
   .rcases aa.1 h with h|h
    .exact .inl h
    .exact .inr h
   .rcases aa.1 h with h|h
    .exact .inr (by rw[h];exact ae ..)
    .rcases aI7 h with h|h
     .exact .inl h
     .exact .inr (aj _ h)
def St.T8(s:St)(n:Nat):Bool:=(s.tm.all fun x=> !x.has n)&&s.hp.all fun b=> !(Nat.beq b.l n)&&(!(bB7 n b.cs)&& !(Nat.beq (b.l+1) n))
def St.new(s:St)(n:Nat)(t:TypeId)(cs:List C):St:= { s with hp:=ae5 ⟨n,t,cs,true,none, .no⟩ s.hp,nx:=max s.nx (n+2) }
theorem Md.new{J:Env}{N:Bn}{S:Nat->Prop}{w0 w:World}{N0:Bn}{n0:Nat}{s:St}{a:Act}(hM:Md J S w0 N0 n0 s N a w)(n:Nat)(hn:n0<=n)(hf:s.T8 n=true)(t:TypeId)(cs:List C)(hcs:bB7 n cs=false):
 Md J S w0 N0 n0 (s.new n t cs) (E8 N n w.heap.size) a (w.alloc (.cells (A5 J N cs).toArray t)):=by
 unfold St.T8 at hf;simp only[m5,av,aN]at hf;have old:∀ b∈s.hp,E8 N n w.heap.size b.l=N b.l/\E8 N n w.heap.size (b.l+1)=N (b.l+1)/\A5 J (E8 N n w.heap.size) b.cs=A5 J N b.cs:=fun b hb=>
  ⟨B3 (T3 (hf.2 b hb).1),B3 (T3 (hf.2 b hb).2.2),aA2 J (hf.2 b hb).2.1⟩
 have oldr:∀ b∈s.hp,b.G0 (E8 N n w.heap.size)->b.G0 N:=fun b hb hr=>hr.imp id (fun h=>by rw[<-(old b hb).2.1];exact h)
 refine⟨?_,?_,?_,?_,hM.cx,hM.only.ca0 _,?_⟩
 .rw[hM.act];congr 2;apply aG;intro x hx;exact(SV.aY5 J (hf.1 x hx)).symm
 .intro b hb;rcases aI7 hb with rfl|hb
  .show Blk _ (E8 N n w.heap.size n) t (A5 J (E8 N n w.heap.size) cs);rw[K7,aA2 J hcs];exact Blk.new w t (A5 J N cs)
  .exact BkOk.at7 ((hM.hp b hb).cZ5 _) (old b hb).1 (fun _=>(old b hb).2.1) (old b hb).2.2
 .intro x hx y hy hne hrx hry;rcases aI7 hx with rfl|hx<;>rcases aI7 hy with rfl|hy
  .exact absurd rfl hne
  .intro g gx gy;have e:g=E8 N n w.heap.size n:=Q9 rfl gx;rw[K7]at e;have:=(hM.hp y hy).ax9 (oldr y hy hry) ((Z9 (old y hy).1 (old y hy).2.2 g).1 gy);omega
  .intro g gx gy;have e:g=E8 N n w.heap.size n:=Q9 rfl gy;rw[K7]at e;have:=(hM.hp x hx).ax9 (oldr x hx hrx) ((Z9 (old x hx).1 (old x hx).2.2 g).1 gx);omega
  .exact(hM.ne x hx y hy hne (oldr x hx hrx) (oldr y hy hry)).bM1 (old x hx).1 (old x hx).2.2 (old y hy).1 (old y hy).2.2
 .intro b hb hw hr g hg;rcases aI7 hb with rfl|hb
  .refine .inr ?_;have e:g=E8 N n w.heap.size n:=Q9 rfl hg;rw[e,K7];exact hM.only.size
  .exact hM.may b hb hw (oldr b hb hr) g ((Z9 (old b hb).1 (old b hb).2.2 g).1 hg)
 .intro l hl;rw[B3 U];exact hM.old l hl
def ae4(P:Program)(t:TypeId):Option (List C):=
 match P.info? t with
 | some i=>match i.zero with
   | some z=>bG7 z.cells.toList
   | none=>none
 | none=>none
theorem b16{J:Env}{N:Bn}{P:Program}{t:TypeId}{cs:List C}(h:ae4 P t=some cs)(w:World):(Instr.alloc t true (.tuple #[])).run P w= .ok (.pointer (some ⟨w.heap.size,0,none⟩)) (w.alloc (.cells (A5 J N cs).toArray t)):=by
 unfold ae4 at h;split at h
 .rename_i i hi;split at h
  .rename_i z hz;rw[al5 (J:=J) (N:=N) h];simp only[Instr.alloc,zeroValue,typeInfo,am,run_program,ai,hi,hz,aq,newVar,newRow];rw[show z.cells.toList.toArray=z.cells from by simp];rfl
  .cases h
 .cases h
theorem eI6{J:Env}(hJ:J.R8){N:Bn}{P:Program}{t:TypeId}(v:V1)(w:World):(Instr.box t (v.W7 J N)).run P w= .ok (.pointer (some ⟨w.heap.size,0,none⟩)) (w.alloc (.cells (A5 J N v.cs).toArray t)):=by
 have h:=V1.aV5 hJ N v;simp only[Instr.box,newVar,newRow,h];rfl
end Sy
end Go.Proofs.YtnlcpcmdlcakgaaGreat
