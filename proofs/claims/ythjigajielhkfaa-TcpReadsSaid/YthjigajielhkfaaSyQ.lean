/- Contracts in letters of wire.Get16 and wire.Get32: numbers of bytes of a row. -/
import Derived.Test.YthjigajielhkfaaSyP
import Derived.Test.YthjigajielhkfaaRead
namespace Go.Proofs.Ythjigajielhkfaa
namespace Sy
open Go Go.RowKit
set_option linter.unusedVariables false

def getV (c : Cx) (str off : Tm) (n : Nat) : Tm := ap1 0 (mkCut c str off (mkAdd off (.il (n : Int))))
def getSp (f : FuncId) (n : Nat) (k : IntKind) : Spec where
  f := f
  pre := fun s xs => match xs with
    | [.one (.c (.slr l off len an))] => match rowFind s.hp l with
      | some str => some (inRow s.cx str off len ++ need s.cx (.le (.il (n : Int)) len))
      | none => none
    | _ => none
  go := fun _ s xs => match xs with
    | [.one (.c (.slr l off len an))] => match rowFind s.hp l with
      | some str => some ({ s with cx := ⟨⟨getV s.cx str off n, 0, 256 ^ n - 1⟩ :: s.cx.bs, s.cx.pc⟩ }, .one (.c (.int k (getV s.cx str off n))))
      | none => none
    | _ => none
theorem At8.rowB {w : World} {g c : Nat} {ty : TypeId} {own : Bool} {l : List UInt8} (h : RowB w g c ty own l) (hc : c ≠ 0) : At8 w g l := fun j u hj => by
  have hlt : j < l.length := by
    rcases Nat.lt_or_ge j l.length with hlt | hge
    · exact hlt
    · simp [cells8, hge] at hj
  rw [(h.cell hlt).1]
  simp [cells8, hlt] at hj
  rw [hj]
theorem getSp_ok {P : Program} {ρ : Env} (hf : ρ.f = stdF) {f : FuncId} {n : Nat} {k : IntKind} (hn : 0 < n)
    (h : ∀ (g o len cap : Nat) (l : List UInt8) (w : World), At8 w g l → o + n ≤ l.length → n ≤ len → len ≤ cap → Calls P f #[.slice (some ⟨g, o, none⟩) len cap] w fun e w' => e = .returned (.int k (numL ((l.drop o).take n) : Int)) ∧ ∃ n, w' = w.drewN n) : (getSp f n k).Ok P ρ := by
  intro B s xs m s' v hB hpre hgo hm β a w hM
  subst hB
  match xs, hpre, hgo with
  | [.one (.c (.slr l off len an))], hpre, hgo =>
    simp only [getSp] at hpre hgo
    split at hpre
    · rename_i str hstr
      rw [hstr] at hgo
      injection hpre with hpre
      injection hgo with hgo
      injection hgo with h1 h2
      subst hpre h1 h2
      obtain ⟨ty, own, hR⟩ := rowFind_ok hstr hM.hp
      obtain ⟨b1, b2, b3⟩ := inRow_ok hM.cx hm.l
      have b4 := le_of (need_ok hM.cx hm.r)
      change (n : Int) ≤ _ at b4
      have hcap := hR.len
      have hc0 : β (l + 1) ≠ 0 := by omega
      have hv : (den B.ρ (getV s.cx str off n)).i = (numL (((den B.ρ str).s.data.toList.drop (den B.ρ off).i.toNat).take n) : Int) := by
        show (B.ρ.f 0 (den B.ρ (mkCut s.cx str off (mkAdd off (.il (n : Int))))) _ _).i = _
        rw [hf]
        show ((numL (den B.ρ (mkCut s.cx str off (mkAdd off (.il (n : Int))))).s.data.toList : Nat) : Int) = _
        rw [mkCut_ok hM.cx, mkAdd_ok]
        change ((numL (((den B.ρ str).s.extract (den B.ρ off).i.toNat ((den B.ρ off).i + (n : Int)).toNat)).data.toList : Nat) : Int) = _
        rw [show ((den B.ρ off).i + (n : Int)).toNat = (den B.ρ off).i.toNat + n from by omega, extract_len _ _ _ (by omega)]
      refine (h (β l) (den B.ρ off).i.toNat (den B.ρ len).i.toNat (β (l + 1) - (den B.ρ off).i.toNat) _ w (At8.rowB hR hc0) (by omega) (by omega) (by omega) |> fun q => ?_)
      have hargs : ([SV.one (.c (.slr l off len an))].map (SV.den B.ρ β)).toArray = #[.slice (some ⟨β l, (den B.ρ off).i.toNat, none⟩) (den B.ρ len).i.toNat (β (l + 1) - (den B.ρ off).i.toNat)] := by
        show #[C.den B.ρ β (.slr l off len an)] = _
        rw [slr_den]
        unfold slrZ
        rw [if_neg hc0, if_neg (by omega)]
      rw [hargs]
      refine q.mono ?_
      rintro e w' ⟨rfl, j, rfl⟩
      refine ⟨β, a, ?_, ?_⟩
      · show _ = Ending.returned (.int k (den B.ρ (getV s.cx str off n)).i)
        rw [hv]
      · refine ⟨hM.act, fun b hb => (hM.hp b hb).keep fun _ => rfl, hM.ne, hM.may, ⟨fun x hx => ?_, hM.cx.pc⟩, hM.only.then_below ⟨rfl, rfl, rfl, Nat.le_refl _, fun _ _ => rfl⟩, hM.old⟩
        rcases List.mem_cons.1 hx with rfl | hx
        · show (0 : Int) ≤ (den B.ρ (getV s.cx str off n)).i ∧ (den B.ρ (getV s.cx str off n)).i ≤ 256 ^ n - 1
          rw [hv]
          have := numL_le (l := ((den B.ρ str).s.data.toList.drop (den B.ρ off).i.toNat).take n) (k := n) (by simp; omega)
          rw [← pow_int]
          have := Nat.pow_pos (n := n) (show 0 < 256 by omega)
          omega
        · exact hM.cx.bs x hx
    · cases hpre
def get16Sp : Spec := getSp 120 2 .u16
def get32Sp : Spec := getSp 121 4 .u32
theorem get16Sp_ok {ρ : Env} (hf : ρ.f = stdF) : get16Sp.Ok Try.prog ρ := getSp_ok hf (by omega) fun g o len cap l w h1 h2 h3 h4 => wire_Get16 g o len cap l w h1 h2 h3
theorem get32Sp_ok {ρ : Env} (hf : ρ.f = stdF) : get32Sp.Ok Try.prog ρ := getSp_ok hf (by omega) fun g o len cap l w h1 h2 h3 h4 => wire_Get32 g o len cap l w h1 h2 h3 h4
end Sy
end Go.Proofs.Ythjigajielhkfaa
