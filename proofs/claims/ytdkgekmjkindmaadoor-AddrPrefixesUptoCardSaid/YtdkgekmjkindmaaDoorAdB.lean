/- What the rows list gives. -/
import Derived.Test.YtdkgekmjkindmaaDoorCards
import Derived.Test.YtdkgekmjkindmaaDoorTie
import Derived.Test.YtdkgekmjkindmaaDoorAdA
import Derived.Deep.DeepHandedRow
import Derived.Deep.DeepWitnessRowRef
import Derived.Lib.LaidTab
import Derived.LaidMore
import Derived.Stop.LaidErr
import Derived.Shelf.Strings.Shaped
import Derived.Lib.TrailingZeros
namespace Go.Proofs.YtdkgekmjkindmaaDoor
open Go.ChangeShapes Go.WideShapes Go.ChangeAt Go.RowKit Go.Lib Go.Shelf
set_option linter.unusedVariables false
shelf_lay LaysM.n143 Nm 143 at Tryd as Tryd.adIndexM
theorem max_of (W : World) (hsh : W.ShapedOpen Tryd.prog) : ∃ m, W.cell? ⟨gMax, 0, none⟩ = some (.int .i64 m) := Tryd.adIndexM.s1_3 W hsh
/-- What the rows list. -/
abbrev adLaid : List (String × DataW Unit) := Rows.addrParsesUptoRow.laid
theorem ad_star : "*" ++ "errors.errorString" = "*errors.errorString" := by decide
theorem ad_row (u : TypeId) (h : Tryd.prog.typeName? 3 u = some "*errors.errorString") : u = 103 :=
  typeName_ptr_named (nm := "errors.errorString") (by rw [ad_star]; kernel_rfl) (by kernel_rfl) (by decide) u (by rw [ad_star]; exact h)
theorem ad_list {a b c d e f g : String × DataW Unit} {W : World} (h : laidMet Tryd.prog [a, b, c, d, e, f, g] W)
    (hb : b = ("math/bits.deBruijn64tab", tabData .u8 (deBruijn64tab.map fun (x : Nat) => (x : Int))))
    (hc : c = ("internal/strconv.uint64pow10", tabData .u64 pow10Tab))
    (he : ∃ t, e = ("strconv.ErrRange", .iface "*errors.errorString" (.ptr (.agg [.lit (.string t)]))))
    (hf : ∃ t, f = ("strconv.ErrSyntax", .iface "*errors.errorString" (.ptr (.agg [.lit (.string t)])))) (hm : ∃ m, W.cell? ⟨gMax, 0, none⟩ = some (.int .i64 m)) : LibW W := by
  obtain ⟨t1, rfl⟩ := he
  obtain ⟨t2, rfl⟩ := hf
  subst hb hc
  have h1 := h.tail
  have h2 := h1.tail
  have h4 := h2.tail.tail
  have h5 := h4.tail
  have T1 := tabIs_of_head (g := 7) (t := 115) (e := 5) (n := 64) (by kernel_rfl) (by kernel_rfl) Tryd.underlying115 Tryd.underlying5 (by kernel_rfl) (by kernel_rfl) h1
  have T2 := tabIs_of_head (g := gPow) (t := 107) (e := 40) (n := 20) (by kernel_rfl) (by kernel_rfl) Tryd.underlying107 Tryd.underlying40 (by kernel_rfl) (by kernel_rfl) h2
  have gR : Tryd.prog.globalNamed "strconv.ErrRange" = some gRng := by kernel_rfl
  have gS : Tryd.prog.globalNamed "strconv.ErrSyntax" = some gSyn := by kernel_rfl
  obtain ⟨a4, s4, v4, -, -, -⟩ := laid_sentinel h4 gR (by kernel_rfl) Tryd.underlying42 ad_row Tryd.underlying103 Tryd.underlying105 rfl rfl Tryd.underlying9 (by kernel_rfl) (by kernel_rfl)
  obtain ⟨a5, s5, v5, -, -, -⟩ := laid_sentinel h5 gS (by kernel_rfl) Tryd.underlying42 ad_row Tryd.underlying103 Tryd.underlying105 rfl rfl Tryd.underlying9 (by kernel_rfl) (by kernel_rfl)
  refine ⟨?_, hm, ⟨_, by have h0 := World.var?_cell gS v5 0; simpa using h0, .inr ⟨_, _, rfl⟩⟩, ⟨_, by have h0 := World.var?_cell gR v4 0; simpa using h0, .inr ⟨_, _, rfl⟩⟩, T2⟩
  have h7 := T1.cell (g := 7) (by kernel_rfl) 0 (by decide)
  have : 7 < W.heap.size := by
    rcases Nat.lt_or_ge 7 W.heap.size with q | q
    · exact q
    · rw [World.cell?, Array.getElem?_eq_none q] at h7
      cases h7
  omega
/-- At the row. -/
theorem ad_laid {W : World} (h : laidMetH Tryd.prog adLaid W) (hsh : W.ShapedOpen Tryd.prog) : LibW W := by
  rw [MakeChecks.laidMetH_plain _ _ _ (by kernel_rfl)] at h
  exact ad_list (a := _) (b := _) (c := _) (d := _) (e := _) (f := _) (g := _) h (by kernel_rfl) (by kernel_rfl) ⟨_, rfl⟩ ⟨_, rfl⟩ (max_of W hsh)
/-- A world for the witness: what the door's run leaves; the pinned table written out. -/
noncomputable def adWorld (os : Os) : World :=
  { World.doorLaid Tryd.prog 400 os with heap := (World.doorLaid Tryd.prog 400 os).heap.modify 3 fun
      | .cells _ t frozen => .cells (Pinned.utf8FirstZ.map fun (n : Nat) => Value.int .u8 (n : Int)).toArray t frozen
      | o => o }
theorem ad_door (os : Os) (args : Array Value) : laidMetH Tryd.prog adLaid ((adWorld os).forCall (fun _ _ => 0) ⟨#[], args, []⟩).memory :=
  laidMetH_of_parts3 (fuel := 8) (laidMet_of_run' 8 (by kernel_rfl) (by kernel_rfl)) (by kernel_rfl) (by kernel_rfl)
end Go.Proofs.YtdkgekmjkindmaaDoor
