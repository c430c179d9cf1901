/- Who waits to be taken: slices.Delete of one. -/
import Derived.Test.YtnjpoidpfcfbeaaLs3
import Derived.Shelf.RegionOpenPlain
import Derived.WalkKit
import Derived.Deep.LoopGhost
import Derived.Deep.RegionLaw
import Derived.Lib.Walk
import Derived.Lib.SliceRun
namespace Go.Proofs.Ytnjpoidpfcfbeaa
open Go.RowKit Sy Go.Lib
set_option linter.unusedVariables false
set_option linter.unusedSimpArgs false

/-- What append and clear leave. -/
theorem del_over {cur : List Value} {rows : List (List Value)} {m k n : Nat} (hn : rows.length = n) (hr : ∀ r ∈ rows, r.length = m) (hk : k < n) (h : cur.take (n * m) = rows.flatten) (hl : n * m ≤ cur.length) (zs : List Value) :
    (overV (overV cur (k * m) (rows.drop (k + 1)).flatten) ((n - 1) * m) zs).take ((n - 1) * m) = (rows.eraseIdx k).flatten := by
  have hnl : (rows.drop (k + 1)).flatten.length = (n - (k + 1)) * m := by rw [flat_len (m := m) fun x hx => hr x (List.mem_of_mem_drop hx), List.length_drop, hn]
  have e1 : k * m + (n - (k + 1)) * m = (n - 1) * m := by rw [← Nat.add_mul]; congr 1; omega
  have e2 : (n - 1) * m ≤ n * m := Nat.mul_le_mul_right _ (by omega)
  have e3 : k * m ≤ (n - 1) * m := Nat.mul_le_mul_right _ (by omega)
  have e4 : k * m ≤ n * m := by omega
  have l1 : (overV cur (k * m) (rows.drop (k + 1)).flatten).length = cur.length := overV_len (by rw [hnl]; omega)
  have t1 : (overV (overV cur (k * m) (rows.drop (k + 1)).flatten) ((n - 1) * m) zs).take ((n - 1) * m) = (overV cur (k * m) (rows.drop (k + 1)).flatten).take ((n - 1) * m) := by
    show (List.take ((n - 1) * m) (overV cur (k * m) (rows.drop (k + 1)).flatten) ++ _).take ((n - 1) * m) = _
    rw [List.take_append_of_le_length (by rw [List.length_take, l1]; omega), List.take_take, Nat.min_self]
  have t2 : (overV cur (k * m) (rows.drop (k + 1)).flatten).take ((n - 1) * m) = cur.take (k * m) ++ (rows.drop (k + 1)).flatten := by
    have hc : (cur.take (k * m) ++ (rows.drop (k + 1)).flatten).length = (n - 1) * m := by rw [List.length_append, List.length_take, hnl]; omega
    show (cur.take (k * m) ++ ((rows.drop (k + 1)).flatten ++ _)).take _ = _
    rw [← List.append_assoc, List.take_append_of_le_length (by omega), List.take_of_length_le (by omega)]
  have t3 : cur.take (k * m) = (rows.take k).flatten := by
    have h1 : (rows.take k).flatten.length = k * m := by
      rw [flat_len (m := m) fun x hx => hr x (List.mem_of_mem_take hx), List.length_take, Nat.min_eq_left (by omega)]
    have h2 : cur.take (k * m) = (cur.take (n * m)).take (k * m) := by rw [List.take_take, Nat.min_eq_left e4]
    rw [h2, h]
    have h3 : rows.flatten = (rows.take k).flatten ++ (rows.drop k).flatten := by rw [← List.flatten_append, List.take_append_drop]
    rw [h3, List.take_append_of_le_length (by omega)]
    exact List.take_of_length_le (by omega)
  rw [t1, t2, t3, ← List.flatten_append, List.eraseIdx_eq_take_drop_succ]
set_option maxHeartbeats 4000000 in
set_option maxRecDepth 100000 in
theorem del_calls {w : World} {g c k : Nat} {rows : List (List Value)} (hT : RowT w g c 129 dnLv rows) (hk : k < rows.length) (hn : rows.length ≤ 4000) :
    Calls Try.prog 71 #[.slice (some ⟨g, 0, none⟩) rows.length c, .int .i64 k, .int .i64 (k + 1 : Nat)] w (RetP fun v w' => v = .slice (some ⟨g, 0, none⟩) (rows.length - 1) c ∧ RowT w' g c 129 dnLv (rows.eraseIdx k) ∧ Only (· = g) w w') := by
  have hlen := hT.len
  have hc : c ≠ 0 := by omega
  obtain ⟨cur, c1, c2, c3, c4⟩ := hT.blk hc
  have hrows : ∀ r ∈ rows, r.length = 3 := hT.rows
  have hok := hT.ok
  have c2 : cur.length = c * 3 := c2
  have c4 : cur.take (rows.length * 3) = rows.flatten := c4
  obtain ⟨n, hnn⟩ : ∃ n, n = rows.length := ⟨_, rfl⟩
  obtain ⟨news, hnews⟩ : ∃ news, news = (rows.drop (k + 1)).flatten := ⟨_, rfl⟩
  have hnl : news.length = (n - (k + 1)) * 3 := by rw [hnews, flat_len (m := 3) (fun x hx => hrows x (List.mem_of_mem_drop hx)), List.length_drop, hnn]
  have hover := del_over (k := k) hnn.symm hrows (by omega) (by rw [hnn]; exact c4) (by omega)
  rw [← hnews] at hover
  have hcl : n * 3 ≤ cur.length := by omega
  have hsrc0 : ∀ t u, news[t]? = some u → w.drew.cell? ⟨g, (k + 1) * 3 + t, none⟩ = some u := fun t u hu => by
    have ht : t < news.length := (List.getElem?_eq_some_iff.1 hu).1
    show w.cell? _ = _
    rw [c1.cell]
    have h1 : rows.flatten = (rows.take (k + 1)).flatten ++ news := by rw [hnews, ← List.flatten_append, List.take_append_drop]
    have h2 : (rows.take (k + 1)).flatten.length = (k + 1) * 3 := by rw [flat_len (m := 3) fun x hx => hrows x (List.mem_of_mem_take hx), List.length_take, Nat.min_eq_left (by omega)]
    have h3 : rows.flatten[(k + 1) * 3 + t]? = some u := by
      rw [h1, List.getElem?_append_right (by omega), h2, Nat.add_sub_cancel_left, hu]
    rw [← c4, List.getElem?_take] at h3
    split at h3
    · exact h3
    · cases h3
  obtain ⟨A, hA, hsrc⟩ : ∃ A : Addr, (if c = k + 1 then some (⟨g, 0, none⟩ : Addr) else some ⟨g, (k + 1) * 3, none⟩) = some A ∧ Hid (∀ t u, news[t]? = some u → w.drew.cell? (A.add t) = some u) := by
    by_cases h : c = k + 1
    · refine ⟨⟨g, 0, none⟩, by simp [h], fun t u hu => ?_⟩
      have h0 : news.length = 0 := by rw [hnl]; have : n - (k + 1) = 0 := by omega
                                      rw [this]
      rw [List.length_eq_zero_iff.1 h0] at hu
      simp at hu
    · refine ⟨⟨g, (k + 1) * 3, none⟩, by simp [h], fun t u hu => ?_⟩
      rw [Addr.add_lit]
      exact hsrc0 t u hu
  have s1 : Hid (news.length = (n - (k + 1)) * 3) := hnl
  have s2 : Hid (∀ u ∈ news, u.oneCell' = true) := by
    rw [hnews]
    exact flat_one (lv := dnLv) fun r hr => hok r (List.mem_of_mem_drop hr)
  have s3 : Hid (∀ t, t < news.length → (w.drew.cell? ⟨g, 0 + k * 3 + t, none⟩).isSome = true ∧ w.drew.frozen? ⟨g, 0 + k * 3 + t, none⟩ = false) := by
    intro t ht
    refine ⟨?_, c1.frozen _⟩
    show (w.cell? _).isSome = true
    rw [c1.cell, List.getElem?_eq_getElem (by omega)]
    rfl
  obtain ⟨W1, hW1⟩ : ∃ W1, W1 = w.drew.setCells g (0 + k * 3) news := ⟨_, rfl⟩
  have b0 : Blk w.drew g 129 cur := c1
  have b1 : Blk W1 g 129 (overV cur (k * 3) news) := by
    rw [hW1, Nat.zero_add]
    exact setCells_same news (k * 3) b0 (by omega)
  have l1 : (overV cur (k * 3) news).length = cur.length := overV_len (by omega)
  obtain ⟨z, hzc, hzv⟩ := zeroS_val (ρ := mkEnv0 [] [] [] []) (β := fun _ => 0) (P := Try.prog) (t := 129) (cs := [.int .i64 (.il 0), .int .u32 (.il 0), .int .i64 (.il 0)]) (by kernel_rfl)
  have hzs : z.cells.size = 3 := by have := congrArg List.length hzc; rw [Array.length_toList] at this; exact this
  have hcl2 : ∀ ty, (Builtin.clear_ #[116] ty #[.slice (some ⟨g, (n - 1) * 3, none⟩) 1 (c - (n - 1))]).run Try.prog W1 = .ok (.tuple #[]) (W1.setCells g ((n - 1) * 3) (List.replicate 1 z.cells.toList).flatten) := fun ty =>
    run_clear_rows (P := Try.prog) W1 116 129 ty z rfl hzv (fun v hv => by rw [hzc] at hv; exact denL_one (fun i => rfl) _ _ v hv) g ((n - 1) * 3) 1 (c - (n - 1)) (by omega) (fun j hj => by
      rw [hzs] at hj
      rw [b1.cell, List.getElem?_eq_getElem (by omega)]
      rfl) fun j hj => b1.frozen _
  have hz3 : (List.replicate 1 z.cells.toList).flatten.length = 3 := by simp [hzs]
  generalize (List.replicate 1 z.cells.toList).flatten = zs at hcl2 hz3
  clear hzs
  have b2 := setCells_same zs ((n - 1) * 3) b1 (by omega)
  have X : Aside (Blk (W1.setCells g ((n - 1) * 3) zs) g 129 (overV (overV cur (k * 3) news) ((n - 1) * 3) zs)) := b2
  have XO : Aside (Only (· = g) w (W1.setCells g ((n - 1) * 3) zs)) := by
    show Only (· = g) w _
    refine setCells_only (S := (· = g)) (.inl rfl) _ _ ?_
    rw [hW1]
    refine setCells_only (S := (· = g)) (.inl rfl) _ _ ?_
    exact ⟨rfl, rfl, rfl, Nat.le_refl _, fun _ _ _ => rfl⟩
  have XH : Aside (((overV (overV cur (k * 3) news) ((n - 1) * 3) zs).take ((n - 1) * 3) = (rows.eraseIdx k).flatten) ∧ (overV (overV cur (k * 3) news) ((n - 1) * 3) zs).length = c * 3) := ⟨hover _, (overV_len (by omega)).trans (l1.trans c2)⟩
  have mixed : (Try.prog).follows Departure.mixedOrders = true := by kernel_rfl
  obtain ⟨j, hj⟩ : ∃ j, j = k + 1 := ⟨_, rfl⟩
  have hlt : k < j := by omega
  have hjn : j ≤ n := by omega
  have hjc : j ≤ c := by omega
  have hback : Aside (k + (n - j) = n - 1 ∧ n - (n - 1) = 1) := by
    show _ ∧ _
    omega
  have hcl3 : ∀ ty, (Builtin.clear_ #[116] ty #[.slice (some ⟨g, (k + (n - j)) * 3, none⟩) (n - (k + (n - j))) (c - (k + (n - j)))]).run Try.prog W1 = .ok (.tuple #[]) (W1.setCells g ((n - 1) * 3) zs) := fun ty => by
    have h := hback.out
    rw [h.1, h.2]
    exact hcl2 ty
  rw [← hj] at hA s1 ⊢
  have hW : Hid (W1 = w.drew.setCells g (0 + k * 3) news) := hW1
  have hkn : k < n := by omega
  have hkc : k ≤ c := by omega
  have hnc : n ≤ c := by omega
  have hn4 : n ≤ 4000 := by omega
  have Xk : Aside (∀ r ∈ rows.eraseIdx k, kAll dnLv r) := fun r hr => hok r (List.mem_of_mem_eraseIdx hr)
  have Xl : Aside ((rows.eraseIdx k).length = n - 1) := by
    show _ = _
    rw [List.length_eraseIdx, if_pos hk, hnn]
  rw [← hnn]
  clear hz3 hcl2 hj hT hsrc0 hcl hover b0 b1 b2 c1 c2 c4 hrows hok l1 hzc hnl hnews hW1 hk hn hlen hnn hzv z
  go_enter Try.func71, Try.ntmps71
  go_wp2_with fail
  obtain ⟨i0, hi0, hz0⟩ : ∃ i0 : TypeInfo, (Try.prog).info? 129 = some i0 ∧ i0.size = 3 := ⟨_, rfl, rfl⟩
  go_region_law_o (refine step_append_room rfl (.tmp 22) (.tmp 25) 116 rfl 129 i0 3 rfl hi0 hz0 g 0 k c (by simp [Act.eval, Act.put]) A (n - j) (c - j) news (by simp [Act.eval, Act.put]) s1.out hsrc.out s2.out (by omega) s3.out ?_; rw [← hW.out])
  go_wp2
  go_ret
  have h := hback.out
  refine ⟨_, rfl, ?_, ?_, XO.out⟩
  · rw [← h.1]; rfl
  · exact RowT.of_blk X.out XH.out.2 c3 (by rw [Xl.out]; exact XH.out.1) (by rw [Xl.out]; omega) Xk.out
end Go.Proofs.Ytnjpoidpfcfbeaa
