/- The head of the heap's statements. -/
import Derived.Test.YtddogcpakefdpaaHeapT
namespace Go.Proofs.Ytddogcpakefdpaa
open Go.RowKit
set_option linter.unusedVariables false
set_option linter.unusedSimpArgs false

set_option maxHeartbeats 800000 in
theorem shown_any (w : World) : Calls Try.prog 8 #[] w fun e w' => e = .returned (.bool true) ∧ Fr nob w w' := by
  go_enter Try.func8, Try.ntmps8
  go_wp2_with (first | (go_at_call 9; refine (new_any _).mono ?_; rintro e w1 ⟨rfl, hw⟩; have H0 := hid (HeapP.new w); rw [← hw] at H0; have W1 := hid hw; clear hw) | (go_at_call 10; refine (make_any _ _ _ _ 2 _ H0.out).mono ?_; rintro e w2 ⟨he, cv, ev, h2, hf, hfr⟩; (rw [show mkA [] 2 = 1 from by decide, show mkT [] 2 = 0 from by decide] at he; subst he); have H2 := hid h2; have F2 := hid hfr; have V2 := hid hf; clear h2 hf hfr) | (go_at_call 12; refine (put_any _ _ _ _ 1 1 7 _ H2.out).mono ?_; rintro e w3 ⟨he, cv3, ev3, h3, hf, hfr⟩; (rw [show trapN (mkL [] 2) 1 1 = 0 from by decide] at he; subst he); have H3 := hid h3; have F3 := hid hfr; have V3 := hid hf; clear h3 hf hfr) | (go_at_call 11; refine (lists_any _ _ _ _ _ H3.out).mono ?_; rintro e w4 ⟨v, us, rfl, hr, hfr⟩; (rw [show putL (mkL [] 2) 1 1 7 = [[0, 7]] from by decide] at hr); (obtain ⟨g, c, rfl, _, _, _, _, hc, _⟩ := hr.own.one (by decide)); have hu := hr.len; (obtain ⟨u, rfl⟩ : ∃ u, us = [u] := by (match us, hu with | [u], _ => exact ⟨u, rfl⟩)); (obtain ⟨ho, _⟩ := hr.row 0 [0, 7] u rfl rfl); (obtain ⟨g2, c2, rfl, _, _, _, _, hc2, _⟩ := ho.one (by decide)); have k0 := hc 0 (by decide); have k1 : _ = some (Value.int .i64 7) := hc2 1 (by decide); have F4 := hid hfr; clear hr hfr hu ho hc hc2))
  go_ret
  refine ⟨rfl, ?_⟩
  have f1 : Fr nob w w1 := by rw [W1.out]; exact (Fr.refl _ w).alloc _
  have s1 : w1.heap.size = w.heap.size + 1 := by rw [W1.out]; simp
  have v1 : ∀ k, footP w.heap.size (.slice none 0 0) (.slice none 0 0) k → w.heap.size ≤ k := fun k hk => by
    rcases hk with h | h | h
    · omega
    · simp [blk] at h
    · simp [blk] at h
  have v2 : ∀ k, footP w.heap.size cv ev k → w.heap.size ≤ k := fun k hk => by
    rcases V2.out k hk with h | h
    · exact v1 k h
    · omega
  have f2 : Fr nob w w2 := f1.trans F2.out (fun _ _ x => x) (fun k hk h => by have := v1 k h; omega)
  have f3 : Fr nob w w3 := f2.trans F3.out (fun _ _ x => x) (fun k hk h => by have := v2 k h; omega)
  exact f3.tr F4.out

/-- The lists of HeapFills. -/
def fill (m n : Nat) : List (List Int) := List.replicate m (List.replicate n 0)
theorem fill_cells (m n : Nat) : cellsN (fill m n) = m * (n + 1) := by
  unfold cellsN fill
  simp [List.length_flatten, Nat.mul_add]; omega
theorem fill_step (i n : Nat) (hn : n ≤ 16) : mkL (fill (min i (40 / (n + 1))) n) n = fill (min (i + 1) (40 / (n + 1))) n ∧
    mkT (fill (min i (40 / (n + 1))) n) n = (if i < 40 / (n + 1) then 0 else 4) ∧ mkA (fill (min i (40 / (n + 1))) n) n = (if i < 40 / (n + 1) then ((i + 1 : Nat) : Int) else 0) := by
  have key : ∀ m, (cellsN (fill m n) : Int) + n + 1 ≤ 40 ↔ m + 1 ≤ 40 / (n + 1) := fun m => by
    rw [fill_cells, Nat.le_div_iff_mul_le (by omega), Nat.add_mul]; omega
  unfold mkL mkT mkA
  have e0 : ¬ ((n : Int) < 0 ∨ 16 < (n : Int)) := by omega
  by_cases h : i < 40 / (n + 1)
  · have hm : min i (40 / (n + 1)) = i := by omega
    have hm' : min (i + 1) (40 / (n + 1)) = i + 1 := by omega
    have hk := (key i).2 (by omega)
    rw [hm, hm']
    have e1 : (0 ≤ (n : Int) ∧ (n : Int) ≤ 16 ∧ (cellsN (fill i n) : Int) + n + 1 ≤ 40) := by omega
    simp only [if_pos e1, if_neg e0, if_pos hk, if_pos h]
    refine ⟨?_, trivial, by simp [fill]⟩
    simp [fill, List.replicate_succ']
  · have hm : min i (40 / (n + 1)) = 40 / (n + 1) := by omega
    have hm' : min (i + 1) (40 / (n + 1)) = 40 / (n + 1) := by omega
    have hk : ¬ ((cellsN (fill (40 / (n + 1)) n) : Int) + n + 1 ≤ 40) := fun x => by have := (key _).1 x; omega
    rw [hm, hm']
    have e1 : ¬ (0 ≤ (n : Int) ∧ (n : Int) ≤ 16 ∧ (cellsN (fill (40 / (n + 1)) n) : Int) + n + 1 ≤ 40) := by omega
    simp only [if_neg e1, if_neg e0, if_neg hk, if_neg h]
    trivial
end Go.Proofs.Ytddogcpakefdpaa
