/- The program's heap: Clone; the reference's Make in one contract. -/
import Derived.Test.YtddogcpakefdpaaHeapZ
namespace Go.Proofs.Ytddogcpakefdpaa
open Go.RowKit
set_option linter.unusedVariables false
set_option linter.unusedSimpArgs false

theorem rmake_any (yb : Nat) (lv : Value) (us : List Value) (L : List (List Int)) (n : Int) (w : World) (h : HeapR w yb lv us L) :
    Calls Try.prog 15 #[.pointer (some ⟨yb, 0, none⟩), .int .i64 n] w fun e w' => e = .returned (.tuple #[.int .i64 (mkA L n), .int .i64 (mkT L n)]) ∧ NextR (footR yb lv us) w yb (mkL L n) w' := by
  by_cases h0 : n < 0 ∨ 16 < n
  · refine (rmake_size yb n w h0).mono ?_
    rintro e w' ⟨rfl, rfl⟩
    have e1 : ¬ (0 ≤ n ∧ n ≤ 16 ∧ (cellsN L : Int) + n + 1 ≤ 40) := by omega
    simp only [mkL, mkA, mkT, if_neg e1, if_pos h0]
    exact ⟨trivial, NextR.refl h 0⟩
  · by_cases h2 : (cellsN L : Int) + n + 1 ≤ 40
    · obtain ⟨k, rfl⟩ : ∃ k : Nat, n = k := ⟨n.toNat, by omega⟩
      refine (rmake_yes yb lv us L k w h (by omega) (by omega)).mono ?_
      rintro e w' ⟨rfl, hn⟩
      have e1 : (0 ≤ (k : Int) ∧ (k : Int) ≤ 16 ∧ (cellsN L : Int) + k + 1 ≤ 40) := by omega
      simp only [mkL, mkA, mkT, if_pos e1, if_neg h0, if_pos h2, Int.toNat_natCast]
      exact ⟨by simp, hn⟩
    · refine (rmake_full yb lv us L n w h (by omega) (by omega) (by omega)).mono ?_
      rintro e w' ⟨rfl, rfl⟩
      have e1 : ¬ (0 ≤ n ∧ n ≤ 16 ∧ (cellsN L : Int) + n + 1 ≤ 40) := by omega
      simp only [mkL, mkA, mkT, if_neg e1, if_neg h0, if_neg h2]
      exact ⟨trivial, NextR.refl h 0⟩

theorem keep2 {w w1 : World} {p q : Addr} {u v : Value} (hfr : Fr nob w w1) (h : w.cell? p = some u ∧ w.cell? q = some v) : w1.cell? p = some u ∧ w1.cell? q = some v :=
  ⟨(hfr.cell (World.block_lt_of_cell? _ _ h.1) (fun x => x)).trans h.1, (hfr.cell (World.block_lt_of_cell? _ _ h.2) (fun x => x)).trans h.2⟩

set_option maxHeartbeats 800000 in
theorem pclone_any (hb : Nat) (cv ev : Value) (L : List (List Int)) (w : World) (h : HeapP w hb cv ev L) :
    Calls Try.prog 19 #[.pointer (some ⟨hb, 0, none⟩)] w fun e w' => ∃ nb cv' ev', e = .returned (.pointer (some ⟨nb, 0, none⟩)) ∧ HeapP w' nb cv' ev' L ∧ (∀ k, footP nb cv' ev' k → w.heap.size ≤ k) ∧ Fr nob w w' := by
  have b0 := h.box.cell 0
  have b1 := h.box.cell 1
  have hlt := h.box.lt
  obtain ⟨A, c, rfl, hc, hcm⟩ := h.ends.cap
  obtain ⟨A', c', rfl, hc', hcm'⟩ := h.cells.cap
  have hm := h.most
  have hR1 := h.cells.rd
  have hR2 := h.ends.rd
  have R1 := hid hR1
  have R2 := hid hR2
  have HM := hid hm
  unfold cellsN at hm
  clear h hR1 hR2
  generalize hN : L.flatten.length = N at *
  generalize hM : L.length = M at *
  have HN := hid hN
  have HL := hid hM
  clear hN hM
  go_enter Try.func19, Try.ntmps19
  go_wp2_with fail
  go_region_held3 (fun w' => w'.cell? ⟨hb, 0, none⟩ = some (.slice A' N c') ∧ w'.cell? ⟨hb, 1, none⟩ = some (.slice A M c))
    (first | exact keep2 hfr (by assumption) | go_keep)
    (first
      | (go_at_call 23; with_reducible refine (clone_any (.slice A' N c') N L.flatten _ (R1.out.no (by decide) ((Fr.refl nob w).drew)) (by omega)).mono ?_; rintro e w1 ⟨A1, c1, rfl, hn1⟩; have hfr := hn1.fr; have N1 := hid hn1; clear hn1)
      | (go_at_call 23; with_reducible refine (clone_any (.slice A M c) M (endsOf L) _ (R2.out.no (by decide) (((Fr.refl nob w).drew).tr N1.out.fr)) (by omega)).mono ?_; rintro e w2 ⟨A2, c2, rfl, hn2⟩; have hfr := hn2.fr; have N2 := hid hn2; clear hn2))
  go_wp2
  go_ret
  have s1 := N1.out.fr.size
  have s2 := N2.out.fr.size
  rw [World.size_drew] at s1
  have o1 : Own w2 3 1 (.slice A1 N c1) N (ivs L.flatten) := N1.out.own.fr N2.out.fr (fun _ _ x => x)
  refine ⟨w2.heap.size, .slice A1 N c1, .slice A2 M c2, rfl, ⟨Blk.new _ _ _, ?_, ?_, ?_, HM.out⟩, ?_, ?_⟩
  · rw [HN.out]; exact o1.alloc _
  · rw [HL.out]; exact N2.out.own.alloc _
  · intro g h1 h2
    have a1 := N1.out.own.blk_lt h1
    have a2 := N2.out.new g h2
    omega
  · intro k hk
    rcases hk with h | h | h
    · omega
    · have := N1.out.new k h; rw [World.size_drew] at this; omega
    · have := N2.out.new k h; omega
  · exact ((((Fr.refl nob w).drew).tr N1.out.fr).tr N2.out.fr).alloc _
end Go.Proofs.Ytddogcpakefdpaa
