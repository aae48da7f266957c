/- The reference's heap: its shape in memory, Cells, there, Get, Len. -/
import Derived.Test.YtddogcpakefdpaaHeapV
import Derived.Test.YtddogcpakefdpaaHeapR
namespace Go.Proofs.Ytddogcpakefdpaa
open Go.RowKit
set_option linter.unusedVariables false
set_option linter.unusedSimpArgs false

set_option maxHeartbeats 400000 in
theorem cells_any (v : Value) (L : List (List Int)) (w : World) (h : RdRows w v L) (hm : cellsN L ≤ 1000000) :
    Calls Try.prog 25 #[v] w fun e w' => e = .returned (.int .i64 (cellsN L)) ∧ w = w' := by
  obtain ⟨A, c, rfl, hc1, hc2⟩ := h.slice
  have H1 := hid h
  clear h
  have hcap : L.length ≤ 9223372036854775807 := by unfold maxLen at hc2; omega
  have hsum : cellsN L = L.length + L.flatten.length := rfl
  have HS := hid hsum
  clear hsum
  generalize hn : L.length = n at *
  have HN := hid hn
  clear hn
  go_enter Try.func25, Try.ntmps25
  go_wp2
  go_loop [3, 4] (fun t i => ∃ k : Nat, k ≤ n ∧ i = .int .i64 k ∧ t = .int .i64 (n + at0 L k : Nat)) (fun _ i => n - (intOf i).toNat)
  case atStart => exact ⟨0, Nat.zero_le _, rfl, by rw [at0_zero]; rfl⟩
  case round =>
    obtain ⟨k, hk, rfl, rfl⟩ := hrel
    have hle := at0_le L k
    have hS := HS.out
    have hb1 : n + at0 L k ≤ 1000000 := by omega
    clear hle hS
    by_cases hlt : k < n
    · have hk' : k < L.length := by have := HN.out; omega
      have hl : L[k]? = some L[k] := List.getElem?_eq_getElem hk'
      obtain ⟨g1, o1, A1, c1, rfl, k1, r1⟩ := H1.out.at_ hl
      have hs := at0_succ L k hk'
      have hle := at0_le L (k + 1)
      have hS := HS.out
      have hb2 : at0 L k + L[k].length ≤ 1000000 := by omega
      have hb3 : n + at0 L k + L[k].length ≤ 1000000 := by omega
      have HS2 := hid hs
      clear hs hle hS hl r1
      generalize L[k].length = x at *
      generalize at0 L k = y at *
      have hi : (k : Int) < (n : Int) := by omega
      have hb4 : (n : Int) + (y : Int) + (x : Int) ≤ 1000000 := by omega
      go_wp2
      go_round
      case rel => exact ⟨k + 1, by omega, by go_num, by rw [HS2.out]; congr 1; omega⟩
      case measure => simp [intOf]; omega
    · have hkn : k = n := by omega
      have e : n + at0 L k = cellsN L := by rw [hkn, ← HN.out, at0_all]; rfl
      have E := hid e
      clear e hkn
      go_wp2
      go_ret
      exact ⟨by rw [← E.out]; simp, rfl⟩

/-- The reference's heap at block yb. -/
structure HeapR (w : World) (yb : Nat) (lv : Value) (us : List Value) (L : List (List Int)) : Prop where
  box : Blk w yb 40 #[lv]
  rows : NewRows 0 w lv us L
  apart : ∀ (i j : Nat) (u v : Value), i ≠ j → us[i]? = some u → us[j]? = some v → ∀ g, blk u = some g → blk v ≠ some g
  most : cellsN L ≤ 40
def footR (yb : Nat) (lv : Value) (us : List Value) : Nat → Prop := fun k => k = yb ∨ blk lv = some k ∨ ∃ u ∈ us, blk u = some k
theorem HeapR.foot_lt {w : World} {yb : Nat} {lv : Value} {us : List Value} {L : List (List Int)} (h : HeapR w yb lv us L) : ∀ k, footR yb lv us k → k < w.heap.size := by
  intro k hk
  rcases hk with rfl | hk | ⟨u, hu, hk⟩
  · exact h.box.lt
  · exact h.rows.own.blk_lt hk
  · obtain ⟨i, hi⟩ := List.getElem?_of_mem hu
    have hlen := h.rows.len
    have hil := (List.getElem?_eq_some_iff.1 hi).1
    exact (h.rows.row i _ u (List.getElem?_eq_getElem (by omega)) hi).1.blk_lt hk
theorem HeapR.fr {M : Nat → Prop} {w w' : World} {yb : Nat} {lv : Value} {us : List Value} {L : List (List Int)} (h : HeapR w yb lv us L) (f : Fr M w w') (hM : ∀ k, footR yb lv us k → ¬ M k) : HeapR w' yb lv us L := by
  refine ⟨h.box.fr f (hM _ (.inl rfl)), ⟨h.rows.own.fr f (fun g hg => hM _ (.inr (.inl hg))), h.rows.new, fun k l u hl hu => ⟨(h.rows.row k l u hl hu).1.fr f (fun g hg => hM _ (.inr (.inr ⟨u, List.mem_of_getElem? hu, hg⟩))), (h.rows.row k l u hl hu).2⟩⟩, h.apart, h.most⟩

/-- What a change of the reference's heap leaves. -/
def NextR (F : Nat → Prop) (w : World) (yb : Nat) (L' : List (List Int)) (w' : World) : Prop :=
  ∃ lv' us', HeapR w' yb lv' us' L' ∧ (∀ k, footR yb lv' us' k → F k ∨ w.heap.size ≤ k) ∧ Fr F w w'
theorem NextR.refl {w : World} {yb : Nat} {lv : Value} {us : List Value} {L : List (List Int)} (h : HeapR w yb lv us L) (k : Nat) : NextR (footR yb lv us) w yb L (w.drewN k) :=
  ⟨lv, us, h.fr ((Fr.refl nob w).drewN k) (fun _ _ x => x), fun _ hk => .inl hk, (Fr.refl _ w).drewN k⟩

theorem thereB_lt {L : List (List Int)} {a i : Int} (h : thereB L a i = true) : ∃ (x : Nat) (l : List Int), a = x + 1 ∧ L[x]? = some l ∧ (∃ y : Nat, i = y ∧ y < l.length) ∧ x < L.length := by
  unfold thereB at h
  simp only [decide_eq_true_eq] at h
  obtain ⟨h1, h2, h3, h4⟩ := h
  have hk : a.toNat - 1 < L.length := by omega
  have e : L.getD (a.toNat - 1) [] = L[a.toNat - 1] := by simp [List.getD, hk]
  rw [e] at h4
  exact ⟨a.toNat - 1, L[a.toNat - 1], by omega, List.getElem?_eq_getElem hk, ⟨i.toNat, by omega, by omega⟩, hk⟩
theorem getD_of {L : List (List Int)} {x : Nat} {l : List Int} (h : L[x]? = some l) : L.getD x [] = l := by simp [List.getD, h]

set_option maxHeartbeats 400000 in
theorem there_any (yb : Nat) (lv : Value) (us : List Value) (L : List (List Int)) (a i : Int) (w : World) (h : HeapR w yb lv us L) :
    Calls Try.prog 26 #[.pointer (some ⟨yb, 0, none⟩), .int .i64 a, .int .i64 i] w fun e w' => e = .returned (.bool (thereB L a i)) ∧ w = w' := by
  have b0 := h.box.cell 0
  obtain ⟨A, c, rfl, hc1, hc2⟩ := h.rows.own.cap
  have H1 := hid h.rows.rd
  clear h
  have hcap : L.length ≤ 9223372036854775807 := by unfold maxLen at hc2; omega
  have hB : thereB L a i = decide (1 ≤ a ∧ a ≤ L.length ∧ 0 ≤ i ∧ i < ((L.getD (a.toNat - 1) []).length : Int)) := rfl
  have HB := hid hB
  clear hB
  by_cases h1 : 1 ≤ a
  · by_cases h2 : a ≤ L.length
    · obtain ⟨x, rfl⟩ : ∃ x : Nat, a = x + 1 := ⟨(a - 1).toNat, by omega⟩
      have hx : x < L.length := by omega
      have hl : L[x]? = some L[x] := List.getElem?_eq_getElem hx
      obtain ⟨g1, o1, A1, c1, rfl, k1, r1⟩ := H1.out.at_ hl
      have e0 : ((x : Int) + 1).toNat - 1 = x := by omega
      have HB' := HB.out
      rw [e0, getD_of hl] at HB'
      have HB := hid HB'
      clear HB' r1 hl e0
      generalize L[x].length = n at *
      generalize L.length = m at *
      by_cases h3 : 0 ≤ i
      · by_cases h4 : i < (n : Int)
        · go_enter Try.func26, Try.ntmps26
          go_wp2
          go_ret
          refine ⟨?_, rfl⟩
          rw [HB.out]; simp; omega
        · go_enter Try.func26, Try.ntmps26
          go_wp2
          go_ret
          refine ⟨?_, rfl⟩
          rw [HB.out]; simp; omega
      · go_enter Try.func26, Try.ntmps26
        go_wp2
        go_ret
        refine ⟨?_, rfl⟩
        rw [HB.out]; simp; omega
    · generalize L.length = m at *
      go_enter Try.func26, Try.ntmps26
      go_wp2
      go_ret
      refine ⟨?_, rfl⟩
      rw [HB.out]; simp; omega
  · go_enter Try.func26, Try.ntmps26
    go_wp2
    go_ret
    refine ⟨?_, rfl⟩
    rw [HB.out]; simp; omega
end Go.Proofs.Ytddogcpakefdpaa
