/- The program's heap: list, Make, Get, Put and Len, one contract each. -/
import Derived.Test.YtddogcpakefdpaaHeapQ
namespace Go.Proofs.Ytddogcpakefdpaa
open Go.RowKit
set_option linter.unusedVariables false
set_option linter.unusedSimpArgs false

theorem drewN_zero (w : World) : w = w.drewN 0 := rfl
theorem HeapP.fr {M : Nat → Prop} {w w' : World} {hb : Nat} {cv ev : Value} {L : List (List Int)} (h : HeapP w hb cv ev L) (f : Fr M w w') (hM : ∀ k, footP hb cv ev k → ¬ M k) : HeapP w' hb cv ev L :=
  ⟨h.box.fr f (hM _ (.inl rfl)), h.cells.fr f (fun g hg => hM _ (.inr (.inl hg))), h.ends.fr f (fun g hg => hM _ (.inr (.inr hg))), h.apart, h.most⟩
theorem HeapP.foot_lt {w : World} {hb : Nat} {cv ev : Value} {L : List (List Int)} (h : HeapP w hb cv ev L) : ∀ k, footP hb cv ev k → k < w.heap.size := by
  intro k hk
  rcases hk with rfl | hk | hk
  · exact h.box.lt
  · exact h.cells.blk_lt hk
  · exact h.ends.blk_lt hk

/-- Where list 'at_' lies. -/
def Sub (cv : Value) (L : List (List Int)) (at_ : Int) (A' : Option Addr) : Prop :=
  0 < lenN L at_ → ∃ g c, cv = .slice (some ⟨g, 0, none⟩) L.flatten.length c ∧ 0 < c ∧ A' = some ⟨g, at0 L (at_.toNat - 1), none⟩

theorem list_any (hb : Nat) (cv ev : Value) (L : List (List Int)) (at_ : Int) (w : World) (h : HeapP w hb cv ev L) :
    Calls Try.prog 24 #[.pointer (some ⟨hb, 0, none⟩), .int .i64 at_] w fun e w' => (∃ A', e = .returned (.slice A' (lenN L at_) (lenN L at_)) ∧ Sub cv L at_ A') ∧ w = w' := by
  by_cases hn : 1 ≤ at_ ∧ at_ ≤ L.length
  · obtain ⟨k, rfl⟩ : ∃ k : Nat, at_ = k + 1 := ⟨(at_ - 1).toNat, by omega⟩
    have hk : k < L.length := by omega
    have e1 : lenN L (k + 1) = (L.getD k []).length := by
      unfold lenN; rw [if_pos hn]; congr 2
    refine (list_in hb cv ev L k w h hk).mono ?_
    rintro e w' ⟨⟨v, rfl, A, c, A', hcv, rfl, hs⟩, rfl⟩
    refine ⟨⟨A', by rw [e1], fun hp => ?_⟩, rfl⟩
    rw [e1] at hp
    obtain ⟨g, rfl, hc, rfl⟩ := hs hp
    exact ⟨g, c, hcv, hc, by congr 2⟩
  · have e1 : lenN L at_ = 0 := by unfold lenN; rw [if_neg hn]
    refine (list_no hb cv ev L at_ w h (by omega)).mono ?_
    rintro e w' ⟨rfl, rfl⟩
    exact ⟨⟨none, by rw [e1], fun hp => by omega⟩, rfl⟩

theorem NextP.refl {w : World} {hb : Nat} {cv ev : Value} {L : List (List Int)} (h : HeapP w hb cv ev L) (k : Nat) : NextP (footP hb cv ev) w hb L (w.drewN k) :=
  ⟨cv, ev, h.fr ((Fr.refl nob w).drewN k) (fun _ _ x => x), fun _ hk => .inl hk, (Fr.refl _ w).drewN k⟩

theorem make_any (hb : Nat) (cv ev : Value) (L : List (List Int)) (n : Int) (w : World) (h : HeapP w hb cv ev L) :
    Calls Try.prog 10 #[.pointer (some ⟨hb, 0, none⟩), .int .i64 n] w fun e w' => e = .returned (.tuple #[.int .i64 (mkA L n), .int .i64 (mkT L n)]) ∧ NextP (footP hb cv ev) w hb (mkL L n) w' := by
  by_cases h0 : n < 0 ∨ 16 < n
  · refine (make_size hb n w h0).mono ?_
    rintro e w' ⟨rfl, rfl⟩
    have e1 : ¬ (0 ≤ n ∧ n ≤ 16 ∧ (cellsN L : Int) + n + 1 ≤ 40) := by omega
    simp only [mkL, mkA, mkT, if_neg e1, if_pos h0]
    exact ⟨trivial, NextP.refl h 0⟩
  · by_cases h2 : (cellsN L : Int) + n + 1 ≤ 40
    · obtain ⟨k, rfl⟩ : ∃ k : Nat, n = k := ⟨n.toNat, by omega⟩
      refine (make_yes hb cv ev L k w h (by omega) (by omega)).mono ?_
      rintro e w' ⟨rfl, hn⟩
      have e1 : (0 ≤ (k : Int) ∧ (k : Int) ≤ 16 ∧ (cellsN L : Int) + k + 1 ≤ 40) := by omega
      simp only [mkL, mkA, mkT, if_pos e1, if_neg h0, if_pos h2, Int.toNat_natCast]
      exact ⟨by simp, hn⟩
    · refine (make_full hb cv ev L n w h (by omega) (by omega) (by omega)).mono ?_
      rintro e w' ⟨rfl, k, rfl⟩
      have e1 : ¬ (0 ≤ n ∧ n ≤ 16 ∧ (cellsN L : Int) + n + 1 ≤ 40) := by omega
      simp only [mkL, mkA, mkT, if_neg e1, if_neg h0, if_neg h2]
      exact ⟨trivial, NextP.refl h k⟩

theorem thereB_iff (L : List (List Int)) (a i : Int) : thereB L a i = true ↔ 0 ≤ i ∧ i < (lenN L a : Int) := by
  unfold thereB lenN
  split
  · simp; omega
  · simp; constructor <;> intro h1 <;> omega
theorem there_get (L : List (List Int)) (a i : Int) (h : thereB L a i = true) : L.flatten[at0 L (a.toNat - 1) + i.toNat]? = some (getN L a i) := by
  have h' := h
  unfold thereB at h'
  simp only [decide_eq_true_eq] at h'
  obtain ⟨h1, h2, h3, h4⟩ := h'
  have hk : a.toNat - 1 < L.length := by omega
  have e : L.getD (a.toNat - 1) [] = L[a.toNat - 1] := by simp [List.getD, hk]
  unfold getN
  rw [if_pos h, e]
  rw [e] at h4
  rw [flat_get L _ _ hk (by omega)]
  simp [List.getD, show i.toNat < L[a.toNat - 1].length by omega]

set_option maxHeartbeats 400000 in
theorem get_any (hb : Nat) (cv ev : Value) (L : List (List Int)) (a i : Int) (w : World) (h : HeapP w hb cv ev L) :
    Calls Try.prog 13 #[.pointer (some ⟨hb, 0, none⟩), .int .i64 a, .int .i64 i] w fun e w' => e = .returned (.tuple #[.int .i64 (getN L a i), .int .i64 (trapN L a i)]) ∧ w = w' := by
  have hl := hid (list_any hb cv ev L a w h)
  by_cases ht : thereB L a i = true
  · have hb := (thereB_iff L a i).1 ht
    have hg := there_get L a i ht
    obtain ⟨j, rfl⟩ : ∃ j : Nat, i = j := ⟨i.toNat, by omega⟩
    have hfin : getN L a j = getN L a j ∧ trapN L a j = 0 := ⟨rfl, by unfold trapN; rw [if_pos ht]⟩
    generalize getN L a j = r at *
    rw [hfin.2]
    rw [Int.toNat_natCast] at hg
    have hcell : ∀ A', Sub cv L a A' → ∃ g o, A' = some ⟨g, o, none⟩ ∧ w.cell? ⟨g, o + j, none⟩ = some (.int .i64 r) := by
      intro A' hs
      obtain ⟨g, c, rfl, hc, rfl⟩ := hs (by omega)
      have hp : 0 < L.flatten.length := by
        have := (List.getElem?_eq_some_iff.1 hg).1; omega
      obtain ⟨g', c', hv, _, _, _, _, hcell, _⟩ := h.cells.one hp
      injection hv with hv; injection hv with hv; injection hv with hv
      subst hv
      refine ⟨g, _, rfl, ?_⟩
      rw [hcell _ (List.getElem?_eq_some_iff.1 hg).1]
      simp [List.getD, ivs_get, hg]
    have Hc := hid hcell
    clear hcell hg hfin h
    generalize lenN L a = m at *
    have hj1 : (j : Int) < (m : Int) := by omega
    have hj0 : (0 : Int) ≤ (j : Int) := by omega
    clear ht hb
    go_enter Try.func13, Try.ntmps13
    go_wp2_with (go_at_call 24; refine hl.out.mono ?_; rintro e w' ⟨⟨A', rfl, hs⟩, rfl⟩; obtain ⟨g, o, rfl, hc⟩ := Hc.out A' hs; clear hs)
    go_ret2
    exact ⟨rfl, rfl⟩
  · have hf : thereB L a i = false := by simpa using ht
    have hn : ¬ (0 ≤ i ∧ i < (lenN L a : Int)) := fun x => ht ((thereB_iff L a i).2 x)
    have hfin : getN L a i = 0 ∧ trapN L a i = 2 := by unfold getN trapN; rw [if_neg ht, if_neg ht]; exact ⟨rfl, rfl⟩
    rw [hfin.1, hfin.2]
    clear hfin h ht hf
    generalize lenN L a = m at *
    rcases (by omega : i < 0 ∨ 0 ≤ i ∧ (m : Int) ≤ i) with h0 | ⟨h0, h1⟩
    all_goals
      clear hn
      go_enter Try.func13, Try.ntmps13
      go_wp2_with (go_at_call 24; refine hl.out.mono ?_; rintro e w' ⟨⟨A', rfl, hs⟩, rfl⟩; clear hs)
      go_ret2
      exact ⟨rfl, rfl⟩
end Go.Proofs.Ytddogcpakefdpaa
