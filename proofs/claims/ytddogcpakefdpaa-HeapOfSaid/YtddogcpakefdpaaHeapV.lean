/- The reference's heap: Ints, Same, Cells, and the reading of rows. -/
import Derived.Test.YtddogcpakefdpaaHeapT
namespace Go.Proofs.Ytddogcpakefdpaa
open Go.RowKit
set_option linter.unusedVariables false
set_option linter.unusedSimpArgs false

theorem Rd.at_ {w : World} {A : Option Addr} {n c : Nat} {xs : List Value} (h : Rd w 1 (.slice A n c) n xs) {k : Nat} {u : Value} (hu : xs[k]? = some u) :
    ∃ g o, A = some ⟨g, o, none⟩ ∧ w.cell? ⟨g, o + k, none⟩ = some u := by
  obtain ⟨hl, A', c', hv, _, _, h3⟩ := h
  injection hv with hA _ _
  subst hA
  have := (List.getElem?_eq_some_iff.1 hu).1
  obtain ⟨ad, rfl, hsp, hc⟩ := h3 (by omega)
  obtain ⟨g, o, s⟩ := ad
  simp only at hsp; subst hsp
  exact ⟨g, o, rfl, hc k u hu⟩

set_option maxHeartbeats 800000 in
theorem ints_any (A B : Option Addr) (n m c d : Nat) (l1 l2 : List Int) (w : World) (h1 : Rd w 1 (.slice A n c) n (ivs l1)) (h2 : Rd w 1 (.slice B m d) m (ivs l2)) :
    Calls Try.prog 27 #[.slice A n c, .slice B m d] w fun e w' => e = .returned (.bool (decide (l1 = l2))) ∧ ∃ k, w' = w.drewN k := by
  have hn : l1.length = n := by have := h1.1; simpa [ivs] using this
  have hm : l2.length = m := by have := h2.1; simpa [ivs] using this
  have hcap : n ≤ 9223372036854775807 := by
    obtain ⟨_, _, hv, h3, h4⟩ := h1.slice; injection hv with _ _ hv; subst hv; unfold maxLen at h4; omega
  have HN := hid hn
  have HM := hid hm
  have H1 := hid h1
  have H2 := hid h2
  clear h1 h2 hn hm
  by_cases hnm : n = m
  · subst hnm
    go_enter Try.func27, Try.ntmps27
    go_wp2
    go_loopw [5] (fun i w' => ∃ k : Nat, k ≤ n ∧ i = .int .i64 k ∧ l1.take k = l2.take k ∧ ∃ q, w' = w.drewN q) (fun i _ => n - (intOf i).toNat)
    case atStart => exact ⟨0, Nat.zero_le _, rfl, rfl, 0, rfl⟩
    case round =>
      obtain ⟨k, hk, rfl, ht, q, rfl⟩ := hrel
      have HT := hid ht
      clear ht
      by_cases hlt : k < n
      · obtain ⟨v1, hv1⟩ : ∃ v1, l1[k]? = some v1 := ⟨_, List.getElem?_eq_getElem (by have := HN.out; omega)⟩
        obtain ⟨v2, hv2⟩ : ∃ v2, l2[k]? = some v2 := ⟨_, List.getElem?_eq_getElem (by have := HM.out; omega)⟩
        obtain ⟨g1, o1, rfl, c1⟩ := H1.out.at_ (k := k) (u := .int .i64 v1) (by simp [ivs_get, hv1])
        obtain ⟨g2, o2, rfl, c2⟩ := H2.out.at_ (k := k) (u := .int .i64 v2) (by simp [ivs_get, hv2])
        have hi : (k : Int) < (n : Int) := by omega
        have hi0 : (0 : Int) ≤ (k : Int) := by omega
        have V1 := hid hv1
        have V2 := hid hv2
        clear hv1 hv2
        by_cases hv : v1 = v2
        · subst hv
          go_wp2
          go_quiet (fail)
          go_wp2
          go_roundw
          case rel =>
            refine ⟨k + 1, by omega, by go_num, ?_, _, rfl⟩
            rw [List.take_add_one, List.take_add_one, HT.out, V1.out, V2.out]
          case measure => simp [intOf]; omega
        · have hb : (v1 != v2) = true := by simpa using hv
          have HV := hid hv
          clear hv
          go_wp2
          go_quiet (fail)
          go_wp2
          go_ret
          refine ⟨?_, _, World.drewN_drewN _ _ _⟩
          have : ¬ l1 = l2 := fun e => by
            have a := V1.out; have b := V2.out
            rw [e, b] at a; injection a with a; exact HV.out a.symm
          simp [this]
      · go_wp2
        go_ret
        refine ⟨?_, _, rfl⟩
        have e := HT.out
        rw [List.take_of_length_le (by have := HN.out; omega), List.take_of_length_le (by have := HM.out; omega)] at e
        simp [e]
  · have hb : ((n : Int) != (m : Int)) = true := by simp; omega
    have HB := hid hnm
    clear hnm
    go_enter Try.func27, Try.ntmps27
    go_wp2
    go_ret
    refine ⟨?_, 0, rfl⟩
    have : ¬ l1 = l2 := fun e => HB.out (by rw [← HN.out, ← HM.out, e])
    simp [this]

/-- A slice of slices of ints that is read. -/
def RdRows (w : World) (v : Value) (L : List (List Int)) : Prop :=
  ∃ us, Rd w 1 v L.length us ∧ ∀ (k : Nat) (l : List Int) (u : Value), L[k]? = some l → us[k]? = some u → Rd w 1 u l.length (ivs l)
theorem NewRows.rd {base : Nat} {w : World} {v : Value} {us : List Value} {L : List (List Int)} (h : NewRows base w v us L) : RdRows w v L :=
  ⟨us, h.own.rd, fun k l u hl hu => (h.row k l u hl hu).1.rd⟩
theorem RdRows.at_ {w : World} {A : Option Addr} {n c : Nat} {L : List (List Int)} (h : RdRows w (.slice A n c) L) {k : Nat} {l : List Int} (hl : L[k]? = some l) :
    ∃ g o A2 c2, A = some ⟨g, o, none⟩ ∧ w.cell? ⟨g, o + k, none⟩ = some (.slice A2 l.length c2) ∧ Rd w 1 (.slice A2 l.length c2) l.length (ivs l) := by
  obtain ⟨us, h1, h2⟩ := h
  obtain ⟨hlen, A', c', hv, h4⟩ := h1
  injection hv with hA hn hc
  subst hA; subst hn; subst hc
  have hk := (List.getElem?_eq_some_iff.1 hl).1
  obtain ⟨u, hu⟩ : ∃ u, us[k]? = some u := ⟨_, List.getElem?_eq_getElem (by omega)⟩
  have hr := h2 k l u hl hu
  obtain ⟨A2, c2, rfl, _, _⟩ := hr.slice
  obtain ⟨g, o, rfl, hc⟩ := Rd.at_ (w := w) ⟨hlen, A, c, rfl, h4⟩ hu
  exact ⟨g, o, A2, c2, rfl, hc, hr⟩
theorem RdRows.fr {w w' : World} {v : Value} {L : List (List Int)} (h : RdRows w v L) (f : Fr nob w w') : RdRows w' v L := by
  obtain ⟨us, h1, h2⟩ := h
  exact ⟨us, h1.no (by decide) f, fun k l u hl hu => (h2 k l u hl hu).no (by decide) f⟩
theorem RdRows.drewN {w : World} {v : Value} {L : List (List Int)} (h : RdRows w v L) (k : Nat) : RdRows (w.drewN k) v L := h.fr ((Fr.refl _ _).drewN _)
theorem RdRows.slice {w : World} {v : Value} {L : List (List Int)} (h : RdRows w v L) : ∃ A c, v = .slice A L.length c ∧ L.length ≤ c ∧ c ≤ maxLen := by
  obtain ⟨us, h1, _⟩ := h; exact h1.slice

set_option maxHeartbeats 800000 in
theorem same_any (va vb : Value) (L1 L2 : List (List Int)) (w : World) (h1 : RdRows w va L1) (h2 : RdRows w vb L2) :
    Calls Try.prog 20 #[va, vb] w fun e w' => e = .returned (.bool (decide (L1 = L2))) ∧ ∃ k, w' = w.drewN k := by
  obtain ⟨A, c, rfl, hc1, hc2⟩ := h1.slice
  obtain ⟨B, d, rfl, hd1, hd2⟩ := h2.slice
  have H1 := hid h1
  have H2 := hid h2
  clear h1 h2
  have hcap : L1.length ≤ 9223372036854775807 := by unfold maxLen at hc2; omega
  generalize hn : L1.length = n at *
  generalize hm : L2.length = m at *
  have HN := hid hn
  have HM := hid hm
  clear hn hm
  by_cases hnm : n = m
  · subst hnm
    go_enter Try.func20, Try.ntmps20
    go_wp2
    go_loopw [5] (fun i w' => ∃ k : Nat, k ≤ n ∧ i = .int .i64 k ∧ L1.take k = L2.take k ∧ ∃ q, w' = w.drewN q) (fun i _ => n - (intOf i).toNat)
    case atStart => exact ⟨0, Nat.zero_le _, rfl, rfl, 0, rfl⟩
    case round =>
      obtain ⟨k, hk, rfl, ht, q, hwq⟩ := hrel
      have HT := hid ht
      have HW := hid hwq
      have FW : Fr nob w wr := by rw [hwq]; exact (Fr.refl nob w).drewN q
      have FW := hid FW
      clear ht hwq
      by_cases hlt : k < n
      · obtain ⟨l1, hl1⟩ : ∃ v1, L1[k]? = some v1 := ⟨_, List.getElem?_eq_getElem (by have := HN.out; omega)⟩
        obtain ⟨l2, hl2⟩ : ∃ v2, L2[k]? = some v2 := ⟨_, List.getElem?_eq_getElem (by have := HM.out; omega)⟩
        obtain ⟨g1, o1, A1, c1, rfl, k1, r1⟩ := (H1.out.fr FW.out).at_ hl1
        obtain ⟨g2, o2, A2, c2, rfl, k2, r2⟩ := (H2.out.fr FW.out).at_ hl2
        have hi : (k : Int) < (n : Int) := by omega
        have hi0 : (0 : Int) ≤ (k : Int) := by omega
        have V1 := hid hl1
        have V2 := hid hl2
        clear hl1 hl2
        have hq : ∀ j, Calls Try.prog 27 #[.slice A1 l1.length c1, .slice A2 l2.length c2] (wr.drewN j) fun e w' => e = .returned (.bool (decide (l1 = l2))) ∧ ∃ k, w' = (wr.drewN j).drewN k :=
          fun j => ints_any A1 A2 _ _ c1 c2 l1 l2 _ (r1.no (by decide) ((Fr.refl nob wr).drewN _)) (r2.no (by decide) ((Fr.refl nob wr).drewN _))
        by_cases hv : l1 = l2
        · subst hv
          have hq' : ∀ j, Calls Try.prog 27 #[.slice A1 l1.length c1, .slice A2 l1.length c2] (wr.drewN j) fun e w' => e = .returned (.bool true) ∧ ∃ k, w' = (wr.drewN j).drewN k := by simpa using hq
          have HQ := hid hq'
          clear hq hq' r1 r2
          go_wp2
          go_quiet ((go_at_call 27; exact Calls.quiet_of (HQ.out _)))
          go_wp2
          go_roundw
          case rel =>
            refine ⟨k + 1, by omega, by go_num, ?_, q + nq, by rw [HW.out, World.drewN_drewN]⟩
            rw [List.take_add_one, List.take_add_one, HT.out, V1.out, V2.out]
          case measure => simp [intOf]; omega
        · have hq' : ∀ j, Calls Try.prog 27 #[.slice A1 l1.length c1, .slice A2 l2.length c2] (wr.drewN j) fun e w' => e = .returned (.bool false) ∧ ∃ k, w' = (wr.drewN j).drewN k := by simpa [hv] using hq
          have HQ := hid hq'
          have HV := hid hv
          clear hq hq' r1 r2 hv
          go_wp2
          go_quiet ((go_at_call 27; exact Calls.quiet_of (HQ.out _)))
          go_wp2
          go_ret
          refine ⟨?_, q + nq, by rw [HW.out, World.drewN_drewN]⟩
          have : ¬ L1 = L2 := fun e => by
            have a := V1.out; have b := V2.out
            rw [e, b] at a; injection a with a; exact HV.out a.symm
          simp [this]
      · go_wp2
        go_ret
        refine ⟨?_, q, HW.out⟩
        have e := HT.out
        rw [List.take_of_length_le (by have := HN.out; omega), List.take_of_length_le (by have := HM.out; omega)] at e
        simp [e]
  · have hb : ((n : Int) != (m : Int)) = true := by simp; omega
    have HB := hid hnm
    clear hnm
    go_enter Try.func20, Try.ntmps20
    go_wp2
    go_ret
    refine ⟨?_, 0, rfl⟩
    have : ¬ L1 = L2 := fun e => HB.out (by rw [← HN.out, ← HM.out, e])
    simp [this]
end Go.Proofs.Ytddogcpakefdpaa
