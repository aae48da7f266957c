/- HeapFills: the walk. -/
import Derived.Test.YtddogcpakefdpaaHeapU
namespace Go.Proofs.Ytddogcpakefdpaa
open Go.RowKit
set_option linter.unusedVariables false
set_option linter.unusedSimpArgs false

set_option maxHeartbeats 800000 in
theorem fills_walk (s : Int) (w : World) (h0 : 0 ≤ s) (h1 : s ≤ 255) : Calls Try.prog 3 #[.int .u8 s] w fun e w' => e = .returned (.bool true) ∧ Fr nob w w' := by
  obtain ⟨n, hn⟩ : ∃ n : Nat, s % 17 = n := ⟨(s % 17).toNat, by omega⟩
  have hn16 : n ≤ 16 := by omega
  have HN := hid hn
  clear hn
  go_enter Try.func3, Try.ntmps3
  go_wp2_with (first | (go_at_call 8; refine (shown_any _).mono ?_; rintro e w1 ⟨rfl, hf⟩; have F1 := hid hf; clear hf) | (go_at_call 9; refine (new_any _).mono ?_; rintro e w2 ⟨rfl, hw⟩; have H2 := hid (HeapP.new w1); rw [← hw] at H2; have W2 := hid hw; clear hw))
  rw [HN.out]
  go_loopw [6, 7] (fun m i w' => ∃ k : Nat, k ≤ 50 ∧ i = .int .i64 k ∧ m = .int .i64 (min k (40 / (n + 1)) : Nat) ∧ ∃ cv ev, HeapP w' w1.heap.size cv ev (fill (min k (40 / (n + 1))) n) ∧ Fr nob w1 w' ∧ (∀ b, footP w1.heap.size cv ev b → w1.heap.size ≤ b)) (fun _ i _ => 50 - (intOf i).toNat)
  case atStart => 
    refine ⟨0, by omega, rfl, by simp, .slice none 0 0, .slice none 0 0, ?_, ?_, ?_⟩
    · simpa [fill] using H2.out
    · rw [W2.out]; exact (Fr.refl _ _).alloc _
    · intro b hb
      rcases hb with h | h | h
      · omega
      · simp [blk] at h
      · simp [blk] at h
  case round =>
    obtain ⟨k, hk, rfl, rfl, cv, ev, hh, hf, hv⟩ := hrel
    have hst := fill_step k n hn16
    have H := hid hh
    have F := hid hf
    have V := hid hv
    have hsz := hf.size
    clear hh hf hv
    have hqd : 40 / (n + 1) * (n + 1) ≤ 40 := Nat.div_mul_le_self 40 (n + 1)
    have hq40 : 40 / (n + 1) ≤ 40 := by
      have := Nat.div_le_self 40 (n + 1); omega
    have hqi : ((40 / (n + 1) : Nat) : Int) = (40 : Int) / ((n : Int) + 1) := by simp
    have QI := hid hqi
    clear hqd hqi
    generalize hq : 40 / (n + 1) = q at *
    have HQ := hid hq
    clear hq
    by_cases hk50 : k < 50
    · by_cases hkq : k < q
      · have hm : min k q = k := by omega
        have hm' : min (k + 1) q = k + 1 := by omega
        rw [hm] at *
        rw [hm', if_pos hkq, if_pos hkq] at hst
        have ST := hid hst
        clear hst hm
        go_wp2_with (first | (go_at_call 10; refine (make_any _ _ _ _ n _ H.out).mono ?_; rintro e w3 ⟨he, hn3⟩; (rw [ST.out.1] at hn3; rw [ST.out.2.1, ST.out.2.2] at he; subst he); have N3 := hid hn3; clear hn3))
        go_roundw
        case rel =>
          obtain ⟨cv3, ev3, h3, hv3, hf3⟩ := N3.out
          refine ⟨k + 1, by omega, by go_num, by rw [hm']; go_num, cv3, ev3, by rw [hm']; exact h3, ?_, ?_⟩
          · exact F.out.trans hf3 (fun _ _ x => x) (fun b hb h => by have := V.out b h; omega)
          · intro b hb
            rcases hv3 b hb with h | h
            · exact V.out b h
            · omega
        case measure => simp [intOf]; omega
      · have hm : min k q = q := by omega
        have hm' : min (k + 1) q = q := by omega
        rw [hm] at *
        rw [hm', if_neg hkq, if_neg hkq] at hst
        have ST := hid hst
        clear hst hm
        go_wp2_with (first | (go_at_call 10; refine (make_any _ _ _ _ n _ H.out).mono ?_; rintro e w3 ⟨he, hn3⟩; (rw [ST.out.1] at hn3; rw [ST.out.2.1, ST.out.2.2] at he; subst he); have N3 := hid hn3; clear hn3))
        go_roundw
        case rel =>
          obtain ⟨cv3, ev3, h3, hv3, hf3⟩ := N3.out
          refine ⟨k + 1, by omega, by go_num, by rw [hm'], cv3, ev3, by rw [hm']; exact h3, ?_, ?_⟩
          · exact F.out.trans hf3 (fun _ _ x => x) (fun b hb h => by have := V.out b h; omega)
          · intro b hb
            rcases hv3 b hb with h | h
            · exact V.out b h
            · omega
        case measure => simp [intOf]; omega
    · have hm : min k q = q := by omega
      have H' := H.out
      simp only [hm] at H' ⊢
      have H2 := hid H'
      clear H' hst hm H
      have hlen : (fill q n).length = q := by simp [fill]
      have HL := hid hlen
      clear hlen
      go_wp2_with (first | (go_at_call 11; go_loud (refine (lists_any _ _ _ _ _ H2.out).mono ?_; rintro e w4 ⟨v, us, rfl, hr, hfr⟩; have hcap := hr.own; rw [HL.out] at hcap; obtain ⟨A4, c4, rfl, _, _⟩ := hcap.cap; have F4 := hid hfr; clear hr hfr hcap)))
      go_ret
      refine ⟨by simp [HQ.out, QI.out], (F1.out.tr F.out).tr F4.out⟩
end Go.Proofs.Ytddogcpakefdpaa
