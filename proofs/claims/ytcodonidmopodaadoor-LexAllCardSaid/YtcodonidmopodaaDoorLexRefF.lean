/- The reference's token: numbers and names. -/
import Derived.Test.YtcodonidmopodaaDoorLexRefE
namespace Go.Proofs.YtcodonidmopodaaDoor
open Go.RowKit
set_option linter.unusedVariables false
set_option linter.unusedSimpArgs false

def OneAt (l : List UInt8) (a : Nat) (e : Ending) : Prop := match firstM (l.drop a) with
  | .ok k o m n => e = .returned (.tuple #[tokV k (bs (((l.drop a).drop o).take m)) a, .int .i64 ((a + n : Nat) : Int), .int .i64 0])
  | .err er => ∃ (k p q : Int) (t : ByteArray), e = .returned (.tuple #[.agg #[.int .i64 k, .string t, .int .i64 p], .int .i64 q, .int .i64 er])
theorem one_ok {l : List UInt8} {a k o m n : Nat} (h : firstM (l.drop a) = .ok k o m n) (x : ByteArray) (hx : x = bs (((l.drop a).drop o).take m)) (q : Nat) (hq : q = a + n) :
    OneAt l a (.returned (.tuple #[tokV k x a, .int .i64 q, .int .i64 0])) := by
  unfold OneAt
  rw [h, hx, hq]
theorem one_err {l : List UInt8} {a er : Nat} (h : firstM (l.drop a) = .err er) (k p q : Int) (t : ByteArray) :
    OneAt l a (.returned (.tuple #[.agg #[.int .i64 k, .string t, .int .i64 p], .int .i64 q, .int .i64 er])) := by
  unfold OneAt
  rw [h]
  exact ⟨k, p, q, t, rfl⟩
theorem ext_run (s : ByteArray) (a m : Nat) : (s.extract a m).data.toList = (s.data.toList.drop a).take (m - a) := Lib.extract_data s a m

set_option maxRecDepth 100000 in
set_option maxHeartbeats 1600000 in
theorem rone_digit (s : ByteArray) (hs : s.size ≤ 281474976710656) (a : Nat) (ha : a < s.size) (w : World) (hd : digitI (byteAt s.data.toList a) = true) :
    Calls Tryd.prog 29 #[.string s, .int .i64 a] w fun e w' => OneAt s.data.toList a e ∧ Fr nob w w' := by
  have hl : s.data.toList.length = s.size := by simp
  have HL := hid hl
  clear hl
  have hf : firstM (s.data.toList.drop a) = numberM (s.data.toList.drop a) := by
    unfold firstM
    rw [byteAt_drop', Nat.add_zero, if_pos hd]
  have HF := hid hf
  have hai : (a : Int) < (s.size : Int) := by omega
  obtain ⟨c, hc⟩ : ∃ c, s[a]'ha = c := ⟨_, rfl⟩
  rw [byteAt_eq s a ha, hc] at hd
  have HD := hid (fun w' => rdigit_any (c.toNat : Int) w')
  rw [hd] at HD
  clear hf hd
  go_enter Tryd.func29, Tryd.ntmps29
  go_wp2_with (go_at_call 41; refine (HD.out _).mono ?_; rintro e w1 ⟨rfl, rfl⟩)
  go_loopw [8] (fun v w' => ∃ m : Nat, a ≤ m ∧ m ≤ s.size ∧ v = .int .i64 m ∧ Hid (runN digitI (s.data.toList.drop a) = (m - a) + runN digitI (s.data.toList.drop m)) ∧ w' = w.alloc (.cells #[.int .i64 0, .string ⟨#[]⟩, .int .i64 0] 29)) (fun v _ => s.size - (intOf v).toNat)
  case atStart => exact ⟨a, Nat.le_refl _, by omega, rfl, hid (by omega), rfl⟩
  case round =>
    obtain ⟨m, ham, hm, rfl, HR, rfl⟩ := hrel
    have ham2 : (a : Int) ≤ (m : Int) := by omega
    have hend : runN digitI (s.data.toList.drop m) = 0 → (runN digitI (s.data.toList.drop a) = m - a) := fun h => by have := HR.out; omega
    have HEND := hid hend
    clear hend
    have fin : runN digitI (s.data.toList.drop a) = m - a → allDigits (s.extract a m).data.toList ∧ numberM (s.data.toList.drop a) = if numOk (s.extract a m).data.toList then .ok 1 0 (m - a) (m - a) else .err 12 := fun h => by
      have h1 := run_digits (s.data.toList.drop a)
      unfold numberM
      rw [ext_run, ← h]
      exact ⟨h1, rfl⟩
    have FIN := hid fin
    clear fin
    by_cases hms : m < s.size
    · have hms2 : (m : Int) < (s.size : Int) := by omega
      have hm64 : (m : Int) ≤ (s.size : Int) := by omega
      obtain ⟨d, hdd⟩ : ∃ d, s[m]'hms = d := ⟨_, rfl⟩
      have hst := runN_step digitI s.data.toList m (by rw [HL.out]; exact hms)
      rw [byteAt_eq s m hms, hdd] at hst
      have HST := hid hst
      have HE := hid (fun w' => rdigit_any (d.toNat : Int) w')
      clear hst
      generalize hdb : digitI (d.toNat : Int) = db at *
      clear hdb
      cases db with
      | true =>
        have HS2 := hid HST.out
        go_wp2_with (go_at_call 41; refine (HE.out _).mono ?_; rintro e w1 ⟨rfl, rfl⟩)
        go_roundw
        case rel => exact ⟨m + 1, by omega, by omega, by go_num, hid (by (have h1 := HR.out); have h2 := HST.out; (first | rw [if_pos trivial] at h2 | rw [if_pos rfl] at h2); omega), trivial⟩
        case measure => simp [intOf]; omega
      | false =>
        have hz := HEND.out (by (have h2 := HST.out); rwa [if_neg (by simp)] at h2)
        obtain ⟨hall, hnm⟩ := FIN.out hz
        have HN := hid (fun w' => rnumber_any (s.extract a m) hall (by simp; omega) w')
        have hx : s.extract a m = bs (((s.data.toList.drop a).drop 0).take (m - a)) := by rw [List.drop_zero, ← ext_run, bs_data]
        have HX := hid hx
        have HNM := hid (HF.out.trans hnm)
        clear hz hall hnm hx
        generalize numOk (s.extract a m).data.toList = nb at *
        cases nb with
        | true =>
          go_wp2_with (first | (go_at_call 41; refine (HE.out _).mono ?_; rintro e w1 ⟨rfl, rfl⟩) | (go_at_call 42; refine (HN.out _).mono ?_; rintro e w1 ⟨rfl, rfl⟩))
          refine bodyPost_ret (v := .tuple #[tokV 1 (s.extract a m) a, .int .i64 m, .int .i64 0]) (by simp [results, Tryd.results29, go_sem, tokV]; try rfl) rfl ⟨one_ok (k := 1) (o := 0) (m := m - a) (n := m - a) (HNM.out.trans (by simp)) _ HX.out _ (by omega), (Fr.refl nob w).alloc _⟩
        | false =>
          go_wp2_with (first | (go_at_call 41; refine (HE.out _).mono ?_; rintro e w1 ⟨rfl, rfl⟩) | (go_at_call 42; refine (HN.out _).mono ?_; rintro e w1 ⟨rfl, rfl⟩))
          refine bodyPost_ret (v := .tuple #[.agg #[.int .i64 0, .string ⟨#[]⟩, .int .i64 0], .int .i64 a, .int .i64 12]) (by simp [results, Tryd.results29, go_sem, tokV]; try rfl) rfl ⟨one_err (er := 12) (HNM.out.trans (by simp)) _ _ _ _, (Fr.refl nob w).alloc _⟩
    · have hms2 : (s.size : Int) ≤ (m : Int) := by omega
      have hm64 : (m : Int) ≤ (s.size : Int) := by omega
      have hz := HEND.out (by rw [List.drop_of_length_le (by rw [HL.out]; omega)]; rfl)
      obtain ⟨hall, hnm⟩ := FIN.out hz
      have HN := hid (fun w' => rnumber_any (s.extract a m) hall (by simp; omega) w')
      have hx : s.extract a m = bs (((s.data.toList.drop a).drop 0).take (m - a)) := by rw [List.drop_zero, ← ext_run, bs_data]
      have HX := hid hx
      have HNM := hid (HF.out.trans hnm)
      clear hz hall hnm hx hms
      generalize numOk (s.extract a m).data.toList = nb at *
      cases nb with
      | true =>
        go_wp2_with (go_at_call 42; refine (HN.out _).mono ?_; rintro e w1 ⟨rfl, rfl⟩)
        refine bodyPost_ret (v := .tuple #[tokV 1 (s.extract a m) a, .int .i64 m, .int .i64 0]) (by simp [results, Tryd.results29, go_sem, tokV]; try rfl) rfl ⟨one_ok (k := 1) (o := 0) (m := m - a) (n := m - a) (HNM.out.trans (by simp)) _ HX.out _ (by omega), (Fr.refl nob w).alloc _⟩
      | false =>
        go_wp2_with (go_at_call 42; refine (HN.out _).mono ?_; rintro e w1 ⟨rfl, rfl⟩)
        refine bodyPost_ret (v := .tuple #[.agg #[.int .i64 0, .string ⟨#[]⟩, .int .i64 0], .int .i64 a, .int .i64 12]) (by simp [results, Tryd.results29, go_sem, tokV]; try rfl) rfl ⟨one_err (er := 12) (HNM.out.trans (by simp)) _ _ _ _, (Fr.refl nob w).alloc _⟩
end Go.Proofs.YtcodonidmopodaaDoor
