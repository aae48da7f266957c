/- Words: values, the plain law. -/
import Derived.Test.YtngnipjfjhackaaDoorWdBP
import Derived.Test.YtngnipjfjhackaaDoorWdLm
import Derived.Lib.AtoiAllCases
import Derived.Lib.ItoaMem
namespace Go.Proofs.YtngnipjfjhackaaDoor
open Go.RowKit Go.MapKept
set_option linter.unusedVariables false
set_option linter.unusedSimpArgs false
def digitsVal (a : Nat) (l : List UInt8) : Nat := l.foldl (fun a c => a * 10 + (c.toNat - 48)) a
def allDigits (l : List UInt8) : Prop := ∀ c ∈ l, 48 ≤ c.toNat ∧ c.toNat ≤ 57
theorem digitsVal_ge : ∀ (l : List UInt8) (a : Nat), a ≤ digitsVal a l
  | [], a => Nat.le_refl _
  | c :: l, a => by
    have := digitsVal_ge l (a * 10 + (c.toNat - 48))
    unfold digitsVal at this ⊢
    rw [List.foldl_cons]
    omega
theorem dec_all (n : Nat) : allDigits (Lib.decDigits n) ∧ Lib.decDigits n ≠ [] ∧ digitsVal 0 (Lib.decDigits n) = n := by
  induction n using Nat.strongRecOn with
  | _ n ih =>
    have one : ∀ d, d < 10 → (UInt8.ofNat (48 + d)).toNat = 48 + d := fun d hd => by
      rw [UInt8.toNat_ofNat']; omega
    rw [Lib.decDigits]
    split
    · rename_i h
      refine ⟨fun c hc => ?_, by simp, ?_⟩
      · rw [List.mem_singleton.1 hc, one n h]; omega
      · unfold digitsVal; rw [List.foldl_cons, List.foldl_nil, one n h]; omega
    · obtain ⟨a, b, c⟩ := ih (n / 10) (by omega)
      refine ⟨fun x hx => ?_, by simp, ?_⟩
      · rcases List.mem_append.1 hx with hx | hx
        · exact a x hx
        · rw [List.mem_singleton.1 hx, one _ (by omega)]; omega
      · unfold digitsVal at c ⊢
        rw [List.foldl_append, c, List.foldl_cons, List.foldl_nil, one _ (by omega)]; omega
theorem uint10_of : ∀ (l : List UInt8) (a : Nat), allDigits l → digitsVal a l ≤ 9223372036854775808 → Lib.parseUint10 a l = .ok (digitsVal a l)
  | [], a, _, _ => rfl
  | c :: l, a, h, hv => by
    have hc := h c List.mem_cons_self
    have e : digitsVal a (c :: l) = digitsVal (a * 10 + (c.toNat - 48)) l := by unfold digitsVal; rw [List.foldl_cons]
    rw [e] at hv ⊢
    have hg := digitsVal_ge l (a * 10 + (c.toNat - 48))
    unfold Lib.parseUint10
    rw [if_pos hc, if_neg (by omega), if_neg (by omega)]
    exact uint10_of l _ (fun x hx => h x (List.mem_cons_of_mem _ hx)) hv
theorem mag_of {l : List UInt8} (h : allDigits l) (h0 : l ≠ []) (hv : digitsVal 0 l ≤ 9223372036854775808) : Lib.parseMag l = .ok (digitsVal 0 l) := by
  unfold Lib.parseMag
  rw [if_neg h0]
  exact uint10_of l 0 h hv
/-- A number, written and read. -/
theorem atoi_itoa (n : Int) (h0 : -9223372036854775808 ≤ n) (h1 : n ≤ 9223372036854775807) : Lib.atoiAll (Lib.itoa n) = .ok n := by
  by_cases hn : n < 0
  · obtain ⟨u, rfl⟩ : ∃ u : Nat, n = -(u : Int) := ⟨n.natAbs, by omega⟩
    obtain ⟨a, b, c⟩ := dec_all u
    rw [Lib.itoa_neg u (by omega), Lib.atoiAll_minus, mag_of a b (by omega), c]
    unfold Lib.signed
    dsimp only
    rw [if_neg (by omega)]
  · obtain ⟨u, rfl⟩ : ∃ u : Nat, n = (u : Int) := ⟨n.toNat, by omega⟩
    obtain ⟨a, b, c⟩ := dec_all u
    rw [Lib.itoa_nonneg u]
    cases hl : Lib.decDigits u with
    | nil => exact absurd hl b
    | cons x xs =>
      have hx := a x (by rw [hl]; exact List.mem_cons_self)
      rw [Lib.atoiAll_plain x xs (by omega) (by omega), ← hl, mag_of a b (by omega), c]
      unfold Lib.signless
      dsimp only
      rw [if_neg (by omega)]
theorem num_itoa (n : Int) (h0 : -9223372036854775808 ≤ n) (h1 : n ≤ 9223372036854775807) : numM (Lib.itoa n) = some n := by
  unfold numM
  rw [atoi_itoa n h0 h1]
  dsimp only
  rw [if_pos rfl]
/-- Bytes of a number: digits, and a sign. -/
theorem itoa_mem (n : Int) : ∀ b ∈ Lib.itoa n, b.toNat = 45 ∨ (48 ≤ b.toNat ∧ b.toNat ≤ 57) := by
  intro b hb
  by_cases hn : n < 0
  · obtain ⟨u, rfl⟩ : ∃ u : Nat, n = -(u : Int) := ⟨n.natAbs, by omega⟩
    rw [Lib.itoa_neg u (by omega)] at hb
    rcases List.mem_cons.1 hb with rfl | hb
    · left; rfl
    · right; exact (dec_all u).1 b hb
  · obtain ⟨u, rfl⟩ : ∃ u : Nat, n = (u : Int) := ⟨n.toNat, by omega⟩
    rw [Lib.itoa_nonneg u] at hb
    right; exact (dec_all u).1 b hb
theorem itoa_ne (n : Int) : Lib.itoa n ≠ [] := by
  by_cases hn : n < 0
  · obtain ⟨u, rfl⟩ : ∃ u : Nat, n = -(u : Int) := ⟨n.natAbs, by omega⟩
    rw [Lib.itoa_neg u (by omega)]; simp
  · obtain ⟨u, rfl⟩ : ∃ u : Nat, n = (u : Int) := ⟨n.toNat, by omega⟩
    rw [Lib.itoa_nonneg u]; exact (dec_all u).2.1
theorem itoa_no (n : Int) (c : UInt8) (hc : c.toNat ≠ 45) (hc2 : c.toNat < 48 ∨ 57 < c.toNat) : c ∉ Lib.itoa n := fun hm => by
  rcases itoa_mem n c hm with h | h <;> omega
theorem bsW_list (l : List UInt8) : (bsW l).data.toList = l := by unfold bsW; simp
theorem bsW_toList (l : List UInt8) : (bsW l).toList = l := by rw [ByteArray.toList_eq]; exact bsW_list l
/-- Words that begin with no quote, and are none of two. -/
theorem readS_num {l : List UInt8} (h1 : l ≠ [116, 114, 117, 101]) (h2 : l ≠ [102, 97, 108, 115, 101]) (hq : Lib.hasPrefix l [34] = false) : readS (bsW l) = (numM l).map fun n => (1, n, ⟨#[]⟩) := by
  unfold readS
  rw [bsW_toList, if_neg h1, if_neg h2, bsW_list, if_neg (by rw [hq]; rintro ⟨_, h, _⟩; cases h)]
theorem pre_false {l : List UInt8} (h : (34 : UInt8) ∉ l) : Lib.hasPrefix l [34] = false := by
  cases l with
  | nil => rfl
  | cons b l =>
    unfold Lib.hasPrefix
    have : b ≠ 34 := fun e => h (by rw [e]; exact List.mem_cons_self)
    simp [List.isPrefixOf]
    exact fun e => this e.symm
theorem dec_head (u : Nat) (h : 1 ≤ u) : ∃ c l, Lib.decDigits u = c :: l ∧ 49 ≤ c.toNat := by
  induction u using Nat.strongRecOn with
  | _ u ih =>
    rw [Lib.decDigits]
    split
    · refine ⟨_, [], rfl, ?_⟩
      rw [UInt8.toNat_ofNat']; omega
    · obtain ⟨c, l, e, hc⟩ := ih (u / 10) (by omega) (by omega)
      exact ⟨c, l ++ [UInt8.ofNat (48 + u % 10)], by rw [e]; rfl, hc⟩
theorem dec_nought {u : Nat} {l : List UInt8} (h : Lib.decDigits u = 48 :: l) : u = 0 := by
  by_cases h0 : u = 0
  · exact h0
  · obtain ⟨c, l', e, hc⟩ := dec_head u (by omega)
    rw [e] at h
    injection h with h _
    subst h
    exact absurd hc (by decide)
theorem read_itoa (n : Int) (h0 : -9223372036854775808 ≤ n) (h1 : n ≤ 9223372036854775807) : readS (bsW (Lib.itoa n)) = some (1, n, ⟨#[]⟩) := by
  have hne : ∀ l : List UInt8, (116 : UInt8) ∈ l ∨ (102 : UInt8) ∈ l → Lib.itoa n ≠ l := fun l hl e => by
    rcases hl with hl | hl
    · exact itoa_no n 116 (by decide) (by decide) (by rw [e]; exact hl)
    · exact itoa_no n 102 (by decide) (by decide) (by rw [e]; exact hl)
  rw [readS_num (hne _ (.inl (by simp))) (hne _ (.inr (by simp))) (pre_false (itoa_no n 34 (by decide) (by decide))), num_itoa n h0 h1]
  rfl
/-- A nought ahead. -/
theorem read_nought (n : Int) (h0 : -9223372036854775808 ≤ n) (h1 : n ≤ 9223372036854775807) : readS (bsW (48 :: Lib.itoa n)) = none := by
  rw [readS_num (by simp) (by simp) (by rfl)]
  have : numM (48 :: Lib.itoa n) = none := by
    unfold numM
    cases hh : Lib.atoiAll (48 :: Lib.itoa n) with
    | ok m =>
      dsimp only
      rw [if_neg]
      intro e
      have hlen := congrArg List.length e
      by_cases hm : m < 0
      · obtain ⟨u, rfl⟩ : ∃ u : Nat, m = -(u : Int) := ⟨m.natAbs, by omega⟩
        rw [Lib.itoa_neg u (by omega)] at e
        injection e with e _
        revert e; decide
      · obtain ⟨u, rfl⟩ : ∃ u : Nat, m = (u : Int) := ⟨m.toNat, by omega⟩
        rw [Lib.itoa_nonneg u] at e
        -- the digits of u begin with a nought: u is 0
        have hz := dec_nought e
        rw [hz] at e
        have : (Lib.itoa n) = [] := by
          have e2 : Lib.decDigits 0 = [48] := by rw [Lib.decDigits_one (by decide)]; rfl
          rw [e2] at e
          injection e with _ e
          exact e.symm
        exact itoa_ne n this
    | _ => rfl
  rw [this]; rfl
end Go.Proofs.YtngnipjfjhackaaDoor
