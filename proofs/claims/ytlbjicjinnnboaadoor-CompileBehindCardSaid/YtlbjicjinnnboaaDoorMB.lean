/- MB: RA, RB, RC, RD, RE, RF, RG, RH, RI. -/
import Derived.Test.YtlbjicjinnnboaaDoorMA
import Derived.Lib.IndexBytes
set_option linter.unusedVariables false
set_option linter.unusedSimpArgs false
/- The reference's small functions. -/
namespace Go.Proofs.YtlbjicjinnnboaaDoor
open Go.RowKit
theorem rdigit_any (c : Int) (w : World) : Calls Tryd.prog 36 #[.int .u8 c] w fun e w' => e = .returned (.bool (digitI c)) ∧ w = w' := by
 unfold digitI
 go_enter Tryd.func36, Tryd.ntmps36
 go_wp2
 all_goals (go_ret; simp_all; try omega)
theorem rletter_any (c : Int) (w : World) : Calls Tryd.prog 38 #[.int .u8 c] w fun e w' => e = .returned (.bool (letterI c)) ∧ w = w' := by
 unfold letterI
 go_enter Tryd.func38, Tryd.ntmps38
 go_wp2
 all_goals (go_ret; simp_all; try omega)
theorem rline_any (s : ByteArray) (hs : s.size ≤ 281474976710656) (a : Int) (w : World) :
  Calls Tryd.prog 42 #[.string s, .int .i64 a] w fun e w' => e = .returned (.int .i64 (lineN s.data.toList a)) ∧ w = w' := by
 have hl : s.data.toList.length = s.size := by simp
 have HL := hid hl
 clear hl
 go_enter Tryd.func42, Tryd.ntmps42
 go_wp2
 go_loopw [5, 6] (fun n i w' => ∃ k : Nat, k ≤ s.size ∧ n = .int .i64 (lineN s.data.toList k) ∧ i = .int .i64 k ∧ (0 < k → (k : Int) ≤ a) ∧ w = w') (fun _ i _ => s.size - (intOf i).toNat)
 case atStart => exact ⟨0, Nat.zero_le _, by rw [line_low _ _ (by omega)]; rfl, rfl, fun h => absurd h (by omega), rfl⟩
 case round =>
  obtain ⟨k, hk, rfl, rfl, hka, rfl⟩ := hrel
  have hle := (line_le s.data.toList (k : Int)).2
  rw [HL.out] at hle
  by_cases hlt : k < s.size ∧ (k : Int) < a
  · obtain ⟨h1, h2⟩ := hlt
    have h1' : (k : Int) < (s.size : Int) := by omega
    obtain ⟨c, hc⟩ : ∃ c, s[k]'h1 = c := ⟨_, rfl⟩
    have hlk := line_next s.data.toList k c (by rw [List.getElem?_eq_getElem (by rw [HL.out]; exact h1)]; exact congrArg some hc)
    have HK := hid hlk
    clear hlk
    generalize lineN s.data.toList (k : Int) = n at *
    by_cases h10 : c = 10
    · have hcb : ((c.toNat : Int) == 10) = true := by rw [h10]; rfl
      have hn : (n : Int) ≤ 281474976710657 := by omega
      clear hka
      go_wp2
      go_roundw
      case rel => exact ⟨k + 1, by omega, by (have := HK.out); rw [if_pos h10] at this; rw [show ((k + 1 : Nat) : Int) = (k : Int) + 1 by omega, this]; go_num, by go_num, fun _ => by omega, trivial⟩
      case measure => simp [intOf]; omega
    · have hcb : ((c.toNat : Int) == 10) = false := beq_eq_false_iff_ne.2 (fun e => h10 (UInt8.toNat_inj.1 (by (have : (10 : UInt8).toNat = 10 := rfl); omega)))
      clear hka
      go_wp2
      go_roundw
      case rel => exact ⟨k + 1, by omega, by (have := HK.out); rw [if_neg h10] at this; rw [show ((k + 1 : Nat) : Int) = (k : Int) + 1 by omega, this]; rfl, by go_num, fun _ => by omega, trivial⟩
      case measure => simp [intOf]; omega
  · have he : lineN s.data.toList (k : Int) = lineN s.data.toList a := by
      rcases (by omega : k = s.size ∨ (k : Int) ≥ a) with h | h
      · rw [line_high _ _ (by rw [HL.out]; omega)]
        by_cases h2 : (s.size : Int) ≤ a
        · rw [line_high _ _ (by rw [HL.out]; omega)]
        · rcases Nat.eq_zero_or_pos k with h0 | h0
          · have : s.data.toList = [] := List.eq_nil_of_length_eq_zero (by rw [HL.out]; omega)
            rw [this]; unfold lineN; simp
          · exact absurd (hka h0) (by omega)
      · rcases Nat.eq_zero_or_pos k with h0 | h0
        · subst h0
          rw [line_low _ _ (by omega), line_low _ _ (by omega)]
        · rw [show (k : Int) = a by have := hka h0; omega]
    have HE := hid he
    clear he
    generalize lineN s.data.toList (k : Int) = n at *
    rcases (by omega : s.size ≤ k ∨ (k < s.size ∧ a ≤ (k : Int))) with h | ⟨h, h2⟩
    · have h' : (s.size : Int) ≤ (k : Int) := by omega
      clear hlt hka
      go_wp2
      go_ret
      exact ⟨by rw [HE.out]; rfl, rfl⟩
    · have h' : (k : Int) < (s.size : Int) := by omega
      clear hlt hka
      go_wp2
      go_ret
      exact ⟨by rw [HE.out]; rfl, rfl⟩
theorem word_not {l : List UInt8} (h : ∀ x ∈ wordsS, x.data.toList ≠ l) : wordB l = false := by
 unfold wordB isIn
 apply decide_eq_false
 intro hm
 obtain ⟨x, hx, he⟩ := List.mem_map.1 hm
 exact h x hx he
theorem word_yes {s : ByteArray} (h : s ∈ wordsS) : wordB s.data.toList = true := by
 unfold wordB isIn
 exact decide_eq_true (List.mem_map.2 ⟨s, h, rfl⟩)
theorem words_at (k : Nat) (h : k < 16) : ∃ x, wordsS[k]? = some x ∧ (wordsS.map Value.string).toArray[k]? = some (.string x) := by
 have : k < wordsS.length := h
 exact ⟨wordsS[k], List.getElem?_eq_getElem this, by simp [List.getElem?_eq_getElem this]⟩
set_option maxRecDepth 100000 in
set_option maxHeartbeats 800000 in
theorem rword_any (s : ByteArray) (w : World) : Calls Tryd.prog 39 #[.string s] w fun e w' => e = .returned (.bool (wordB s.data.toList)) ∧ Fr nob w w' := by
 go_enter Tryd.func39, Tryd.ntmps39
 go_wp2
 go_loopw [4] (fun i w' => ∃ k : Nat, k ≤ 16 ∧ i = .int .i64 k ∧ Hid (∀ j x, j < k → wordsS[j]? = some x → x ≠ s) ∧ w' = w.alloc (.cells (wordsS.map Value.string).toArray 9)) (fun i _ => 16 - (intOf i).toNat)
 case atStart => exact ⟨0, Nat.zero_le _, rfl, hid (fun j x hj => absurd hj (Nat.not_lt_zero _)), rfl⟩
 case round =>
  obtain ⟨k, hk, rfl, HN, rfl⟩ := hrel
  have BL := hid (Blk.new w 9 (wordsS.map Value.string).toArray)
  have FR := hid ((Fr.refl nob w).alloc (.cells (wordsS.map Value.string).toArray 9))
  generalize w.alloc (.cells (wordsS.map Value.string).toArray 9) = w2 at *
  by_cases hlt : k < 16
  · have hlt2 : (k : Int) < 16 := by omega
    obtain ⟨x, hx, hx2⟩ := words_at k hlt
    have c0 := (BL.out.cell k).trans hx2
    clear hx2
    by_cases he : x = s
    · subst he
      have W := hid (word_yes (List.mem_of_getElem? hx))
      clear hx
      go_wp2
      go_ret
      exact ⟨by rw [W.out]; first | done | rfl, FR.out⟩
    · have heb : (x.toList == s.toList) = false := by rw [ByteArray.toList_eq, ByteArray.toList_eq]; exact beq_eq_false_iff_ne.2 (fun e => he (ByteArray.ext (Array.toList_inj.1 e)))
      have HN2 := hid (show ∀ j y, j < k + 1 → wordsS[j]? = some y → y ≠ s from fun j y hj hy => by
       by_cases e : j = k
       · subst e
         rw [hx] at hy
         injection hy with hy
         subst hy; exact he
       · exact HN.out j y (by omega) hy)
      clear hx
      go_wp2
      go_roundw
      case rel => exact ⟨k + 1, by omega, by go_num, HN2, trivial⟩
      case measure => simp [intOf]; omega
  · have hlt2 : (16 : Int) ≤ (k : Int) := by omega
    have W := hid (word_not (l := s.data.toList) (fun x hx e => by
      obtain ⟨j, hj, hjx⟩ := List.getElem_of_mem hx
      have : j < 16 := hj
      exact HN.out j x (by omega) (by rw [List.getElem?_eq_getElem hj, hjx]) (ByteArray.ext (Array.toList_inj.1 e))))
    go_wp2
    go_ret
    exact ⟨by rw [W.out]; first | done | rfl, FR.out⟩
theorem digitsVal_add' (l : List UInt8) (a : Nat) : digitsVal a l = a * 10 ^ l.length + digitsVal 0 l := by
 induction l generalizing a with
 | nil => simp [digitsVal]
 | cons c l ih =>
  rw [digitsVal_cons, ih, digitsVal_cons, ih (0 * 10 + (c.toNat - 48)), List.length_cons, Nat.pow_succ]
  simp only [Nat.add_mul, Nat.zero_mul, Nat.zero_add, Nat.mul_assoc, Nat.mul_comm 10, Nat.add_assoc]
theorem digitsVal_lt (l : List UInt8) (h : allDigits l) : digitsVal 0 l < 10 ^ l.length := by
 induction l with
 | nil => simp [digitsVal]
 | cons c l ih =>
  have hc := h c (by simp)
  have := ih (fun x hx => h x (by simp [hx]))
  rw [digitsVal_cons, digitsVal_add', List.length_cons, Nat.pow_succ]
  have h2 := Nat.mul_le_mul_right (10 ^ l.length) (show 0 * 10 + (c.toNat - 48) ≤ 9 by omega)
  omega
theorem less_val : ∀ (a b : List UInt8), allDigits a → allDigits b → a.length = b.length → (Op.bytesLess a b || a == b) = decide (digitsVal 0 a ≤ digitsVal 0 b) := by
 intro a
 induction a with
 | nil =>
  intro b _ _ hl
  cases b with
  | nil => rfl
  | cons y b => simp at hl
 | cons x a ih =>
  intro b ha hb hl
  cases b with
  | nil => simp at hl
  | cons y b =>
   have hl' : a.length = b.length := by simpa using hl
   have ha' : allDigits a := fun c hc => ha c (by simp [hc])
   have hb' : allDigits b := fun c hc => hb c (by simp [hc])
   have hi := ih b ha' hb' hl'
   have hx := ha x (by simp)
   have hy := hb y (by simp)
   have va := digitsVal_lt a ha'
   have vb := digitsVal_lt b hb'
   rw [digitsVal_cons, digitsVal_cons, digitsVal_add' a, digitsVal_add' b, hl']
   rw [hl'] at va
   by_cases hlt : x < y
   · have hn : x.toNat < y.toNat := UInt8.lt_iff_toNat_lt.1 hlt
     have h2 := Nat.mul_le_mul_right (10 ^ b.length) (show 0 * 10 + (x.toNat - 48) + 1 ≤ 0 * 10 + (y.toNat - 48) by omega)
     rw [Nat.add_mul, Nat.one_mul] at h2
     rw [decide_eq_true (by omega)]
     simp [Op.bytesLess, hlt]
   · by_cases he : x = y
     · subst he
       have e1 : (Op.bytesLess (x :: a) (x :: b) || (x :: a) == (x :: b)) = (Op.bytesLess a b || a == b) := by simp [Op.bytesLess]
       rw [e1, hi]
       exact decide_eq_decide.2 (by omega)
     · have hn : y.toNat < x.toNat := by
        have h1 : ¬ x.toNat < y.toNat := fun h => hlt (UInt8.lt_iff_toNat_lt.2 h)
        have h2 : x.toNat ≠ y.toNat := fun h => he (UInt8.toNat_inj.1 h)
        omega
       have h2 := Nat.mul_le_mul_right (10 ^ b.length) (show 0 * 10 + (y.toNat - 48) + 1 ≤ 0 * 10 + (x.toNat - 48) by omega)
       rw [Nat.add_mul, Nat.one_mul] at h2
       rw [decide_eq_false (by omega)]
       have : (x :: a == y :: b) = false := beq_eq_false_iff_ne.2 (fun e => he (by injection e))
       rw [this]
       simp [Op.bytesLess, hlt, he]
set_option maxRecDepth 100000 in
theorem rnumber_any (s : ByteArray) (hd : allDigits s.data.toList) (hs : s.size ≤ 281474976710656) (w : World) :
   Calls Tryd.prog 37 #[.string s] w fun e w' => e = .returned (.bool (numOk s.data.toList)) ∧ w = w' := by
 have hl : s.data.toList.length = s.size := by simp
 have hlt := digitsVal_lt _ hd
 rcases (by omega : s.size < 19 ∨ s.size = 19 ∨ 19 < s.size) with h | h | h
 · have hn : numOk s.data.toList = true := by
    unfold numOk
    rw [hl] at hlt ⊢
    have : 10 ^ s.size ≤ 10 ^ 18 := Nat.pow_le_pow_right (by decide) (by omega)
    rw [decide_eq_true (by omega), decide_eq_true (by omega)]; rfl
   rw [hn]
   have h2 : (s.size : Int) < 19 := by omega
   clear hn hlt hl hd
   go_enter Tryd.func37, Tryd.ntmps37
   go_wp2
   go_ret
   exact ⟨rfl, rfl⟩
 · have hn : (Op.bytesLess s.toList [57, 50, 50, 51, 51, 55, 50, 48, 51, 54, 56, 53, 52, 55, 55, 53, 56, 48, 55] || s.toList == [57, 50, 50, 51, 51, 55, 50, 48, 51, 54, 56, 53, 52, 55, 55, 53, 56, 48, 55]) = numOk s.data.toList := by
    rw [ByteArray.toList_eq, less_val _ _ hd (by unfold allDigits; decide) (by rw [hl, h]; rfl)]
    unfold numOk
    rw [hl, show decide (s.size ≤ 19) = true from decide_eq_true (by omega), Bool.true_and]
    rw [show digitsVal 0 [57, 50, 50, 51, 51, 55, 50, 48, 51, 54, 56, 53, 52, 55, 55, 53, 56, 48, 55] = 9223372036854775807 by kernel_rfl]
   have h2 : (s.size : Int) = 19 := by omega
   generalize numOk s.data.toList = b at *
   have HN := hid hn
   clear hlt hl hd h hn
   go_enter Tryd.func37, Tryd.ntmps37
   go_wp2
   go_ret
   exact ⟨congrArg (fun x => Ending.returned (Value.bool x)) HN.out, rfl⟩
 · have hn : numOk s.data.toList = false := by
    unfold numOk
    rw [hl, decide_eq_false (by omega)]; rfl
   rw [hn]
   have h2 : (19 : Int) < (s.size : Int) := by omega
   have h3 : ((s.size : Int) == 19) = false := beq_eq_false_iff_ne.2 (by omega)
   have H4 := hid (show decide ((s.size : Int) < 19) = false from decide_eq_false (by omega))
   clear hn hlt hl hd
   go_enter Tryd.func37, Tryd.ntmps37
   go_wp2
   go_ret
   exact ⟨by first | rfl | exact congrArg (fun x => Ending.returned (Value.bool x)) H4.out, rfl⟩
def signL (l : List UInt8) : List UInt8 := match signM l with
 | .ok _ _ m _ => l.take m
 | .err _ => []
def NoTwo (s : ByteArray) (k : Nat) : Prop := ∀ j x, j < k → twosS[j]? = some x → 2 ≤ s.size → s.extract 0 2 ≠ x
def NoOne (c : UInt8) (k : Nat) : Prop := ∀ j x, j < k → onesS.data.toList[j]? = some x → c ≠ x
theorem twos_at (k : Nat) (h : k < 5) : ∃ x, twosS[k]? = some x ∧ (twosS.map Value.string).toArray[k]? = some (.string x) := by
 have : k < twosS.length := h
 exact ⟨twosS[k], List.getElem?_eq_getElem this, by simp [List.getElem?_eq_getElem this]⟩
theorem NoTwo.next {s : ByteArray} {k : Nat} {x : ByteArray} (h : NoTwo s k) (hx : twosS[k]? = some x) (he : 2 ≤ s.size → s.extract 0 2 ≠ x) : NoTwo s (k + 1) := fun j y hj hy => by
 by_cases e : j = k
 · subst e
   rw [hx] at hy
   injection hy with hy
   subst hy; exact he
 · exact h j y (by omega) hy
theorem NoOne.next {c : UInt8} {k : Nat} {x : UInt8} (h : NoOne c k) (hx : onesS.data.toList[k]? = some x) (he : c ≠ x) : NoOne c (k + 1) := fun j y hj hy => by
 by_cases e : j = k
 · subst e
   rw [hx] at hy
   injection hy with hy
   subst hy; exact he
 · exact h j y (by omega) hy
theorem two_found {s x : ByteArray} {k : Nat} (hx : twosS[k]? = some x) (h2 : 2 ≤ s.size) (he : s.extract 0 2 = x) : bs (signL s.data.toList) = x := by
 have hl : s.data.toList.length = s.size := by simp
 have ht : s.data.toList.take 2 = x.data.toList := by rw [← he, ext_take]
 have : signM s.data.toList = .ok 5 0 2 2 := by
  unfold signM
  refine if_pos ⟨by omega, ?_⟩
  unfold twoB isIn
  exact decide_eq_true (List.mem_map.2 ⟨x, List.mem_of_getElem? hx, ht.symm⟩)
 unfold signL
 rw [this]
 show bs (s.data.toList.take 2) = x
 rw [ht, bs_data]
theorem two_none {s : ByteArray} (h : NoTwo s 5) : signM s.data.toList = if oneB (byteAt s.data.toList 0) then .ok 5 0 1 1 else .err 10 := by
 have hl : s.data.toList.length = s.size := by simp
 unfold signM
 rw [if_neg]
 rintro ⟨h1, h2⟩
 unfold twoB isIn at h2
 obtain ⟨x, hx, he⟩ := List.mem_map.1 (of_decide_eq_true h2)
 obtain ⟨j, hj, hjx⟩ := List.getElem_of_mem hx
 have hj5 : j < 5 := hj
 refine h j x hj5 (by rw [List.getElem?_eq_getElem hj, hjx]) (by omega) ?_
 apply ByteArray.ext
 apply Array.toList_inj.1
 rw [ext_take]
 exact he.symm
theorem one_found {s : ByteArray} {c : UInt8} (h0 : 0 < s.size) (hc : s[0]'h0 = c) (h : NoTwo s 5) (hm : c ∈ onesS.data.toList) : signL s.data.toList = [c] := by
 have hb := byteAt_eq s 0 h0
 rw [hc] at hb
 unfold signL
 rw [two_none h, hb]
 have : oneB (c.toNat : Int) = true := by
  unfold oneB
  rw [show ((c.toNat : Int)).toNat.toUInt8 = c by simp]
  exact decide_eq_true ((idx_mem _ _).2 hm)
 rw [if_pos this]
 show s.data.toList.take 1 = [c]
 have h1 : s.data.toList[0]? = some c := by rw [List.getElem?_eq_getElem (by simpa using h0)]; exact congrArg some hc
 rw [List.take_add_one, h1]; rfl
theorem one_none {s : ByteArray} {c : UInt8} (h0 : 0 < s.size) (hc : s[0]'h0 = c) (h : NoTwo s 5) (hn : NoOne c 16) : signL s.data.toList = [] := by
 have hb := byteAt_eq s 0 h0
 rw [hc] at hb
 unfold signL
 rw [two_none h, hb]
 have : oneB (c.toNat : Int) = false := by
  unfold oneB
  rw [show ((c.toNat : Int)).toNat.toUInt8 = c by simp]
  apply decide_eq_false
  rw [idx_mem]
  intro hm
  obtain ⟨j, hj, hjx⟩ := List.getElem_of_mem hm
  have hj16 : j < 16 := hj
  exact hn j c hj16 (by rw [List.getElem?_eq_getElem hj, hjx]) rfl
 rw [if_neg (by rw [this]; simp)]
theorem ones_at (k : Nat) (h : k < 16) : ∃ c, ∃ (h' : k < (⟨#[40, 41, 123, 125, 91, 93, 44, 59, 61, 60, 43, 45, 42, 47, 37, 33]⟩ : ByteArray).size), (⟨#[40, 41, 123, 125, 91, 93, 44, 59, 61, 60, 43, 45, 42, 47, 37, 33]⟩ : ByteArray)[k]'h' = c ∧ onesS.data.toList[k]? = some c ∧
  (⟨#[40, 41, 123, 125, 91, 93, 44, 59, 61, 60, 43, 45, 42, 47, 37, 33]⟩ : ByteArray).extract k (k + 1) = bs [c] := by
 rcases (by omega : k = 0 ∨ k = 1 ∨ k = 2 ∨ k = 3 ∨ k = 4 ∨ k = 5 ∨ k = 6 ∨ k = 7 ∨ k = 8 ∨ k = 9 ∨ k = 10 ∨ k = 11 ∨ k = 12 ∨ k = 13 ∨ k = 14 ∨ k = 15) with rfl | rfl | rfl | rfl | rfl | rfl | rfl | rfl | rfl | rfl | rfl | rfl | rfl | rfl | rfl | rfl
 all_goals exact ⟨_, by decide, rfl, rfl, rfl⟩
set_option maxRecDepth 100000 in
set_option maxHeartbeats 1600000 in
theorem rsign_any (s : ByteArray) (h0 : 0 < s.size) (w : World) : Calls Tryd.prog 41 #[.string s] w fun e w' => e = .returned (.string (bs (signL s.data.toList))) ∧ Fr nob w w' := by
 have h0i : (0 : Int) < (s.size : Int) := by omega
 obtain ⟨c0, hc0⟩ : ∃ c, s[0]'h0 = c := ⟨_, rfl⟩
 have HC0 := hid hc0
 go_enter Tryd.func41, Tryd.ntmps41
 go_wp2
 have BL := hid (Blk.new w 9 (twosS.map Value.string).toArray)
 have FR := hid ((Fr.refl nob w).alloc (.cells (twosS.map Value.string).toArray 9))
 have e2 : w.alloc (.cells (twosS.map Value.string).toArray 9) = w.alloc (.cells #[.string ⟨#[124, 124]⟩, .string ⟨#[38, 38]⟩, .string ⟨#[60, 61]⟩, .string ⟨#[61, 61]⟩, .string ⟨#[33, 61]⟩] 9) := rfl
 rw [e2] at BL FR
 clear e2
 generalize hw2 : w.alloc (.cells #[.string ⟨#[124, 124]⟩, .string ⟨#[38, 38]⟩, .string ⟨#[60, 61]⟩, .string ⟨#[61, 61]⟩, .string ⟨#[33, 61]⟩] 9) = w2 at *
 clear hw2
 go_loopw [4] (fun i w' => ∃ k : Nat, k ≤ 5 ∧ i = .int .i64 k ∧ Hid (NoTwo s k) ∧ Hid (Fr nob w2 w')) (fun i _ => 5 - (intOf i).toNat)
 case atStart => exact ⟨0, Nat.zero_le _, rfl, hid (fun j x hj => absurd hj (Nat.not_lt_zero _)), hid (Fr.refl _ _)⟩
 case round =>
  obtain ⟨k, hk, rfl, HN, F2⟩ := hrel
  by_cases hlt : k < 5
  · have hlt2 : (k : Int) < 5 := by omega
    obtain ⟨x, hx, hx2⟩ := twos_at k hlt
    have HX := hid hx
    have c0 := ((BL.out.fr F2.out (fun x => x)).cell k).trans hx2
    have cK := (F2.out.cell (p := ⟨w.heap.size, k, none⟩) BL.out.lt (fun x => x)).symm
    clear hx2 hx cK
    by_cases hs2 : 2 ≤ s.size
    · have hs3 : (2 : Int) ≤ (s.size : Int) := by omega
      have hsd : decide ((2 : Int) ≤ (s.size : Int)) = true := decide_eq_true hs3
      obtain ⟨s2, hs2'⟩ : ∃ s2, s.extract 0 2 = s2 := ⟨_, rfl⟩
      by_cases he : s2 = x
      · have RS := hid (two_found HX.out hs2 (hs2'.trans he))
        subst he
        clear hs2
        go_wp2
        go_quiet (fail)
        go_wp2
        go_ret
        exact ⟨by rw [RS.out]; first | done | rfl, (FR.out.tr F2.out).drewN _⟩
      · have heb : (s2.toList == x.toList) = false := by rw [ByteArray.toList_eq, ByteArray.toList_eq]; exact beq_eq_false_iff_ne.2 (fun e => he (ByteArray.ext (Array.toList_inj.1 e)))
        have HN2 := hid (HN.out.next HX.out (fun _ => by rw [hs2']; exact he))
        clear hs2 he
        go_wp2
        go_quiet (fail)
        go_wp2
        go_roundw
        case rel => exact ⟨k + 1, by omega, by go_num, HN2, hid (F2.out.drewN _)⟩
        case measure => simp [intOf]; omega
    · have hs3 : (s.size : Int) < 2 := by omega
      have hsd : decide ((2 : Int) ≤ (s.size : Int)) = false := decide_eq_false (by omega)
      have HN2 := hid (HN.out.next HX.out (fun h => absurd h hs2))
      clear hs2
      go_wp2
      go_quiet (fail)
      go_wp2
      go_roundw
      case rel => exact ⟨k + 1, by omega, by go_num, HN2, hid (F2.out.drewN _)⟩
      case measure => simp [intOf]; omega
  · have hk5 : k = 5 := by omega
    subst hk5
    clear hlt hk
    go_wp2
    go_loopw [6] (fun i w' => ∃ k : Nat, k ≤ 16 ∧ i = .int .i64 k ∧ Hid (NoOne c0 k) ∧ Hid (Fr nob w2 w')) (fun i _ => 16 - (intOf i).toNat)
    case atStart => exact ⟨0, Nat.zero_le _, rfl, hid (fun j x hj => absurd hj (Nat.not_lt_zero _)), F2⟩
    case round =>
      obtain ⟨k, hk, rfl, HO, F3⟩ := hrel
      by_cases hlt : k < 16
      · have hlt2 : (k : Int) < 16 := by omega
        obtain ⟨c, hcs, hc, hcl, hce⟩ := ones_at k hlt
        have HCL := hid hcl
        have HCE := hid hce
        clear hcl hce
        by_cases he : c0 = c
        · have RS := hid (one_found h0 HC0.out HN.out (he ▸ List.mem_of_getElem? HCL.out))
          have heb : ((c0.toNat : Int) == (c.toNat : Int)) = true := by rw [he]; simp
          go_wp2
          go_quiet (fail)
          go_wp2
          go_ret
          exact ⟨by rw [RS.out, he, ← HCE.out]; first | done | rfl, (FR.out.tr F3.out).drewN _⟩
        · have heb : ((c0.toNat : Int) == (c.toNat : Int)) = false := beq_eq_false_iff_ne.2 (fun e => he (UInt8.toNat_inj.1 (by omega)))
          have HN2 := hid (HO.out.next HCL.out he)
          clear he
          go_wp2
          go_quiet (fail)
          go_wp2
          go_roundw
          case rel => exact ⟨k + 1, by omega, by go_num, HN2, hid (F3.out.drewN _)⟩
          case measure => simp [intOf]; omega
      · have hk16 : k = 16 := by omega
        subst hk16
        have RS := hid (one_none h0 HC0.out HN.out HO.out)
        clear hlt hk
        go_wp2
        go_ret
        exact ⟨by rw [RS.out]; first | done | rfl, FR.out.tr F3.out⟩
def skipN (l : List UInt8) : Nat :=
 match l with
 | [] => 0
 | c :: r =>
  if blankI (byteAt (c :: r) 0) then 1 + skipN r
  else if remarkB (c :: r) then runN lineI (c :: r) + skipN (r.drop (runN lineI (c :: r) - 1))
  else 0
termination_by l.length
decreasing_by
 all_goals simp
 all_goals omega
section
variable {l : List UInt8}
theorem skip_nil : skipN [] = 0 := by rw [skipN]
theorem skip_blank (h0 : 0 < l.length) (h : blankI (byteAt l 0) = true) : skipN l = 1 + skipN (l.drop 1) := by
 cases l with
 | nil => simp at h0
 | cons c r => rw [skipN, if_pos h]; rfl
theorem remark_pos (h2 : remarkB l = true) : 1 ≤ runN lineI l := by
 unfold remarkB Lib.hasPrefix at h2
 cases l with
 | nil => simp at h2
 | cons c r =>
  refine runN_pos lineI _ (by simp) ?_
  simp at h2
  simp [lineI, byteAt, ← h2.1]
theorem skip_remark (h0 : 0 < l.length) (h : blankI (byteAt l 0) = false) (h2 : remarkB l = true) : skipN l = runN lineI l + skipN (l.drop (runN lineI l)) := by
 have hp := remark_pos h2
 cases l with
 | nil => simp at h0
 | cons c r =>
  rw [skipN, if_neg (by rw [h]; simp), if_pos h2]
  conv => rhs; rw [show (c :: r).drop (runN lineI (c :: r)) = r.drop (runN lineI (c :: r) - 1) by conv => lhs; rw [show runN lineI (c :: r) = (runN lineI (c :: r) - 1) + 1 by omega, List.drop_succ_cons]]
theorem skip_stop (h0 : 0 < l.length) (h : blankI (byteAt l 0) = false) (h2 : remarkB l = false) : skipN l = 0 := by
 cases l with
 | nil => simp at h0
 | cons c r => rw [skipN, if_neg (by rw [h]; simp), if_neg (by rw [h2]; simp)]
end
theorem lex_skip : ∀ (n : Nat) (l : List UInt8) (p : Nat), l.length ≤ n → skipN l ≤ l.length ∧ skipN (l.drop (skipN l)) = 0 ∧ lexFrom l p = lexFrom (l.drop (skipN l)) (p + skipN l) := by
 intro n
 induction n with
 | zero =>
  intro l p h
  have : l = [] := List.eq_nil_of_length_eq_zero (by omega)
  subst this
  rw [skip_nil]; exact ⟨Nat.le_refl _, skip_nil, rfl⟩
 | succ n ih =>
  intro l p h
  refine lex_step (Mo := fun l p => l.length ≤ n + 1 → skipN l ≤ l.length ∧ skipN (l.drop (skipN l)) = 0 ∧ lexFrom l p = lexFrom (l.drop (skipN l)) (p + skipN l)) l p ?_ ?_ ?_ ?_ ?_ h
  · intro _ _; rw [skip_nil]; exact ⟨Nat.le_refl _, skip_nil, rfl⟩
  · intro h0 hb h
    obtain ⟨a1, a2, a3⟩ := ih (l.drop 1) (p + 1) (by rw [List.length_drop]; omega)
    rw [List.length_drop] at a1
    rw [List.drop_drop] at a2 a3
    rw [skip_blank h0 hb, lex_blank h0 hb]
    exact ⟨by omega, a2, by rw [a3]; congr 1; omega⟩
  · intro h0 hb hr h1 h
    have hle := runN_le lineI l
    obtain ⟨a1, a2, a3⟩ := ih (l.drop (runN lineI l)) (p + runN lineI l) (by rw [List.length_drop]; omega)
    rw [List.length_drop] at a1
    rw [List.drop_drop] at a2 a3
    rw [skip_remark h0 hb hr, lex_remark h0 hb hr]
    exact ⟨by omega, a2, by rw [a3]; congr 1; omega⟩
  · intro e h0 hb hr hf h
    rw [skip_stop h0 hb hr]
    exact ⟨Nat.zero_le _, by rw [List.drop_zero]; exact skip_stop h0 hb hr, rfl⟩
  · intro k o m n' h0 hb hr hf h
    rw [skip_stop h0 hb hr]
    exact ⟨Nat.zero_le _, by rw [List.drop_zero]; exact skip_stop h0 hb hr, rfl⟩
theorem byteAt_drop' (s : List UInt8) (p k : Nat) : byteAt (s.drop p) k = byteAt s (p + k) := by
 unfold byteAt
 rw [List.getD, List.getD, List.getElem?_drop]
theorem remark_bytes (s : ByteArray) (k : Nat) (h : k < s.size) : remarkB (s.data.toList.drop k) = (decide ((s[k]'h).toNat = 47) && if h2 : k + 1 < s.size then decide ((s[k + 1]'h2).toNat = 47) else false) := by
 have hl : s.data.toList.length = s.size := by simp
 rw [List.drop_eq_getElem_cons (by rw [hl]; exact h)]
 unfold remarkB Lib.hasPrefix
 have e1 : s.data.toList[k]'(by rw [hl]; exact h) = s[k]'h := rfl
 rw [e1]
 by_cases h2 : k + 1 < s.size
 · rw [dif_pos h2, List.drop_eq_getElem_cons (by rw [hl]; exact h2)]
   have e2 : s.data.toList[k + 1]'(by rw [hl]; exact h2) = s[k + 1]'h2 := rfl
   rw [e2]
   simp only [List.isPrefixOf, Bool.and_true]
   have e3 : ∀ c : UInt8, ((47 : UInt8) == c) = decide (c.toNat = 47) := fun c => by
    by_cases e : c = 47
    · subst e; rfl
    · have hx : ¬ c.toNat = 47 := fun x => e (UInt8.toNat_inj.1 (x.trans rfl))
      rw [decide_eq_false hx]
      exact beq_eq_false_iff_ne.2 (fun x => e x.symm)
   rw [e3, e3]
 · rw [dif_neg h2, List.drop_of_length_le (by omega)]
   simp [List.isPrefixOf]
set_option maxRecDepth 100000 in
set_option maxHeartbeats 1600000 in
theorem rskip_any (s : ByteArray) (hs : s.size ≤ 281474976710656) (i : Nat) (hi : i ≤ s.size) (w : World) :
  Calls Tryd.prog 23 #[.string s, .int .i64 i] w fun e w' => e = .returned (.int .i64 ((i + skipN (s.data.toList.drop i) : Nat))) ∧ w = w' := by
 have hl : s.data.toList.length = s.size := by simp
 have HL := hid hl
 clear hl
 obtain ⟨T, hT⟩ : ∃ T, i + skipN (s.data.toList.drop i) = T := ⟨_, rfl⟩
 rw [hT]
 have HT := hid hT.symm
 clear hT
 go_enter Tryd.func23, Tryd.ntmps23
 go_wp2
 go_loopw [1] (fun v w' => ∃ k : Nat, k ≤ s.size ∧ v = .int .i64 k ∧ Hid (T = k + skipN (s.data.toList.drop k)) ∧ w = w') (fun v _ => s.size - (intOf v).toNat)
 case atStart => exact ⟨i, hi, rfl, HT, rfl⟩
 case round =>
  obtain ⟨k, hk, rfl, HE, rfl⟩ := hrel
  by_cases hlt : k < s.size
  · have hlt2 : (k : Int) < (s.size : Int) := by omega
    have h0 : 0 < (s.data.toList.drop k).length := by rw [List.length_drop, HL.out]; omega
    have hb0 : byteAt (s.data.toList.drop k) 0 = ((s[k]'hlt).toNat : Int) := by rw [byteAt_drop', Nat.add_zero, byteAt_eq s k hlt]
    have hrb := remark_bytes s k hlt
    obtain ⟨c, hc⟩ : ∃ c, s[k]'hlt = c := ⟨_, rfl⟩
    rw [hc] at hb0 hrb
    by_cases hbl : blankI (byteAt (s.data.toList.drop k) 0) = true
    · have hsk := skip_blank h0 hbl
      rw [List.drop_drop] at hsk
      have HS := hid hsk
      rw [hb0, blank_eq] at hbl
      have hbl2 := of_decide_eq_true hbl
      clear hsk hbl hrb hb0 h0
      have hcs : (c.toNat : Int) = 32 ∨ (c.toNat : Int) = 9 ∨ (c.toNat : Int) = 13 ∨ (c.toNat : Int) = 10 := by
        simp at hbl2
        rcases hbl2 with rfl | rfl | rfl | rfl <;> simp
      clear hbl2
      rcases hcs with h | h | h | h
      all_goals
        go_wp2
        go_roundw
        case rel => exact ⟨k + 1, by omega, by go_num, hid (by rw [HE.out, HS.out]; omega), trivial⟩
        case measure => simp [intOf]; omega
    · have hbf : blankI (byteAt (s.data.toList.drop k) 0) = false := by simpa using hbl
      clear hbl
      have hnb : ((c.toNat : Int) == 32) = false ∧ ((c.toNat : Int) == 9) = false ∧ ((c.toNat : Int) == 13) = false ∧ ((c.toNat : Int) == 10) = false := by
        have h := hbf
        rw [hb0, blank_eq] at h
        have h := of_decide_eq_false h
        simp at h
        obtain ⟨a1, a2, a3, a4⟩ := h
        have k : ∀ x : UInt8, c ≠ x → ((c.toNat : Int) == (x.toNat : Int)) = false := fun x hx => beq_eq_false_iff_ne.2 (fun e => hx (UInt8.toNat_inj.1 (by omega)))
        exact ⟨k 32 a1, k 9 a2, k 13 a3, k 10 a4⟩
      obtain ⟨n1, n2, n3, n4⟩ := hnb
      by_cases h47 : c.toNat = 47
      · have hcb : ((c.toNat : Int) == 47) = true := by rw [h47]; rfl
        by_cases hk2 : k + 1 < s.size
        · have hk3 : (k : Int) + 1 < (s.size : Int) := by omega
          obtain ⟨c2, hc2⟩ : ∃ c2, s[k + 1]'hk2 = c2 := ⟨_, rfl⟩
          rw [dif_pos hk2, hc2] at hrb
          by_cases h247 : c2.toNat = 47
          · have hcb2 : ((c2.toNat : Int) == 47) = true := by rw [h247]; rfl
            rw [decide_eq_true h47, decide_eq_true h247] at hrb
            have hrm : remarkB (s.data.toList.drop k) = true := hrb
            have hsk := skip_remark h0 hbf hrm
            rw [List.drop_drop] at hsk
            have HS := hid hsk
            have hrl := runN_le lineI (s.data.toList.drop k)
            rw [List.length_drop, HL.out] at hrl
            have hr1 := remark_pos hrm
            clear hsk hrm hrb h247 h47 hbf hb0 h0
            go_wp2
            go_loopw [1] (fun v w' => ∃ m : Nat, k ≤ m ∧ m ≤ s.size ∧ v = .int .i64 m ∧ Hid (runN lineI (s.data.toList.drop k) = (m - k) + runN lineI (s.data.toList.drop m)) ∧ w = w') (fun v _ => s.size - (intOf v).toNat)
            case atStart => exact ⟨k, Nat.le_refl _, by omega, rfl, hid (by omega), rfl⟩
            case round =>
             obtain ⟨m, hkm, hm, rfl, HR, rfl⟩ := hrel
             by_cases hms : m < s.size
             · have hms2 : (m : Int) < (s.size : Int) := by omega
               obtain ⟨d, hd⟩ : ∃ d, s[m]'hms = d := ⟨_, rfl⟩
               have hst := runN_step lineI s.data.toList m (by rw [HL.out]; exact hms)
               rw [byteAt_eq s m hms, hd] at hst
               have HST := hid hst
               clear hst
               by_cases hd10 : (d.toNat : Int) = 10
               · have hdb : ((d.toNat : Int) != 10) = false := by rw [hd10]; rfl
                 go_wp2
                 go_roundw
                 case rel =>
                  have h1 := HR.out
                  have h2 := HST.out
                  rw [if_neg (by simp [lineI, hd10])] at h2
                  have h3 : k + runN lineI (s.data.toList.drop k) = m := by omega
                  exact ⟨m, by omega, by go_num, hid (by rw [HE.out, HS.out, h3]; omega), trivial⟩
                 case measure =>
                  have h1 := HR.out
                  have h2 := HST.out
                  rw [if_neg (by simp [lineI, hd10])] at h2
                  simp [intOf]; omega
               · have hdb : ((d.toNat : Int) != 10) = true := bne_iff_ne.2 hd10
                 go_wp2
                 go_roundw
                 case rel =>
                  have h1 := HR.out
                  have h2 := HST.out
                  rw [if_pos (by simp [lineI]; omega)] at h2
                  exact ⟨m + 1, by omega, by omega, by go_num, hid (by omega), trivial⟩
                 case measure => simp [intOf]; omega
             · have hms2 : (s.size : Int) ≤ (m : Int) := by omega
               have hz : runN lineI (s.data.toList.drop m) = 0 := by rw [List.drop_of_length_le (by rw [HL.out]; omega)]; rfl
               have HZ := hid hz
               clear hz
               go_wp2
               go_roundw
               case rel =>
                 have h1 := HR.out
                 rw [HZ.out] at h1
                 have h3 : k + runN lineI (s.data.toList.drop k) = m := by omega
                 exact ⟨m, by omega, by go_num, hid (by rw [HE.out, HS.out, h3]; omega), trivial⟩
               case measure =>
                 have h1 := HR.out
                 rw [HZ.out] at h1
                 simp [intOf]; omega
          · have hcb2 : ((c2.toNat : Int) == 47) = false := beq_eq_false_iff_ne.2 (by omega)
            rw [decide_eq_false h247, Bool.and_false] at hrb
            have HS := hid (skip_stop h0 hbf hrb)
            clear hrb h247 h47 hbf hb0 h0
            go_wp2
            go_ret
            exact ⟨by rw [HE.out, HS.out]; first | done | rfl, rfl⟩
        · have hk3 : (s.size : Int) ≤ (k : Int) + 1 := by omega
          rw [dif_neg hk2, Bool.and_false] at hrb
          have HS := hid (skip_stop h0 hbf hrb)
          clear hrb h47 hbf hb0 h0 hk2
          go_wp2
          go_ret
          exact ⟨by rw [HE.out, HS.out]; first | done | rfl, rfl⟩
      · have hcb : ((c.toNat : Int) == 47) = false := beq_eq_false_iff_ne.2 (by omega)
        rw [decide_eq_false h47, Bool.false_and] at hrb
        have HS := hid (skip_stop h0 hbf hrb)
        clear hrb h47 hbf hb0 h0
        go_wp2
        go_ret
        exact ⟨by rw [HE.out, HS.out]; first | done | rfl, rfl⟩
  · have hlt2 : (s.size : Int) ≤ (k : Int) := by omega
    have HS := hid (show skipN (s.data.toList.drop k) = 0 by rw [List.drop_of_length_le (by rw [HL.out]; omega), skip_nil])
    clear hlt
    go_wp2
    go_ret
    exact ⟨by rw [HE.out, HS.out]; first | done | rfl, rfl⟩
def textR (l : List UInt8) (at_ : Nat) : Ending := match textM (l.drop at_) with
 | .ok _ _ m n => .returned (.tuple #[.string (bs ((l.drop (at_ + 1)).take m)), .int .i64 ((at_ + n : Nat) : Int), .int .i64 0])
 | .err e => .returned (.tuple #[.string ⟨#[]⟩, .int .i64 at_, .int .i64 e])
theorem textR_err (l : List UInt8) (at_ m : Nat) (h1 : at_ < l.length) (hm : runN plainI (l.drop (at_ + 1)) = m - (at_ + 1)) (hm2 : at_ + 1 ≤ m) (h : l.length ≤ m ∨ byteAt l m ≠ 34) :
   textR l at_ = .returned (.tuple #[.string ⟨#[]⟩, .int .i64 at_, .int .i64 11]) := by
 unfold textR textM
 rw [List.drop_drop, hm, if_pos]
 · rfl
 · rw [byteAt_drop', List.length_drop, show at_ + (m - (at_ + 1) + 1) = m by omega]
   rcases h with h | h
   · exact .inl (by omega)
   · exact .inr h
theorem textR_ok (l : List UInt8) (at_ m : Nat) (h1 : at_ < l.length) (hm : runN plainI (l.drop (at_ + 1)) = m - (at_ + 1)) (hm2 : at_ + 1 ≤ m) (hm3 : m < l.length) (h : byteAt l m = 34) :
   textR l at_ = if 12 < m - (at_ + 1) then .returned (.tuple #[.string ⟨#[]⟩, .int .i64 at_, .int .i64 4])
     else .returned (.tuple #[.string (bs ((l.drop (at_ + 1)).take (m - (at_ + 1)))), .int .i64 ((m + 1 : Nat) : Int), .int .i64 0]) := by
 unfold textR textM
 rw [List.drop_drop, hm, if_neg]
 · by_cases h12 : 12 < m - (at_ + 1)
   · rw [if_pos h12, if_pos h12]; rfl
   · rw [if_neg h12, if_neg h12]
     simp only
     rw [show at_ + (m - (at_ + 1) + 2) = m + 1 by omega]
 · rw [byteAt_drop', List.length_drop, show at_ + (m - (at_ + 1) + 1) = m by omega]
   rintro (e | e)
   · omega
   · exact e h
set_option maxRecDepth 100000 in
set_option maxHeartbeats 1600000 in
theorem rtext_any (s : ByteArray) (hs : s.size ≤ 281474976710656) (a : Nat) (ha : a < s.size) (w : World) :
  Calls Tryd.prog 40 #[.string s, .int .i64 a] w fun e w' => e = textR s.data.toList a ∧ w = w' := by
 have hl : s.data.toList.length = s.size := by simp
 have HL := hid hl
 clear hl
 obtain ⟨E, hE⟩ : ∃ E, textR s.data.toList a = E := ⟨_, rfl⟩
 rw [hE]
 have HE := hid hE
 clear hE
 go_enter Tryd.func40, Tryd.ntmps40
 go_wp2
 go_loopw [7] (fun v w' => ∃ m : Nat, a + 1 ≤ m ∧ m ≤ s.size ∧ v = .int .i64 m ∧ Hid (runN plainI (s.data.toList.drop (a + 1)) = (m - (a + 1)) + runN plainI (s.data.toList.drop m)) ∧ w = w') (fun v _ => s.size - (intOf v).toNat)
 case atStart => exact ⟨a + 1, Nat.le_refl _, by omega, by go_num, hid (by omega), rfl⟩
 case round =>
  obtain ⟨m, ham, hm, rfl, HR, rfl⟩ := hrel
  have ham2 : (a : Int) + 1 ≤ (m : Int) := by omega
  by_cases hms : m < s.size
  · have hms2 : (m : Int) < (s.size : Int) := by omega
    obtain ⟨d, hd⟩ : ∃ d, s[m]'hms = d := ⟨_, rfl⟩
    have hby := byteAt_eq s m hms
    rw [hd] at hby
    have hst := runN_step plainI s.data.toList m (by rw [HL.out]; exact hms)
    rw [hby] at hst
    have HST := hid hst
    have HBY := hid hby
    clear hst hby
    rcases (by omega : (d.toNat : Int) < 32 ∨ (d.toNat : Int) = 34 ∨ (32 ≤ (d.toNat : Int) ∧ (d.toNat : Int) ≤ 126 ∧ (d.toNat : Int) ≠ 34) ∨ 126 < (d.toNat : Int)) with h | h | ⟨h1, h2, h3⟩ | h
    · have hz : runN plainI (s.data.toList.drop (a + 1)) = m - (a + 1) := by
        have h1 := HR.out
        have h2 := HST.out
        rw [if_neg (by simp [plainI]; omega)] at h2
        omega
      have HF := hid ((textR_err s.data.toList a m (by rw [HL.out]; exact ha) hz ham (.inr (by rw [HBY.out]; omega))).symm.trans HE.out)
      have hq : ((d.toNat : Int) != 34) = true := bne_iff_ne.2 (by omega)
      clear hz
      go_wp2
      go_ret3
      exact ⟨by rw [← HF.out]; first | done | rfl, rfl⟩
    · have hz : runN plainI (s.data.toList.drop (a + 1)) = m - (a + 1) := by
        have h1 := HR.out
        have h2 := HST.out
        rw [if_neg (by simp [plainI]; omega)] at h2
        omega
      have hF := (textR_ok s.data.toList a m (by rw [HL.out]; exact ha) hz ham (by rw [HL.out]; exact hms) (by rw [HBY.out]; exact h)).symm.trans HE.out
      have hq : ((d.toNat : Int) != 34) = false := by rw [h]; rfl
      clear hz
      by_cases h12 : 12 < m - (a + 1)
      · rw [if_pos h12] at hF
        have HF := hid hF
        have h13 : (12 : Int) < (m : Int) - (a : Int) - 1 := by omega
        clear hF h12
        go_wp2
        go_ret3
        exact ⟨by rw [← HF.out]; first | done | rfl, rfl⟩
      · rw [if_neg h12] at hF
        have HF := hid hF
        have h13 : (m : Int) - (a : Int) - 1 ≤ 12 := by omega
        have HX := hid (show bs ((s.data.toList.drop (a + 1)).take (m - (a + 1))) = s.extract (a + 1) m by rw [← Lib.extract_data, bs_data])
        clear hF h12
        go_wp2
        go_ret3
        exact ⟨by rw [← HF.out, HX.out]; first | done | rfl, rfl⟩
    · have hst : runN plainI (s.data.toList.drop m) = 1 + runN plainI (s.data.toList.drop (m + 1)) := by
        have h2 := HST.out
        rwa [if_pos (by simp [plainI]; omega)] at h2
      have HS2 := hid hst
      have hq : ((d.toNat : Int) != 34) = true := bne_iff_ne.2 h3
      clear hst
      go_wp2
      go_roundw
      case rel => exact ⟨m + 1, by omega, by omega, by go_num, hid (by (have := HR.out); have := HS2.out; omega), trivial⟩
      case measure => simp [intOf]; omega
    · have hz : runN plainI (s.data.toList.drop (a + 1)) = m - (a + 1) := by
        have h1 := HR.out
        have h2 := HST.out
        rw [if_neg (by simp [plainI]; omega)] at h2
        omega
      have HF := hid ((textR_err s.data.toList a m (by rw [HL.out]; exact ha) hz ham (.inr (by rw [HBY.out]; omega))).symm.trans HE.out)
      have hq : ((d.toNat : Int) != 34) = true := bne_iff_ne.2 (by omega)
      clear hz
      go_wp2
      go_ret3
      exact ⟨by rw [← HF.out]; first | done | rfl, rfl⟩
  · have hms2 : (s.size : Int) ≤ (m : Int) := by omega
    have hz : runN plainI (s.data.toList.drop (a + 1)) = m - (a + 1) := by
      have h1 := HR.out
      have h2 : runN plainI (s.data.toList.drop m) = 0 := by rw [List.drop_of_length_le (by rw [HL.out]; omega)]; rfl
      omega
    have HF := hid ((textR_err s.data.toList a m (by rw [HL.out]; exact ha) hz ham (.inl (by rw [HL.out]; omega))).symm.trans HE.out)
    clear hz hms
    go_wp2
    go_ret3
    exact ⟨by rw [← HF.out]; first | done | rfl, rfl⟩
def OneAt (l : List UInt8) (a : Nat) (e : Ending) : Prop := match firstM (l.drop a) with
 | .ok k o m n => e = .returned (.tuple #[tokV k (bs (((l.drop a).drop o).take m)) a, .int .i64 ((a + n : Nat) : Int), .int .i64 0])
 | .err er => ∃ (k p q : Int) (t : ByteArray), e = .returned (.tuple #[.agg #[.int .i64 k, .string t, .int .i64 p], .int .i64 q, .int .i64 er])
theorem one_ok {l : List UInt8} {a k o m n : Nat} (h : firstM (l.drop a) = .ok k o m n) (x : ByteArray) (hx : x = bs (((l.drop a).drop o).take m)) (q : Nat) (hq : q = a + n) :
  OneAt l a (.returned (.tuple #[tokV k x a, .int .i64 q, .int .i64 0])) := by
 unfold OneAt
 rw [h, hx, hq]
theorem one_err {l : List UInt8} {a er : Nat} (h : firstM (l.drop a) = .err er) (k p q : Int) (t : ByteArray) :
  OneAt l a (.returned (.tuple #[.agg #[.int .i64 k, .string t, .int .i64 p], .int .i64 q, .int .i64 er])) := by
 unfold OneAt
 rw [h]
 exact ⟨k, p, q, t, rfl⟩
theorem ext_run (s : ByteArray) (a m : Nat) : (s.extract a m).data.toList = (s.data.toList.drop a).take (m - a) := Lib.extract_data s a m
set_option maxRecDepth 100000 in
set_option maxHeartbeats 1600000 in
theorem rone_digit (s : ByteArray) (hs : s.size ≤ 281474976710656) (a : Nat) (ha : a < s.size) (w : World) (hd : digitI (byteAt s.data.toList a) = true) :
  Calls Tryd.prog 24 #[.string s, .int .i64 a] w fun e w' => OneAt s.data.toList a e ∧ Fr nob w w' := by
 have hl : s.data.toList.length = s.size := by simp
 have HL := hid hl
 clear hl
 have hf : firstM (s.data.toList.drop a) = numberM (s.data.toList.drop a) := by
  unfold firstM
  rw [byteAt_drop', Nat.add_zero, if_pos hd]
 have HF := hid hf
 have hai : (a : Int) < (s.size : Int) := by omega
 obtain ⟨c, hc⟩ : ∃ c, s[a]'ha = c := ⟨_, rfl⟩
 rw [byteAt_eq s a ha, hc] at hd
 have HD := hid (fun w' => rdigit_any (c.toNat : Int) w')
 rw [hd] at HD
 clear hf hd
 go_enter Tryd.func24, Tryd.ntmps24
 go_wp2_with (go_at_call 36; refine (HD.out _).mono ?_; rintro e w1 ⟨rfl, rfl⟩)
 go_loopw [8] (fun v w' => ∃ m : Nat, a ≤ m ∧ m ≤ s.size ∧ v = .int .i64 m ∧ Hid (runN digitI (s.data.toList.drop a) = (m - a) + runN digitI (s.data.toList.drop m)) ∧ w' = w.alloc (.cells #[.int .i64 0, .string ⟨#[]⟩, .int .i64 0] 73)) (fun v _ => s.size - (intOf v).toNat)
 case atStart => exact ⟨a, Nat.le_refl _, by omega, rfl, hid (by omega), rfl⟩
 case round =>
  obtain ⟨m, ham, hm, rfl, HR, rfl⟩ := hrel
  have ham2 : (a : Int) ≤ (m : Int) := by omega
  have hend : runN digitI (s.data.toList.drop m) = 0 → (runN digitI (s.data.toList.drop a) = m - a) := fun h => by have := HR.out; omega
  have HEND := hid hend
  clear hend
  have fin : runN digitI (s.data.toList.drop a) = m - a → allDigits (s.extract a m).data.toList ∧ numberM (s.data.toList.drop a) = if numOk (s.extract a m).data.toList then .ok 1 0 (m - a) (m - a) else .err 12 := fun h => by
    have h1 := run_digits (s.data.toList.drop a)
    unfold numberM
    rw [ext_run, ← h]
    exact ⟨h1, rfl⟩
  have FIN := hid fin
  clear fin
  by_cases hms : m < s.size
  · have hms2 : (m : Int) < (s.size : Int) := by omega
    have hm64 : (m : Int) ≤ (s.size : Int) := by omega
    obtain ⟨d, hdd⟩ : ∃ d, s[m]'hms = d := ⟨_, rfl⟩
    have hst := runN_step digitI s.data.toList m (by rw [HL.out]; exact hms)
    rw [byteAt_eq s m hms, hdd] at hst
    have HST := hid hst
    have HE := hid (fun w' => rdigit_any (d.toNat : Int) w')
    clear hst
    generalize hdb : digitI (d.toNat : Int) = db at *
    clear hdb
    cases db with
    | true =>
     have HS2 := hid HST.out
     go_wp2_with (go_at_call 36; refine (HE.out _).mono ?_; rintro e w1 ⟨rfl, rfl⟩)
     go_roundw
     case rel => exact ⟨m + 1, by omega, by omega, by go_num, hid (by (have h1 := HR.out); have h2 := HST.out; (first | rw [if_pos trivial] at h2 | rw [if_pos rfl] at h2); omega), trivial⟩
     case measure => simp [intOf]; omega
    | false =>
     have hz := HEND.out (by (have h2 := HST.out); rwa [if_neg (by simp)] at h2)
     obtain ⟨hall, hnm⟩ := FIN.out hz
     have HN := hid (fun w' => rnumber_any (s.extract a m) hall (by simp; omega) w')
     have hx : s.extract a m = bs (((s.data.toList.drop a).drop 0).take (m - a)) := by rw [List.drop_zero, ← ext_run, bs_data]
     have HX := hid hx
     have HNM := hid (HF.out.trans hnm)
     clear hz hall hnm hx
     generalize numOk (s.extract a m).data.toList = nb at *
     cases nb with
     | true =>
      go_wp2_with (first | (go_at_call 36; refine (HE.out _).mono ?_; rintro e w1 ⟨rfl, rfl⟩) | (go_at_call 37; refine (HN.out _).mono ?_; rintro e w1 ⟨rfl, rfl⟩))
      refine bodyPost_ret (v := .tuple #[tokV 1 (s.extract a m) a, .int .i64 m, .int .i64 0]) (by simp [results, Tryd.results24, go_sem, tokV]; try rfl) rfl ⟨one_ok (k := 1) (o := 0) (m := m - a) (n := m - a) (HNM.out.trans (by simp)) _ HX.out _ (by omega), (Fr.refl nob w).alloc _⟩
     | false =>
      go_wp2_with (first | (go_at_call 36; refine (HE.out _).mono ?_; rintro e w1 ⟨rfl, rfl⟩) | (go_at_call 37; refine (HN.out _).mono ?_; rintro e w1 ⟨rfl, rfl⟩))
      refine bodyPost_ret (v := .tuple #[.agg #[.int .i64 0, .string ⟨#[]⟩, .int .i64 0], .int .i64 a, .int .i64 12]) (by simp [results, Tryd.results24, go_sem, tokV]; try rfl) rfl ⟨one_err (er := 12) (HNM.out.trans (by simp)) _ _ _ _, (Fr.refl nob w).alloc _⟩
  · have hms2 : (s.size : Int) ≤ (m : Int) := by omega
    have hm64 : (m : Int) ≤ (s.size : Int) := by omega
    have hz := HEND.out (by rw [List.drop_of_length_le (by rw [HL.out]; omega)]; rfl)
    obtain ⟨hall, hnm⟩ := FIN.out hz
    have HN := hid (fun w' => rnumber_any (s.extract a m) hall (by simp; omega) w')
    have hx : s.extract a m = bs (((s.data.toList.drop a).drop 0).take (m - a)) := by rw [List.drop_zero, ← ext_run, bs_data]
    have HX := hid hx
    have HNM := hid (HF.out.trans hnm)
    clear hz hall hnm hx hms
    generalize numOk (s.extract a m).data.toList = nb at *
    cases nb with
    | true =>
     go_wp2_with (go_at_call 37; refine (HN.out _).mono ?_; rintro e w1 ⟨rfl, rfl⟩)
     refine bodyPost_ret (v := .tuple #[tokV 1 (s.extract a m) a, .int .i64 m, .int .i64 0]) (by simp [results, Tryd.results24, go_sem, tokV]; try rfl) rfl ⟨one_ok (k := 1) (o := 0) (m := m - a) (n := m - a) (HNM.out.trans (by simp)) _ HX.out _ (by omega), (Fr.refl nob w).alloc _⟩
    | false =>
     go_wp2_with (go_at_call 37; refine (HN.out _).mono ?_; rintro e w1 ⟨rfl, rfl⟩)
     refine bodyPost_ret (v := .tuple #[.agg #[.int .i64 0, .string ⟨#[]⟩, .int .i64 0], .int .i64 a, .int .i64 12]) (by simp [results, Tryd.results24, go_sem, tokV]; try rfl) rfl ⟨one_err (er := 12) (HNM.out.trans (by simp)) _ _ _ _, (Fr.refl nob w).alloc _⟩
set_option maxRecDepth 100000 in
set_option maxHeartbeats 1600000 in
theorem rone_letter (s : ByteArray) (hs : s.size ≤ 281474976710656) (a : Nat) (ha : a < s.size) (w : World) (hd : digitI (byteAt s.data.toList a) = false) (hlt : letterI (byteAt s.data.toList a) = true) :
  Calls Tryd.prog 24 #[.string s, .int .i64 a] w fun e w' => OneAt s.data.toList a e ∧ Fr nob w w' := by
 have hl : s.data.toList.length = s.size := by simp
 have HL := hid hl
 clear hl
 have hf : firstM (s.data.toList.drop a) = nameM (s.data.toList.drop a) := by
  unfold firstM
  rw [byteAt_drop', Nat.add_zero, if_neg (by rw [hd]; simp), if_pos hlt]
 have HF := hid hf
 have hai : (a : Int) < (s.size : Int) := by omega
 obtain ⟨c, hc⟩ : ∃ c, s[a]'ha = c := ⟨_, rfl⟩
 rw [byteAt_eq s a ha, hc] at hd hlt
 have HD := hid (fun w' => rdigit_any (c.toNat : Int) w')
 rw [hd] at HD
 have HT := hid (fun w' => rletter_any (c.toNat : Int) w')
 rw [hlt] at HT
 have T1 := hid trivial
 have T2 := hid trivial
 clear hf hd hlt
 go_enter Tryd.func24, Tryd.ntmps24
 go_wp2_with (first | (go_at_call 36; refine (HD.out _).mono ?_; rintro e w1 ⟨rfl, rfl⟩) | (go_at_call 38; refine (HT.out _).mono ?_; rintro e w1 ⟨rfl, rfl⟩))
 go_loopw [8] (fun v w' => ∃ m : Nat, a ≤ m ∧ m ≤ s.size ∧ v = .int .i64 m ∧ Hid (runN withinI (s.data.toList.drop a) = (m - a) + runN withinI (s.data.toList.drop m)) ∧ w' = w.alloc (.cells #[.int .i64 0, .string ⟨#[]⟩, .int .i64 0] 73)) (fun v _ => s.size - (intOf v).toNat)
 case atStart => exact ⟨a, Nat.le_refl _, by omega, rfl, hid (by omega), rfl⟩
 case round =>
  obtain ⟨m, ham, hm, rfl, HR, rfl⟩ := hrel
  have ham2 : (a : Int) ≤ (m : Int) := by omega
  have HEND := hid (show runN withinI (s.data.toList.drop m) = 0 → (runN withinI (s.data.toList.drop a) = m - a) from fun h => by have := HR.out; omega)
  have FIN := hid (show runN withinI (s.data.toList.drop a) = m - a → nameM (s.data.toList.drop a) = (if wordB (s.extract a m).data.toList then .ok 4 0 (m - a) (m - a) else if 8 < m - a then .err 13 else .ok 3 0 (m - a) (m - a)) from fun h => by
    unfold nameM
    rw [ext_run, ← h])
  have HX := hid (show s.extract a m = bs (((s.data.toList.drop a).drop 0).take (m - a)) by rw [List.drop_zero, ← ext_run, bs_data])
  have hm64 : (m : Int) ≤ (s.size : Int) := by omega
  have HW := hid (fun w' => rword_any (s.extract a m) w')
  have HSZ := hid (show (s.extract a m).size = m - a by simp; omega)
  obtain ⟨x, hx⟩ : ∃ x, s.extract a m = x := ⟨_, rfl⟩
  rw [hx] at FIN HX HW HSZ
  by_cases hms : m < s.size
  · have hms2 : (m : Int) < (s.size : Int) := by omega
    obtain ⟨d, hdd⟩ : ∃ d, s[m]'hms = d := ⟨_, rfl⟩
    have hst := runN_step withinI s.data.toList m (by rw [HL.out]; exact hms)
    rw [byteAt_eq s m hms, hdd] at hst
    have HST := hid hst
    have HE := hid (fun w' => rdigit_any (d.toNat : Int) w')
    have HL2 := hid (fun w' => rletter_any (d.toNat : Int) w')
    have hwi : withinI (d.toNat : Int) = (letterI (d.toNat : Int) || digitI (d.toNat : Int) || ((d.toNat : Int) == 95)) := rfl
    have HWI := hid hwi
    clear hst hwi
    generalize digitI (d.toNat : Int) = db at *
    generalize letterI (d.toNat : Int) = lb at *
    cases lb with
    | true =>
      have hwt : withinI (d.toNat : Int) = true := by rw [HWI.out]; rfl
      have HS2 := hid (show runN withinI (s.data.toList.drop m) = 1 + runN withinI (s.data.toList.drop (m + 1)) from HST.out.trans (if_pos hwt))
      clear hwt HST HWI
      go_wp2_with (first | (go_at_call 36; refine (HE.out _).mono ?_; rintro e w1 ⟨rfl, rfl⟩) | (go_at_call 38; refine (HL2.out _).mono ?_; rintro e w1 ⟨rfl, rfl⟩))
      go_roundw
      case rel => exact ⟨m + 1, by omega, by omega, by go_num, hid (by (have h1 := HR.out); have h2 := HS2.out; omega), trivial⟩
      case measure => simp [intOf]; omega
    | false =>
      cases db with
      | true =>
       have hwt : withinI (d.toNat : Int) = true := by rw [HWI.out]; rfl
       have HS2 := hid (show runN withinI (s.data.toList.drop m) = 1 + runN withinI (s.data.toList.drop (m + 1)) from HST.out.trans (if_pos hwt))
       clear hwt HST HWI
       go_wp2_with (first | (go_at_call 36; refine (HE.out _).mono ?_; rintro e w1 ⟨rfl, rfl⟩) | (go_at_call 38; refine (HL2.out _).mono ?_; rintro e w1 ⟨rfl, rfl⟩))
       go_roundw
       case rel => exact ⟨m + 1, by omega, by omega, by go_num, hid (by (have h1 := HR.out); have h2 := HS2.out; omega), trivial⟩
       case measure => simp [intOf]; omega
      | false =>
       by_cases h95 : (d.toNat : Int) = 95
       · have hu : ((d.toNat : Int) == 95) = true := beq_iff_eq.2 h95
         have hwt : withinI (d.toNat : Int) = true := by rw [HWI.out, hu]; rfl
         rw [h95] at HE HL2
         have HS2 := hid (show runN withinI (s.data.toList.drop m) = 1 + runN withinI (s.data.toList.drop (m + 1)) from HST.out.trans (if_pos hwt))
         clear hwt HST HWI
         go_wp2_with (first | (go_at_call 36; refine (HE.out _).mono ?_; rintro e w1 ⟨rfl, rfl⟩) | (go_at_call 38; refine (HL2.out _).mono ?_; rintro e w1 ⟨rfl, rfl⟩))
         go_roundw
         case rel => exact ⟨m + 1, by omega, by omega, by go_num, hid (by (have h1 := HR.out); have h2 := HS2.out; omega), trivial⟩
         case measure => simp [intOf]; omega
       · have hu : ((d.toNat : Int) == 95) = false := beq_eq_false_iff_ne.2 h95
         have hz := HEND.out (HST.out.trans (if_neg (by rw [HWI.out, hu]; simp)))
         have HNM := hid (HF.out.trans (FIN.out hz))
         clear hz HR HST HWI
         generalize wordB x.data.toList = wb at *
         by_cases h8 : 8 < m - a
         · have h9 : (8 : Int) < (x.size : Int) := by rw [HSZ.out]; omega
           cases wb with
           | true =>
            go_wp2_with (first | (go_at_call 36; refine (HE.out _).mono ?_; rintro e w1 ⟨rfl, rfl⟩) | (go_at_call 38; refine (HL2.out _).mono ?_; rintro e w1 ⟨rfl, rfl⟩) | (go_at_call 39; go_must (refine (HW.out _).mono ?_; rintro e w2 ⟨rfl, hf⟩; have F2 := hid hf; (have B := (Blk.new w 73 #[.int .i64 0, .string ⟨#[]⟩, .int .i64 0]).fr F2.out (fun x => x)); have c0 := B.cell 0; have c1 := B.cell 1; have c2 := B.cell 2; have f0 := B.frozen 0; have f1 := B.frozen 1; have f2 := B.frozen 2; clear B; clear hf)))
            refine bodyPost_ret (v := .tuple #[tokV 4 x a, .int .i64 m, .int .i64 0]) (by simp [results, Tryd.results24, go_sem, tokV, c0, c1, c2]; try rfl) rfl ⟨one_ok (k := 4) (o := 0) (m := m - a) (n := m - a) (HNM.out.trans (by simp)) _ HX.out _ (by omega), Fr.box3 F2.out _ _ _⟩
           | false =>
            go_wp2_with (first | (go_at_call 36; refine (HE.out _).mono ?_; rintro e w1 ⟨rfl, rfl⟩) | (go_at_call 38; refine (HL2.out _).mono ?_; rintro e w1 ⟨rfl, rfl⟩) | (go_at_call 39; go_must (refine (HW.out _).mono ?_; rintro e w2 ⟨rfl, hf⟩; have F2 := hid hf; (have B := (Blk.new w 73 #[.int .i64 0, .string ⟨#[]⟩, .int .i64 0]).fr F2.out (fun x => x)); have c0 := B.cell 0; have c1 := B.cell 1; have c2 := B.cell 2; have f0 := B.frozen 0; have f1 := B.frozen 1; have f2 := B.frozen 2; clear B; clear hf)))
            refine bodyPost_ret (v := .tuple #[.agg #[.int .i64 0, .string ⟨#[]⟩, .int .i64 0], .int .i64 a, .int .i64 13]) (by simp [results, Tryd.results24, go_sem, tokV, c0, c1, c2]; try rfl) rfl ⟨one_err (er := 13) (HNM.out.trans (by simp [h8])) _ _ _ _, Fr.box3 F2.out _ _ _⟩
         · have h9 : (x.size : Int) ≤ 8 := by rw [HSZ.out]; omega
           cases wb with
           | true =>
            go_wp2_with (first | (go_at_call 36; refine (HE.out _).mono ?_; rintro e w1 ⟨rfl, rfl⟩) | (go_at_call 38; refine (HL2.out _).mono ?_; rintro e w1 ⟨rfl, rfl⟩) | (go_at_call 39; go_must (refine (HW.out _).mono ?_; rintro e w2 ⟨rfl, hf⟩; have F2 := hid hf; (have B := (Blk.new w 73 #[.int .i64 0, .string ⟨#[]⟩, .int .i64 0]).fr F2.out (fun x => x)); have c0 := B.cell 0; have c1 := B.cell 1; have c2 := B.cell 2; have f0 := B.frozen 0; have f1 := B.frozen 1; have f2 := B.frozen 2; clear B; clear hf)))
            refine bodyPost_ret (v := .tuple #[tokV 4 x a, .int .i64 m, .int .i64 0]) (by simp [results, Tryd.results24, go_sem, tokV, c0, c1, c2]; try rfl) rfl ⟨one_ok (k := 4) (o := 0) (m := m - a) (n := m - a) (HNM.out.trans (by simp)) _ HX.out _ (by omega), Fr.box3 F2.out _ _ _⟩
           | false =>
            go_wp2_with (first | (go_at_call 36; refine (HE.out _).mono ?_; rintro e w1 ⟨rfl, rfl⟩) | (go_at_call 38; refine (HL2.out _).mono ?_; rintro e w1 ⟨rfl, rfl⟩) | (go_at_call 39; go_must (refine (HW.out _).mono ?_; rintro e w2 ⟨rfl, hf⟩; have F2 := hid hf; (have B := (Blk.new w 73 #[.int .i64 0, .string ⟨#[]⟩, .int .i64 0]).fr F2.out (fun x => x)); have c0 := B.cell 0; have c1 := B.cell 1; have c2 := B.cell 2; have f0 := B.frozen 0; have f1 := B.frozen 1; have f2 := B.frozen 2; clear B; clear hf)))
            refine bodyPost_ret (v := .tuple #[tokV 3 x a, .int .i64 m, .int .i64 0]) (by simp [results, Tryd.results24, go_sem, tokV, c0, c1, c2]; try rfl) rfl ⟨one_ok (k := 3) (o := 0) (m := m - a) (n := m - a) (HNM.out.trans (by simp [h8])) _ HX.out _ (by omega), Fr.box3 F2.out _ _ _⟩
  · have hms2 : (s.size : Int) ≤ (m : Int) := by omega
    have hz := HEND.out (by rw [List.drop_of_length_le (by rw [HL.out]; omega)]; rfl)
    have HNM := hid (HF.out.trans (FIN.out hz))
    clear hz HR hms
    generalize wordB x.data.toList = wb at *
    by_cases h8 : 8 < m - a
    · have h9 : (8 : Int) < (x.size : Int) := by rw [HSZ.out]; omega
      cases wb with
      | true =>
       go_wp2_with (go_at_call 39; go_must (refine (HW.out _).mono ?_; rintro e w2 ⟨rfl, hf⟩; have F2 := hid hf; (have B := (Blk.new w 73 #[.int .i64 0, .string ⟨#[]⟩, .int .i64 0]).fr F2.out (fun x => x)); have c0 := B.cell 0; have c1 := B.cell 1; have c2 := B.cell 2; have f0 := B.frozen 0; have f1 := B.frozen 1; have f2 := B.frozen 2; clear B; clear hf))
       refine bodyPost_ret (v := .tuple #[tokV 4 x a, .int .i64 m, .int .i64 0]) (by simp [results, Tryd.results24, go_sem, tokV, c0, c1, c2]; try rfl) rfl ⟨one_ok (k := 4) (o := 0) (m := m - a) (n := m - a) (HNM.out.trans (by simp)) _ HX.out _ (by omega), Fr.box3 F2.out _ _ _⟩
      | false =>
       go_wp2_with (go_at_call 39; go_must (refine (HW.out _).mono ?_; rintro e w2 ⟨rfl, hf⟩; have F2 := hid hf; (have B := (Blk.new w 73 #[.int .i64 0, .string ⟨#[]⟩, .int .i64 0]).fr F2.out (fun x => x)); have c0 := B.cell 0; have c1 := B.cell 1; have c2 := B.cell 2; have f0 := B.frozen 0; have f1 := B.frozen 1; have f2 := B.frozen 2; clear B; clear hf))
       refine bodyPost_ret (v := .tuple #[.agg #[.int .i64 0, .string ⟨#[]⟩, .int .i64 0], .int .i64 a, .int .i64 13]) (by simp [results, Tryd.results24, go_sem, tokV, c0, c1, c2]; try rfl) rfl ⟨one_err (er := 13) (HNM.out.trans (by simp [h8])) _ _ _ _, Fr.box3 F2.out _ _ _⟩
    · have h9 : (x.size : Int) ≤ 8 := by rw [HSZ.out]; omega
      cases wb with
      | true =>
       go_wp2_with (go_at_call 39; go_must (refine (HW.out _).mono ?_; rintro e w2 ⟨rfl, hf⟩; have F2 := hid hf; (have B := (Blk.new w 73 #[.int .i64 0, .string ⟨#[]⟩, .int .i64 0]).fr F2.out (fun x => x)); have c0 := B.cell 0; have c1 := B.cell 1; have c2 := B.cell 2; have f0 := B.frozen 0; have f1 := B.frozen 1; have f2 := B.frozen 2; clear B; clear hf))
       refine bodyPost_ret (v := .tuple #[tokV 4 x a, .int .i64 m, .int .i64 0]) (by simp [results, Tryd.results24, go_sem, tokV, c0, c1, c2]; try rfl) rfl ⟨one_ok (k := 4) (o := 0) (m := m - a) (n := m - a) (HNM.out.trans (by simp)) _ HX.out _ (by omega), Fr.box3 F2.out _ _ _⟩
      | false =>
       go_wp2_with (go_at_call 39; go_must (refine (HW.out _).mono ?_; rintro e w2 ⟨rfl, hf⟩; have F2 := hid hf; (have B := (Blk.new w 73 #[.int .i64 0, .string ⟨#[]⟩, .int .i64 0]).fr F2.out (fun x => x)); have c0 := B.cell 0; have c1 := B.cell 1; have c2 := B.cell 2; have f0 := B.frozen 0; have f1 := B.frozen 1; have f2 := B.frozen 2; clear B; clear hf))
       refine bodyPost_ret (v := .tuple #[tokV 3 x a, .int .i64 m, .int .i64 0]) (by simp [results, Tryd.results24, go_sem, tokV, c0, c1, c2]; try rfl) rfl ⟨one_ok (k := 3) (o := 0) (m := m - a) (n := m - a) (HNM.out.trans (by simp [h8])) _ HX.out _ (by omega), Fr.box3 F2.out _ _ _⟩
theorem textM_shape {l : List UInt8} {k o m n : Nat} (h : textM l = .ok k o m n) : k = 2 ∧ o = 1 ∧ n = m + 2 := by
 unfold textM at h
 split at h
 · cases h
 · split at h
   · cases h
   · injection h with h1 h2 h3 h4; omega
theorem signM_shape {l : List UInt8} {k o m n : Nat} (h : signM l = .ok k o m n) : k = 5 ∧ o = 0 ∧ n = m ∧ 1 ≤ m := by
 unfold signM at h
 split at h
 · injection h with h1 h2 h3 h4; omega
 · split at h
   · injection h with h1 h2 h3 h4; omega
   · cases h
theorem signM_err {l : List UInt8} {e : Nat} (h : signM l = .err e) : e = 10 := by
 unfold signM at h
 split at h
 · cases h
 · split at h
   · cases h
   · injection h with h; exact h.symm
set_option maxRecDepth 100000 in
set_option maxHeartbeats 1600000 in
theorem rone_quote (s : ByteArray) (hs : s.size ≤ 281474976710656) (a : Nat) (ha : a < s.size) (w : World) (hq : byteAt s.data.toList a = 34) :
  Calls Tryd.prog 24 #[.string s, .int .i64 a] w fun e w' => OneAt s.data.toList a e ∧ Fr nob w w' := by
 have hf : firstM (s.data.toList.drop a) = textM (s.data.toList.drop a) := by
  unfold firstM
  rw [byteAt_drop', Nat.add_zero, hq, if_neg (by decide), if_neg (by decide), if_pos (by decide)]
 have HF := hid hf
 have hai : (a : Int) < (s.size : Int) := by omega
 obtain ⟨c, hc⟩ : ∃ c, s[a]'ha = c := ⟨_, rfl⟩
 rw [byteAt_eq s a ha, hc] at hq
 have HD := hid (fun w' => rdigit_any 34 w')
 rw [show digitI 34 = false from rfl] at HD
 have HT := hid (fun w' => rletter_any 34 w')
 rw [show letterI 34 = false from rfl] at HT
 have hX := fun w' => rtext_any s hs a ha w'
 clear hf
 cases hx : textM (s.data.toList.drop a) with
 | ok k o m n =>
  obtain ⟨rfl, rfl, rfl⟩ := textM_shape hx
  have e1 : textR s.data.toList a = .returned (.tuple #[.string (bs ((s.data.toList.drop (a + 1)).take m)), .int .i64 ((a + (m + 2) : Nat) : Int), .int .i64 0]) := by
   unfold textR; rw [hx]
  rw [e1] at hX
  obtain ⟨x, hx1⟩ : ∃ x, bs ((s.data.toList.drop (a + 1)).take m) = x := ⟨_, rfl⟩
  obtain ⟨q, hq1⟩ : ∃ q : Nat, a + (m + 2) = q := ⟨_, rfl⟩
  rw [hx1, hq1] at hX
  have HX := hid hX
  have X1 := hid (show x = bs (((s.data.toList.drop a).drop 1).take m) by rw [List.drop_drop]; exact hx1.symm)
  have Q1 := hid hq1.symm
  have HFX := hid (HF.out.trans hx)
  clear hX e1 hx1 hq1 hx
  go_enter Tryd.func24, Tryd.ntmps24
  go_wp2_with (first | (go_at_call 36; refine (HD.out _).mono ?_; rintro e w1 ⟨rfl, rfl⟩) | (go_at_call 38; refine (HT.out _).mono ?_; rintro e w1 ⟨rfl, rfl⟩) | (go_at_call 40; refine (HX.out _).mono ?_; rintro e w1 ⟨rfl, rfl⟩))
  refine bodyPost_ret (v := .tuple #[tokV 2 x a, .int .i64 q, .int .i64 0]) (by simp [results, Tryd.results24, go_sem, tokV]; try rfl) rfl ⟨one_ok HFX.out _ X1.out _ Q1.out, (Fr.refl nob w).alloc _⟩
 | err e =>
  have e1 : textR s.data.toList a = .returned (.tuple #[.string ⟨#[]⟩, .int .i64 a, .int .i64 e]) := by
   unfold textR; rw [hx]
  rw [e1] at hX
  have HX := hid hX
  have HFX := hid (HF.out.trans hx)
  clear hX e1 hx
  go_enter Tryd.func24, Tryd.ntmps24
  go_wp2_with (first | (go_at_call 36; refine (HD.out _).mono ?_; rintro e w1 ⟨rfl, rfl⟩) | (go_at_call 38; refine (HT.out _).mono ?_; rintro e w1 ⟨rfl, rfl⟩) | (go_at_call 40; refine (HX.out _).mono ?_; rintro e w1 ⟨rfl, rfl⟩))
  refine bodyPost_ret (v := .tuple #[.agg #[.int .i64 2, .string ⟨#[]⟩, .int .i64 a], .int .i64 a, .int .i64 e]) (by simp [results, Tryd.results24, go_sem, tokV]; try rfl) rfl ⟨one_err HFX.out _ _ _ _, (Fr.refl nob w).alloc _⟩
set_option maxRecDepth 100000 in
set_option maxHeartbeats 1600000 in
theorem rone_sign (s : ByteArray) (hs : s.size ≤ 281474976710656) (a : Nat) (ha : a < s.size) (w : World) (hd : digitI (byteAt s.data.toList a) = false) (hlt : letterI (byteAt s.data.toList a) = false) (hq : byteAt s.data.toList a ≠ 34) :
  Calls Tryd.prog 24 #[.string s, .int .i64 a] w fun e w' => OneAt s.data.toList a e ∧ Fr nob w w' := by
 have hl : s.data.toList.length = s.size := by simp
 have hf : firstM (s.data.toList.drop a) = signM (s.data.toList.drop a) := by
  unfold firstM
  rw [byteAt_drop', Nat.add_zero, if_neg (by rw [hd]; simp), if_neg (by rw [hlt]; simp), if_neg (by simpa using hq)]
 have HF := hid hf
 have hai : (a : Int) < (s.size : Int) := by omega
 obtain ⟨c, hc⟩ : ∃ c, s[a]'ha = c := ⟨_, rfl⟩
 rw [byteAt_eq s a ha, hc] at hd hlt hq
 have HD := hid (fun w' => rdigit_any (c.toNat : Int) w')
 rw [hd] at HD
 have HT := hid (fun w' => rletter_any (c.toNat : Int) w')
 rw [hlt] at HT
 have hqb : ((c.toNat : Int) == 34) = false := beq_eq_false_iff_ne.2 hq
 have hR : (s.extract a s.size).data.toList = s.data.toList.drop a := Lib.extract_to_end s a
 have hX := fun w' => rsign_any (s.extract a s.size) (by simp; omega) w'
 rw [hR] at hX
 clear hd hlt hq hR
 cases hx : signM (s.data.toList.drop a) with
 | ok k o m n =>
  obtain ⟨rfl, rfl, rfl, h1⟩ := signM_shape hx
  have hfx := hf.trans hx
  obtain ⟨_, hn2, hom⟩ := firstM_ok (by rw [List.length_drop, hl]; omega) hfx
  rw [List.length_drop, hl] at hn2
  have e1 : signL (s.data.toList.drop a) = (s.data.toList.drop a).take n := by
   unfold signL; rw [hx]
  rw [e1] at hX
  obtain ⟨x, hx1⟩ : ∃ x, bs ((s.data.toList.drop a).take n) = x := ⟨_, rfl⟩
  have hxs : x.size = n := by rw [← hx1, bs_len, List.length_take, List.length_drop, hl]; omega
  have hxe : x.toList.isEmpty = false := by
   rw [ByteArray.toList_eq]
   cases hd : x.data.toList with
   | nil =>
    have : x.data.toList.length = x.size := by simp
    rw [hd] at this
    simp at this; omega
   | cons _ _ => rfl
  rw [hx1] at hX
  have HX := hid hX
  have X1 := hid (show x = bs (((s.data.toList.drop a).drop 0).take n) by rw [List.drop_zero]; exact hx1.symm)
  have HFX := hid hfx
  have XS := hid hxs
  have hxi : (x.size : Int) ≤ (s.size : Int) - (a : Int) := by omega
  clear hX e1 hx1 hx hf hfx hxs hom
  go_enter Tryd.func24, Tryd.ntmps24
  go_wp2_with (first | (go_at_call 36; refine (HD.out _).mono ?_; rintro e w1 ⟨rfl, rfl⟩) | (go_at_call 38; refine (HT.out _).mono ?_; rintro e w1 ⟨rfl, rfl⟩) | (go_at_call 41; go_must (refine (HX.out _).mono ?_; rintro e w2 ⟨rfl, hf⟩; have F2 := hid hf; (have B := (Blk.new w 73 #[.int .i64 0, .string ⟨#[]⟩, .int .i64 0]).fr F2.out (fun x => x)); have c0 := B.cell 0; have c1 := B.cell 1; have c2 := B.cell 2; have f0 := B.frozen 0; have f1 := B.frozen 1; have f2 := B.frozen 2; clear B; clear hf)))
  refine bodyPost_ret (v := .tuple #[tokV 5 x a, .int .i64 ((a : Int) + (x.size : Int)), .int .i64 0]) (by simp [results, Tryd.results24, go_sem, tokV, c0, c1, c2]; try rfl) rfl ⟨(by have := one_ok HFX.out x X1.out (a + x.size) (by rw [XS.out]); rwa [Int.natCast_add] at this), Fr.box3 F2.out _ _ _⟩
 | err e =>
  obtain rfl := signM_err hx
  have e1 : signL (s.data.toList.drop a) = [] := by
   unfold signL; rw [hx]
  rw [e1] at hX
  have HX := hid hX
  have HFX := hid (hf.trans hx)
  have hxe : (bs []).toList.isEmpty = true := by rw [ByteArray.toList_eq]; rfl
  clear hX e1 hx hf
  go_enter Tryd.func24, Tryd.ntmps24
  go_wp2_with (first | (go_at_call 36; refine (HD.out _).mono ?_; rintro e w1 ⟨rfl, rfl⟩) | (go_at_call 38; refine (HT.out _).mono ?_; rintro e w1 ⟨rfl, rfl⟩) | (go_at_call 41; go_must (refine (HX.out _).mono ?_; rintro e w2 ⟨rfl, hf⟩; have F2 := hid hf; (have B := (Blk.new w 73 #[.int .i64 0, .string ⟨#[]⟩, .int .i64 0]).fr F2.out (fun x => x)); have c0 := B.cell 0; have c1 := B.cell 1; have c2 := B.cell 2; have f0 := B.frozen 0; have f1 := B.frozen 1; have f2 := B.frozen 2; clear B; clear hf)))
  refine bodyPost_ret (v := .tuple #[.agg #[.int .i64 0, .string ⟨#[]⟩, .int .i64 0], .int .i64 a, .int .i64 10]) (by simp [results, Tryd.results24, go_sem, tokV, c0, c1, c2]; try rfl) rfl ⟨one_err HFX.out _ _ _ _, Fr.box3 F2.out _ _ _⟩
theorem rone_any (s : ByteArray) (hs : s.size ≤ 281474976710656) (a : Nat) (ha : a < s.size) (w : World) :
  Calls Tryd.prog 24 #[.string s, .int .i64 a] w fun e w' => OneAt s.data.toList a e ∧ Fr nob w w' := by
 cases hd : digitI (byteAt s.data.toList a) with
 | true => exact rone_digit s hs a ha w hd
 | false =>
  cases hl : letterI (byteAt s.data.toList a) with
  | true => exact rone_letter s hs a ha w hd hl
  | false =>
   by_cases hq : byteAt s.data.toList a = 34
   · exact rone_quote s hs a ha w hq
   · exact rone_sign s hs a ha w hd hl hq
theorem skip_zero {l : List UInt8} (h0 : 0 < l.length) (h : skipN l = 0) : blankI (byteAt l 0) = false ∧ remarkB l = false := by
 cases hb : blankI (byteAt l 0) with
 | true => rw [skip_blank h0 hb] at h; omega
 | false =>
  cases hr : remarkB l with
  | true =>
   have := remark_pos hr
   rw [skip_remark h0 hb hr] at h; omega
  | false => exact ⟨rfl, rfl⟩
set_option maxHeartbeats 4000000 in
set_option maxRecDepth 100000 in
theorem rall_any (s : ByteArray) (w : World) (hs : s.size ≤ 281474976710656) :
   Calls Tryd.prog 15 #[.string s] w fun e w' => LexAt w.heap.size w' e (lexM s.data.toList) ∧ Fr nob w w' := by
 have hl : s.data.toList.length = s.size := by simp
 unfold lexM
 rw [hl]
 have HL := hid hl
 clear hl
 by_cases hbig : 600 < s.size
 · rw [if_pos hbig]
   have h2 : (600 : Int) < (s.size : Int) := by omega
   clear hbig
   go_enter Tryd.func15, Tryd.ntmps15
   go_wp2
   go_ret3
   exact ⟨rfl, Fr.refl _ _⟩
 · rw [if_neg hbig]
   have h2 : (s.size : Int) ≤ 600 := by omega
   have h600 : s.size ≤ 600 := by omega
   clear hbig
   obtain ⟨a1, a2, a3⟩ := lex_skip _ s.data.toList 0 (Nat.le_refl _)
   rw [Nat.zero_add] at a3
   rw [HL.out] at a1
   have hS := fun w' => rskip_any s hs 0 (Nat.zero_le _) w'
   rw [List.drop_zero, Nat.zero_add] at hS
   generalize skipN s.data.toList = k0 at *
   have HS := hid hS
   have A2 := hid a2
   have A3 := hid a3
   clear hS a2 a3
   go_enter Tryd.func15, Tryd.ntmps15
   go_wp2_with (go_at_call 23; refine (HS.out _).mono ?_; rintro e w1 ⟨rfl, rfl⟩)
   go_loopw [5, 6] (fun l i w' => ∃ (k : Nat) (K : List Tok), k ≤ s.size ∧ K.length ≤ k ∧ i = .int .i64 k ∧ Hid (Toks w.heap.size w' l K) ∧ Hid (Fr nob w w') ∧ Hid (lexFrom s.data.toList 0 = (lexFrom (s.data.toList.drop k) k).pre K) ∧ Hid (skipN (s.data.toList.drop k) = 0)) (fun _ i _ => s.size - (intOf i).toNat)
   case atStart =>
    exact ⟨k0, [], a1, Nat.zero_le _, rfl, hid ⟨Own.empty _ _ _ _, fun g hg => by simp [blk] at hg⟩, hid (by first | exact Fr.refl _ _ | exact (Fr.refl _ _).alloc _), hid (by rw [pre_nil]; exact A3.out), A2⟩
   case round =>
    obtain ⟨k, K, hks, hKk, rfl, T, F, LX, Z⟩ := hrel
    obtain ⟨A, c, rfl, hc, hcm⟩ := T.out.own.cap
    by_cases hlt : k < s.size
    · have hlt2 : (k : Int) < (s.size : Int) := by omega
      have h0 : 0 < (s.data.toList.drop k).length := by rw [List.length_drop, HL.out]; omega
      obtain ⟨hblf, hrf⟩ := skip_zero h0 Z.out
      have hO := fun w' => rone_any s hs k hlt w'
      unfold OneAt at hO
      cases hone : firstM (s.data.toList.drop k) with
      | err er =>
        have N1 := hid (lex_err (p := k) h0 hblf hrf hone)
        have her := firstM_err hone
        rw [hone] at hO
        have HO := hid hO
        have he2 : ((er : Int) != 0) = true := by simp; omega
        clear hO hone hblf hrf h0 her
        go_wp2_with (go_at_call 24; go_must (refine (HO.out _).mono ?_; rintro e w2 ⟨⟨k5, p5, q5, t5, rfl⟩, hf2⟩; have F2 := hid hf2; clear hf2))
        go_ret3
        rw [LX.out, N1.out]
        exact ⟨rfl, (F.out.tr F2.out).alloc _⟩
      | ok kd o m n =>
        have N1 := hid (lex_ok (p := k) h0 hblf hrf hone)
        obtain ⟨hn1, hn2, hom⟩ := firstM_ok h0 hone
        rw [List.length_drop, HL.out] at hn2
        rw [hone] at hO
        simp only [tokV] at hO
        generalize ((s.data.toList.drop k).drop o).take m = tx at *
        obtain ⟨q, hq⟩ : ∃ q : Nat, k + n = q := ⟨_, rfl⟩
        have hdd : (s.data.toList.drop k).drop n = s.data.toList.drop q := by rw [List.drop_drop, hq]
        rw [hdd, hq] at N1
        rw [hq] at hO
        have HO := hid hO
        have hqs : q ≤ s.size := by omega
        obtain ⟨b1, b2, b3⟩ := lex_skip _ (s.data.toList.drop q) q (Nat.le_refl _)
        rw [List.drop_drop] at b2 b3
        rw [List.length_drop, HL.out] at b1
        have hS2 := fun w' => rskip_any s hs q hqs w'
        obtain ⟨k2, hk2⟩ : ∃ k2 : Nat, q + skipN (s.data.toList.drop q) = k2 := ⟨_, rfl⟩
        rw [hk2] at b2 b3 hS2
        have HS2 := hid hS2
        have B2 := hid b2
        have B3 := hid b3
        have hk2s : k2 ≤ s.size := by omega
        have hk2k : k + 1 ≤ k2 := by omega
        clear hO hone hblf hrf h0 hS2 b2 b3 hdd hom hq hk2 b1 hn2
        go_wp2_with (first | (go_at_call 24; go_must (refine (HO.out _).mono ?_; rintro e w2 ⟨rfl, hf2⟩; have F2 := hid hf2; have S2 := hid hf2.size; clear hf2)) | (go_at_call 23; refine (HS2.out _).mono ?_; rintro e w5 ⟨rfl, rfl⟩) | (at_builtin; refine wpList_append (v := .slice A K.length c) (m := 1) (news := [.int .i64 kd, .string (bs tx), .int .i64 k]) rfl _ _ rfl TyTok rfl rfl (((T.out.no F2.out).own.alloc _).alloc _) (Rd.ofBlk (n := 1) (cs := [.int .i64 kd, .string (bs tx), .int .i64 k]) (Blk.new2 _ _ _ _) rfl (by decide)) (by simp [Value.oneCell']) (by omega) (by unfold maxLen; omega) ?_; intro A3 c3 w3 ho3 hf3 hv3; have O3 := hid ho3; have F3 := hid hf3; have V3 := hid hv3; clear ho3 hf3 hv3))
        go_roundw
        case rel =>
          refine ⟨k2, K ++ [⟨kd, tx, k⟩], hk2s, by simp; omega, rfl, hid ⟨?_, fun g hg => ?_⟩, hid ?_, hid (by rw [LX.out, N1.out, pre_pre, B3.out]), B2⟩
          · have e1 : tokCells (K ++ [⟨kd, tx, k⟩]) = tokCells K ++ [.int .i64 kd, .string (bs tx), .int .i64 k] := by simp [tokCells]
            rw [e1, List.length_append]; exact O3.out
          · have hg' : blk (.slice A3 (K.length + 1) c3) = some g := hg
            rcases V3.out with h | h
            · exact T.out.new g (h ▸ hg')
            · rw [hg'] at h; injection h with h
              simp at h
              have := F.out.size; have := S2.out; omega
          · exact (((F.out.tr F2.out).alloc _).alloc _).trans F3.out (fun _ _ x => x) (fun b hb h => by have := T.out.new b h; omega)
        case measure => simp [intOf]; omega
    · have hk : k = s.size := by omega
      have E1 := hid (show lexFrom (s.data.toList.drop k) k = .good [⟨0, [], k⟩] by rw [List.drop_of_length_le (by rw [HL.out]; omega), lex_nil])
      have hge : (s.size : Int) ≤ (k : Int) := by omega
      clear hlt
      subst hk
      go_wp2_with (at_builtin; refine wpList_append (v := .slice A K.length c) (m := 1) (news := [.int .i64 0, .string ⟨#[]⟩, .int .i64 s.size]) rfl _ _ rfl TyTok rfl rfl (T.out.own.alloc _) (Rd.ofBlk (n := 1) (cs := [.int .i64 0, .string ⟨#[]⟩, .int .i64 s.size]) (Blk.new _ _ _) rfl (by decide)) (by simp [Value.oneCell']) (by omega) (by unfold maxLen; omega) ?_; intro A3 c3 w3 ho3 hf3 hv3; have O3 := hid ho3; have F3 := hid hf3; have V3 := hid hv3; clear ho3 hf3 hv3)
      go_ret3
      rw [LX.out, E1.out]
      refine ⟨⟨_, rfl, ?_, fun g hg => ?_⟩, ?_⟩
      · have e1 : tokCells (K ++ [⟨0, [], s.size⟩]) = tokCells K ++ [.int .i64 0, .string ⟨#[]⟩, .int .i64 s.size] := by simp [tokCells, bs]
        rw [e1, List.length_append]; exact O3.out
      · have hg' : blk (.slice A3 (K.length + 1) c3) = some g := hg
        rcases V3.out with h | h
        · exact T.out.new g (h ▸ hg')
        · rw [hg'] at h; injection h with h
          simp at h
          have := F.out.size; omega
      · exact (F.out.alloc _).trans F3.out (fun _ _ x => x) (fun b hb h => by have := T.out.new b h; omega)
end Go.Proofs.YtlbjicjinnnboaaDoor
