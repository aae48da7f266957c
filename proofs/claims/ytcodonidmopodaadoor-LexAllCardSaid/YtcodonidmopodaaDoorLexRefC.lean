/- The reference's sign. -/
import Derived.Test.YtcodonidmopodaaDoorLexRefB
namespace Go.Proofs.YtcodonidmopodaaDoor
open Go.RowKit
set_option linter.unusedVariables false
set_option linter.unusedSimpArgs false

def signL (l : List UInt8) : List UInt8 := match signM l with
  | .ok _ _ m _ => l.take m
  | .err _ => []
def NoTwo (s : ByteArray) (k : Nat) : Prop := ∀ j x, j < k → twosS[j]? = some x → 2 ≤ s.size → s.extract 0 2 ≠ x
def NoOne (c : UInt8) (k : Nat) : Prop := ∀ j x, j < k → onesS.data.toList[j]? = some x → c ≠ x
theorem twos_at (k : Nat) (h : k < 5) : ∃ x, twosS[k]? = some x ∧ (twosS.map Value.string).toArray[k]? = some (.string x) := by
  have : k < twosS.length := h
  exact ⟨twosS[k], List.getElem?_eq_getElem this, by simp [List.getElem?_eq_getElem this]⟩
theorem NoTwo.next {s : ByteArray} {k : Nat} {x : ByteArray} (h : NoTwo s k) (hx : twosS[k]? = some x) (he : 2 ≤ s.size → s.extract 0 2 ≠ x) : NoTwo s (k + 1) := fun j y hj hy => by
  by_cases e : j = k
  · subst e
    rw [hx] at hy
    injection hy with hy
    subst hy; exact he
  · exact h j y (by omega) hy
theorem NoOne.next {c : UInt8} {k : Nat} {x : UInt8} (h : NoOne c k) (hx : onesS.data.toList[k]? = some x) (he : c ≠ x) : NoOne c (k + 1) := fun j y hj hy => by
  by_cases e : j = k
  · subst e
    rw [hx] at hy
    injection hy with hy
    subst hy; exact he
  · exact h j y (by omega) hy
theorem two_found {s x : ByteArray} {k : Nat} (hx : twosS[k]? = some x) (h2 : 2 ≤ s.size) (he : s.extract 0 2 = x) : bs (signL s.data.toList) = x := by
  have hl : s.data.toList.length = s.size := by simp
  have ht : s.data.toList.take 2 = x.data.toList := by rw [← he, ext_take]
  have : signM s.data.toList = .ok 5 0 2 2 := by
    unfold signM
    refine if_pos ⟨by omega, ?_⟩
    unfold twoB isIn
    exact decide_eq_true (List.mem_map.2 ⟨x, List.mem_of_getElem? hx, ht.symm⟩)
  unfold signL
  rw [this]
  show bs (s.data.toList.take 2) = x
  rw [ht, bs_data]
theorem two_none {s : ByteArray} (h : NoTwo s 5) : signM s.data.toList = if oneB (byteAt s.data.toList 0) then .ok 5 0 1 1 else .err 10 := by
  have hl : s.data.toList.length = s.size := by simp
  unfold signM
  rw [if_neg]
  rintro ⟨h1, h2⟩
  unfold twoB isIn at h2
  obtain ⟨x, hx, he⟩ := List.mem_map.1 (of_decide_eq_true h2)
  obtain ⟨j, hj, hjx⟩ := List.getElem_of_mem hx
  have hj5 : j < 5 := hj
  refine h j x hj5 (by rw [List.getElem?_eq_getElem hj, hjx]) (by omega) ?_
  apply ByteArray.ext
  apply Array.toList_inj.1
  rw [ext_take]
  exact he.symm
theorem one_found {s : ByteArray} {c : UInt8} (h0 : 0 < s.size) (hc : s[0]'h0 = c) (h : NoTwo s 5) (hm : c ∈ onesS.data.toList) : signL s.data.toList = [c] := by
  have hb := byteAt_eq s 0 h0
  rw [hc] at hb
  unfold signL
  rw [two_none h, hb]
  have : oneB (c.toNat : Int) = true := by
    unfold oneB
    rw [show ((c.toNat : Int)).toNat.toUInt8 = c by simp]
    exact decide_eq_true ((idx_mem _ _).2 hm)
  rw [if_pos this]
  show s.data.toList.take 1 = [c]
  have h1 : s.data.toList[0]? = some c := by rw [List.getElem?_eq_getElem (by simpa using h0)]; exact congrArg some hc
  rw [List.take_add_one, h1]; rfl
theorem one_none {s : ByteArray} {c : UInt8} (h0 : 0 < s.size) (hc : s[0]'h0 = c) (h : NoTwo s 5) (hn : NoOne c 16) : signL s.data.toList = [] := by
  have hb := byteAt_eq s 0 h0
  rw [hc] at hb
  unfold signL
  rw [two_none h, hb]
  have : oneB (c.toNat : Int) = false := by
    unfold oneB
    rw [show ((c.toNat : Int)).toNat.toUInt8 = c by simp]
    apply decide_eq_false
    rw [idx_mem]
    intro hm
    obtain ⟨j, hj, hjx⟩ := List.getElem_of_mem hm
    have hj16 : j < 16 := hj
    exact hn j c hj16 (by rw [List.getElem?_eq_getElem hj, hjx]) rfl
  rw [if_neg (by rw [this]; simp)]
theorem ones_at (k : Nat) (h : k < 16) : ∃ c, ∃ (h' : k < (⟨#[40, 41, 123, 125, 91, 93, 44, 59, 61, 60, 43, 45, 42, 47, 37, 33]⟩ : ByteArray).size), (⟨#[40, 41, 123, 125, 91, 93, 44, 59, 61, 60, 43, 45, 42, 47, 37, 33]⟩ : ByteArray)[k]'h' = c ∧ onesS.data.toList[k]? = some c ∧
    (⟨#[40, 41, 123, 125, 91, 93, 44, 59, 61, 60, 43, 45, 42, 47, 37, 33]⟩ : ByteArray).extract k (k + 1) = bs [c] := by
  rcases (by omega : k = 0 ∨ k = 1 ∨ k = 2 ∨ k = 3 ∨ k = 4 ∨ k = 5 ∨ k = 6 ∨ k = 7 ∨ k = 8 ∨ k = 9 ∨ k = 10 ∨ k = 11 ∨ k = 12 ∨ k = 13 ∨ k = 14 ∨ k = 15) with rfl | rfl | rfl | rfl | rfl | rfl | rfl | rfl | rfl | rfl | rfl | rfl | rfl | rfl | rfl | rfl
  all_goals exact ⟨_, by decide, rfl, rfl, rfl⟩

set_option maxRecDepth 100000 in
set_option maxHeartbeats 1600000 in
theorem rsign_any (s : ByteArray) (h0 : 0 < s.size) (w : World) : Calls Tryd.prog 45 #[.string s] w fun e w' => e = .returned (.string (bs (signL s.data.toList))) ∧ Fr nob w w' := by
  have h0i : (0 : Int) < (s.size : Int) := by omega
  obtain ⟨c0, hc0⟩ : ∃ c, s[0]'h0 = c := ⟨_, rfl⟩
  have HC0 := hid hc0
  go_enter Tryd.func45, Tryd.ntmps45
  go_wp2
  have BL := hid (Blk.new w 9 (twosS.map Value.string).toArray)
  have FR := hid ((Fr.refl nob w).alloc (.cells (twosS.map Value.string).toArray 9))
  have e2 : w.alloc (.cells (twosS.map Value.string).toArray 9) = w.alloc (.cells #[.string ⟨#[124, 124]⟩, .string ⟨#[38, 38]⟩, .string ⟨#[60, 61]⟩, .string ⟨#[61, 61]⟩, .string ⟨#[33, 61]⟩] 9) := rfl
  rw [e2] at BL FR
  clear e2
  generalize hw2 : w.alloc (.cells #[.string ⟨#[124, 124]⟩, .string ⟨#[38, 38]⟩, .string ⟨#[60, 61]⟩, .string ⟨#[61, 61]⟩, .string ⟨#[33, 61]⟩] 9) = w2 at *
  clear hw2
  go_loopw [4] (fun i w' => ∃ k : Nat, k ≤ 5 ∧ i = .int .i64 k ∧ Hid (NoTwo s k) ∧ Hid (Fr nob w2 w')) (fun i _ => 5 - (intOf i).toNat)
  case atStart => exact ⟨0, Nat.zero_le _, rfl, hid (fun j x hj => absurd hj (Nat.not_lt_zero _)), hid (Fr.refl _ _)⟩
  case round =>
    obtain ⟨k, hk, rfl, HN, F2⟩ := hrel
    by_cases hlt : k < 5
    · have hlt2 : (k : Int) < 5 := by omega
      obtain ⟨x, hx, hx2⟩ := twos_at k hlt
      have HX := hid hx
      have c0 := ((BL.out.fr F2.out (fun x => x)).cell k).trans hx2
      have cK := (F2.out.cell (p := ⟨w.heap.size, k, none⟩) BL.out.lt (fun x => x)).symm
      clear hx2 hx cK
      by_cases hs2 : 2 ≤ s.size
      · have hs3 : (2 : Int) ≤ (s.size : Int) := by omega
        have hsd : decide ((2 : Int) ≤ (s.size : Int)) = true := decide_eq_true hs3
        obtain ⟨s2, hs2'⟩ : ∃ s2, s.extract 0 2 = s2 := ⟨_, rfl⟩
        by_cases he : s2 = x
        · have RS := hid (two_found HX.out hs2 (hs2'.trans he))
          subst he
          clear hs2
          go_wp2
          go_quiet (fail)
          go_wp2
          go_ret
          exact ⟨by rw [RS.out]; first | done | rfl, (FR.out.tr F2.out).drewN _⟩
        · have heb : (s2.toList == x.toList) = false := by rw [ByteArray.toList_eq, ByteArray.toList_eq]; exact beq_eq_false_iff_ne.2 (fun e => he (ByteArray.ext (Array.toList_inj.1 e)))
          have HN2 := hid (HN.out.next HX.out (fun _ => by rw [hs2']; exact he))
          clear hs2 he
          go_wp2
          go_quiet (fail)
          go_wp2
          go_roundw
          case rel => exact ⟨k + 1, by omega, by go_num, HN2, hid (F2.out.drewN _)⟩
          case measure => simp [intOf]; omega
      · have hs3 : (s.size : Int) < 2 := by omega
        have hsd : decide ((2 : Int) ≤ (s.size : Int)) = false := decide_eq_false (by omega)
        have HN2 := hid (HN.out.next HX.out (fun h => absurd h hs2))
        clear hs2
        go_wp2
        go_quiet (fail)
        go_wp2
        go_roundw
        case rel => exact ⟨k + 1, by omega, by go_num, HN2, hid (F2.out.drewN _)⟩
        case measure => simp [intOf]; omega
    · have hk5 : k = 5 := by omega
      subst hk5
      clear hlt hk
      go_wp2
      go_loopw [6] (fun i w' => ∃ k : Nat, k ≤ 16 ∧ i = .int .i64 k ∧ Hid (NoOne c0 k) ∧ Hid (Fr nob w2 w')) (fun i _ => 16 - (intOf i).toNat)
      case atStart => exact ⟨0, Nat.zero_le _, rfl, hid (fun j x hj => absurd hj (Nat.not_lt_zero _)), F2⟩
      case round =>
        obtain ⟨k, hk, rfl, HO, F3⟩ := hrel
        by_cases hlt : k < 16
        · have hlt2 : (k : Int) < 16 := by omega
          obtain ⟨c, hcs, hc, hcl, hce⟩ := ones_at k hlt
          have HCL := hid hcl
          have HCE := hid hce
          clear hcl hce
          by_cases he : c0 = c
          · have RS := hid (one_found h0 HC0.out HN.out (he ▸ List.mem_of_getElem? HCL.out))
            have heb : ((c0.toNat : Int) == (c.toNat : Int)) = true := by rw [he]; simp
            go_wp2
            go_quiet (fail)
            go_wp2
            go_ret
            exact ⟨by rw [RS.out, he, ← HCE.out]; first | done | rfl, (FR.out.tr F3.out).drewN _⟩
          · have heb : ((c0.toNat : Int) == (c.toNat : Int)) = false := beq_eq_false_iff_ne.2 (fun e => he (UInt8.toNat_inj.1 (by omega)))
            have HN2 := hid (HO.out.next HCL.out he)
            clear he
            go_wp2
            go_quiet (fail)
            go_wp2
            go_roundw
            case rel => exact ⟨k + 1, by omega, by go_num, HN2, hid (F3.out.drewN _)⟩
            case measure => simp [intOf]; omega
        · have hk16 : k = 16 := by omega
          subst hk16
          have RS := hid (one_none h0 HC0.out HN.out HO.out)
          clear hlt hk
          go_wp2
          go_ret
          exact ⟨by rw [RS.out]; first | done | rfl, FR.out.tr F3.out⟩
end Go.Proofs.YtcodonidmopodaaDoor
