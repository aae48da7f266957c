/- Words: what is so, and not, the plain law. -/
import Derived.Test.YtngnipjfjhackaaDoorWdVP
namespace Go.Proofs.YtngnipjfjhackaaDoor
open Go.RowKit Go.MapKept
set_option linter.unusedVariables false
set_option linter.unusedSimpArgs false
def setS : ByteArray := ⟨#[115, 101, 116]⟩
theorem fine_no32 {s : ByteArray} (h : fineB s = true) : (32 : UInt8) ∉ s.data.toList := by
  intro hm
  unfold fineB at h
  simp only [Bool.and_eq_true] at h
  have h2 := h.2
  unfold plainB at h2
  have h3 := List.all_eq_true.1 h2 32 hm
  revert h3
  decide
theorem set_split (s : ByteArray) (t : List UInt8) (ht : (32 : UInt8) ∉ t) : splitL ((⟨#[115, 101, 116, 32]⟩ ++ s ++ bsW (32 :: t) : ByteArray)).data.toList = [115, 101, 116] :: (splitL s.data.toList ++ [t]) := by
  have e : (⟨#[115, 101, 116, 32]⟩ ++ s ++ bsW (32 :: t) : ByteArray).data.toList = [115, 101, 116] ++ 32 :: (s.data.toList ++ 32 :: t) := by
    simp [ByteArray.data_append, bsW]
  rw [e, split_cons (by decide), split_app, split_one ht]
theorem set_parts (s : ByteArray) (t : List UInt8) (ht : (32 : UInt8) ∉ t) : partsB (⟨#[115, 101, 116, 32]⟩ ++ s ++ bsW (32 :: t)) = setS :: ((splitL s.data.toList).map bsW ++ [bsW t]) := by
  rw [parts_B, set_split s t ht, List.map_cons, List.map_append]
  rfl
theorem set_find : findS setS shapesL = some [.a, .v] := by kernel_rfl
/-- A line that sets: one name, one value. -/
theorem set_read (s : ByteArray) (hs : s.size ≤ 30) (t : List UInt8) (ht : (32 : UInt8) ∉ t) (htl : t.length ≤ 40) :
    readR (⟨#[115, 101, 116, 32]⟩ ++ s ++ bsW (32 :: t)) = if fineB s = true then (match readS (bsW t) with | some y => (⟨setS, s, ⟨#[]⟩, 0, y.1, y.2.1, y.2.2⟩, 0) | none => (zeroC ⟨#[]⟩, 80)) else (zeroC ⟨#[]⟩, 80) := by
  have hp := set_parts s t ht
  have hsz : (⟨#[115, 101, 116, 32]⟩ ++ s ++ bsW (32 :: t) : ByteArray).size ≤ 80 := by
    rw [ByteArray.size_append, ByteArray.size_append]
    have h1 : (bsW (32 :: t)).size = t.length + 1 := by
      unfold bsW; show (32 :: t).toArray.size = _
      simp
    have h2 : (⟨#[115, 101, 116, 32]⟩ : ByteArray).size = 4 := rfl
    omega
  by_cases hf : fineB s = true
  · rw [if_pos hf]
    rw [split_one (fine_no32 hf)] at hp
    have hp : partsB (⟨#[115, 101, 116, 32]⟩ ++ s ++ bsW (32 :: t)) = setS :: [s, bsW t] := by
      rw [hp, List.map_cons, bsW_data]; rfl
    cases hr : readS (bsW t) with
    | none =>
      refine readR_none hp set_find rfl hsz ?_
      rw [takes_cons]
      have e1 : takeK .a (zeroC setS) s = some { zeroC setS with a := s } := by unfold takeK; dsimp only; rw [if_pos hf]
      rw [e1, Option.bind_some, takes_cons]
      have e2 : takeK .v { zeroC setS with a := s } (bsW t) = none := by unfold takeK; dsimp only; rw [hr]; rfl
      rw [e2]; rfl
    | some y =>
      refine readR_some hp set_find rfl hsz ?_
      rw [takes_cons]
      have e1 : takeK .a (zeroC setS) s = some { zeroC setS with a := s } := by unfold takeK; dsimp only; rw [if_pos hf]
      rw [e1, Option.bind_some, takes_cons]
      have e2 : takeK .v { zeroC setS with a := s } (bsW t) = some { zeroC setS with a := s, t := y.1, vn := y.2.1, vs := y.2.2 } := by unfold takeK; dsimp only; rw [hr]; rfl
      rw [e2]; rfl
  · rw [if_neg hf]
    by_cases h32 : (32 : UInt8) ∈ s.data.toList
    · have e : readM (⟨#[115, 101, 116, 32]⟩ ++ s ++ bsW (32 :: t)) = none := by
        unfold readM
        rw [hp]
        dsimp only
        rw [set_find]
        dsimp only
        rw [if_neg]
        rintro ⟨h, _⟩
        have := split_len_blank h32
        simp at h
        omega
      unfold readR
      rw [e]
    · rw [split_one h32] at hp
      have hp : partsB (⟨#[115, 101, 116, 32]⟩ ++ s ++ bsW (32 :: t)) = setS :: [s, bsW t] := by
        rw [hp, List.map_cons, bsW_data]; rfl
      refine readR_none hp set_find rfl hsz ?_
      rw [takes_cons]
      have e1 : takeK .a (zeroC setS) s = none := by unfold takeK; dsimp only; rw [if_neg hf]
      rw [e1]; rfl
theorem read_true_s : readS (bsW [116, 114, 117, 101]) = some (2, 1, ⟨#[]⟩) := by kernel_rfl
theorem read_false_s : readS (bsW [102, 97, 108, 115, 101]) = some (2, 0, ⟨#[]⟩) := by kernel_rfl
theorem read_list_s : readS (bsW [108, 105, 115, 116]) = none := by kernel_rfl
/-- As far as the name is gone. -/
def fineJ (s : ByteArray) (j : Nat) : Bool := (decide (1 ≤ s.size) && decide (s.size ≤ 20)) && (s.data.toList.take j).all seen
theorem fineJ_end (s : ByteArray) : fineJ s s.size = fineB s := by
  unfold fineJ fineB plainB
  rw [List.take_of_length_le (by have : s.data.toList.length = s.size := by simp
                                 omega)]
theorem fineJ_step (s : ByteArray) (j : Nat) (c : UInt8) (h : s.data.toList[j]? = some c) : fineJ s (j + 1) = (fineJ s j && seen c) := by
  unfold fineJ
  rw [List.take_add_one, h, List.all_append]
  simp [Bool.and_assoc]
end Go.Proofs.YtngnipjfjhackaaDoor
