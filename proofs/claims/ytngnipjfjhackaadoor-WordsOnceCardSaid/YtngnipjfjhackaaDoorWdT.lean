/- Words: Read, of any line; the parts of a line. -/
import Derived.Test.YtngnipjfjhackaaDoorWdS
namespace Go.Proofs.YtngnipjfjhackaaDoor
open Go.RowKit Go.MapKept
set_option linter.unusedVariables false
set_option linter.unusedSimpArgs false
theorem read_line (line : ByteArray) (hl : line.size ≤ 1000) (w : World) (hv : VarsM w) :
    Calls Tryd.prog 8 #[.string line] w fun e w' => e = .returned (.tuple #[cmdV (readR line).1, .int .i64 (readR line).2]) ∧ Fr nob w w' := by
  have hlen := parts_len line
  cases hp : partsB line with
  | nil => rw [hp] at hlen; simp at hlen
  | cons v ps =>
    cases hk : findS v shapesL with
    | none =>
      have e : readR line = (zeroC ⟨#[]⟩, 80) := by
        unfold readR readM
        rw [hp]
        dsimp only
        rw [hk]
      rw [e]
      exact read_miss line v ps hl hp hk w hv
    | some ks => exact read_found line v ps ks hl hp hk w hv
/-- A text cut at blanks. -/
def splitL : List UInt8 → List (List UInt8)
  | [] => [[]]
  | b :: l => if b = 32 then [] :: splitL l else match splitL l with
    | [] => [[b]]
    | x :: xs => (b :: x) :: xs
theorem splitK_L : ∀ l : List UInt8, Lib.splitK [32] 0 (Lib.count l [32]) l = splitL l
  | [] => by
    rw [Lib.count_miss (by simp [Lib.index])]; rfl
  | b :: l => by
    have ih := splitK_L l
    by_cases hb : b = 32
    · subst hb
      have hix : Lib.index (32 :: l) [32] = ((0 : Nat) : Int) := by rw [Lib.index]; simp [List.isPrefixOf]
      rw [Lib.count_cons_eq, Nat.add_comm, Lib.splitK, hix]
      unfold splitL
      rw [if_pos rfl, ← ih]
      simp
    · rw [Lib.count_cons_ne b 32 l hb]
      unfold splitL
      rw [if_neg hb, ← ih]
      have hp : ([32] : List UInt8).isPrefixOf (b :: l) = false := by simp [List.isPrefixOf, Ne.symm hb]
      have hix : Lib.index (b :: l) [32] = if Lib.index l [32] == -1 then -1 else Lib.index l [32] + 1 := by rw [Lib.index, hp]; simp
      by_cases hm : Lib.index l [32] = -1
      · rw [Lib.count_miss hm]; rfl
      · have hge := Lib.index_ge l [32]
        obtain ⟨j, hj⟩ : ∃ j : Nat, Lib.index l [32] = j := ⟨(Lib.index l [32]).toNat, by omega⟩
        rw [Lib.count_hit (by simp) hj, Nat.add_comm, Lib.splitK, Lib.splitK, hix, hj]
        have e1 : ((j : Int) == -1) = false := beq_eq_false_iff_ne.2 (by omega)
        have e2 : ((j : Int) + 1 == -1) = false := beq_eq_false_iff_ne.2 (by omega)
        have e3 : ((j : Int) + 1).toNat = j + 1 := by omega
        rw [e1]
        simp [e2, e3]
theorem parts_L (s : ByteArray) : (partsB s).map (·.data.toList) = splitL s.data.toList := by
  unfold partsB
  rw [Lib.splitB_data]
  exact splitK_L s.data.toList
def bsW (l : List UInt8) : ByteArray := ⟨l.toArray⟩
theorem bsW_data (s : ByteArray) : bsW s.data.toList = s := str_list s
theorem parts_B (s : ByteArray) : partsB s = (splitL s.data.toList).map bsW := by
  rw [← parts_L, List.map_map]
  symm
  have : (bsW ∘ fun x : ByteArray => x.data.toList) = id := by funext x; exact bsW_data x
  rw [this, List.map_id]
theorem split_ne (l : List UInt8) : splitL l ≠ [] := by
  cases l with
  | nil => simp [splitL]
  | cons b l => unfold splitL; split
                · simp
                · split <;> simp
/-- A part without blanks, ahead. -/
theorem split_one : ∀ {x : List UInt8}, (32 : UInt8) ∉ x → splitL x = [x]
  | [], _ => rfl
  | b :: x, h => by
    have hb : b ≠ 32 := fun e => h (by rw [e]; exact List.mem_cons_self)
    have ih := split_one (x := x) (fun hm => h (List.mem_cons_of_mem _ hm))
    unfold splitL
    rw [if_neg hb, ih]
theorem split_cons : ∀ {x : List UInt8}, (32 : UInt8) ∉ x → ∀ l, splitL (x ++ 32 :: l) = x :: splitL l
  | [], _, l => by rw [List.nil_append, splitL, if_pos rfl]
  | b :: x, h, l => by
    have hb : b ≠ 32 := fun e => h (by rw [e]; exact List.mem_cons_self)
    have ih := split_cons (x := x) (fun hm => h (List.mem_cons_of_mem _ hm)) l
    rw [List.cons_append, splitL, if_neg hb, ih]
/-- Of two texts with a blank between. -/
theorem split_app : ∀ (a l : List UInt8), splitL (a ++ 32 :: l) = splitL a ++ splitL l
  | [], l => split_cons (x := []) (by simp) l
  | b :: a, l => by
    have ih := split_app a l
    rw [List.cons_append, splitL, splitL]
    by_cases hb : b = 32
    · rw [if_pos hb, if_pos hb, ih]; rfl
    · rw [if_neg hb, if_neg hb, ih]
      cases hs : splitL a with
      | nil => exact absurd hs (split_ne a)
      | cons x xs => rfl
theorem split_len_blank : ∀ {a : List UInt8}, (32 : UInt8) ∈ a → 2 ≤ (splitL a).length
  | [], h => by cases h
  | b :: a, h => by
    unfold splitL
    by_cases hb : b = 32
    · rw [if_pos hb, List.length_cons]
      have := List.length_pos_iff.2 (split_ne a)
      omega
    · rw [if_neg hb]
      have hm : (32 : UInt8) ∈ a := by
        rcases List.mem_cons.1 h with e | e
        · exact absurd e.symm hb
        · exact e
      have := split_len_blank hm
      cases hs : splitL a with
      | nil => rw [hs] at this; simp at this
      | cons x xs => rw [hs] at this; exact this
set_option maxRecDepth 100000 in
theorem shown_read : readR ⟨#[102, 111, 114, 107, 32, 98, 32, 97, 32, 45, 53]⟩ = (⟨⟨#[102, 111, 114, 107]⟩, ⟨#[98]⟩, ⟨#[97]⟩, 0, 1, -5, ⟨#[]⟩⟩, 0) := by kernel_rfl
end Go.Proofs.YtngnipjfjhackaaDoor
