/- Words: verbs, the plain law. -/
import Derived.Test.YtngnipjfjhackaaDoorWdU
namespace Go.Proofs.YtngnipjfjhackaaDoor
open Go.RowKit Go.MapKept
set_option linter.unusedVariables false
set_option linter.unusedSimpArgs false
def verbN : List (ByteArray × Nat) :=
  [(⟨#[115, 116, 101, 112]⟩, 0), (⟨#[98, 97, 99, 107]⟩, 0), (⟨#[115, 104, 111, 119]⟩, 0), (⟨#[108, 105, 115, 116]⟩, 0), (⟨#[103, 111]⟩, 1), (⟨#[105, 110, 112, 117, 116]⟩, 1), (⟨#[108, 105, 110, 101]⟩, 1), (⟨#[115, 119, 105, 116, 99, 104]⟩, 1), (⟨#[100, 105, 102, 102]⟩, 1), (⟨#[102, 105, 114, 115, 116]⟩, 1), (⟨#[112, 114, 117, 110, 101]⟩, 1), (⟨#[119, 97, 116, 99, 104]⟩, 1), (⟨#[114, 101, 110, 97, 109, 101]⟩, 2), (⟨#[114, 101, 98, 97, 115, 101]⟩, 2), (⟨#[116, 97, 107, 101]⟩, 2), (⟨#[115, 101, 116]⟩, 2), (⟨#[102, 111, 114, 107]⟩, 3)]
/-- How many words a verb has, as far as the list is gone. -/
def wantJ (s : ByteArray) : Nat → Int
  | 0 => -1
  | j + 1 => if (verbN.getD j (⟨#[]⟩, 0)).1 = s then ((verbN.getD j (⟨#[]⟩, 0)).2 : Int) else wantJ s j
def lineJ (s : ByteArray) : Nat → ByteArray
  | 0 => s
  | j + 1 => lineJ s j ++ ⟨#[32, 55]⟩
theorem lineJ_size (s : ByteArray) : ∀ j, (lineJ s j).size = s.size + 2 * j
  | 0 => rfl
  | j + 1 => by
    unfold lineJ
    rw [ByteArray.size_append, lineJ_size s j]
    show s.size + 2 * j + 2 = _
    omega
theorem lineJ_split (s : ByteArray) (h : (32 : UInt8) ∉ s.data.toList) : ∀ j, splitL (lineJ s j).data.toList = s.data.toList :: List.replicate j [55]
  | 0 => split_one h
  | j + 1 => by
    have e : (lineJ s (j + 1)).data.toList = (lineJ s j).data.toList ++ 32 :: [55] := by
      show (lineJ s j ++ ⟨#[32, 55]⟩).data.toList = _
      simp [ByteArray.data_append]
    rw [e, split_app, lineJ_split s h j, List.cons_append, List.replicate_succ']
    rfl
theorem want_find (s : ByteArray) : wantJ s 17 = match findS s shapesL with | some ks => (ks.length : Int) | none => -1 := by
  by_cases h : s ∈ verbN.map Prod.fst
  · simp only [verbN, List.map_cons, List.map_nil, List.mem_cons, List.not_mem_nil, or_false] at h
    rcases h with rfl | rfl | rfl | rfl | rfl | rfl | rfl | rfl | rfl | rfl | rfl | rfl | rfl | rfl | rfl | rfl | rfl <;> rfl
  · have h1 : ∀ j, j ≤ 17 → wantJ s j = -1 := by
      intro j
      induction j with
      | zero => intro _; rfl
      | succ j ih =>
        intro h17
        unfold wantJ
        have hj : j < verbN.length := by show j < 17; omega
        · rw [if_neg, ih (by omega)]
          intro e
          apply h
          rw [← e]
          refine List.mem_map.2 ⟨verbN[j], List.getElem_mem hj, ?_⟩
          rw [List.getD, List.getElem?_eq_getElem hj]; rfl
    have h2 : findS s shapesL = none := by
      have : ∀ l : List (ByteArray × List Wk), (∀ p ∈ l, p.1 ∈ verbN.map Prod.fst) → findS s l = none := by
        intro l
        induction l with
        | nil => intro _; rfl
        | cons p l ih =>
          intro hl
          unfold findS
          rw [if_neg (fun e => h (by rw [← e]; exact hl p List.mem_cons_self))]
          exact ih (fun q hq => hl q (List.mem_cons_of_mem _ hq))
      refine this _ (fun p hp => ?_)
      simp only [shapesL, List.mem_cons, List.not_mem_nil, or_false] at hp
      rcases hp with rfl | rfl | rfl | rfl | rfl | rfl | rfl | rfl | rfl | rfl | rfl | rfl | rfl | rfl | rfl | rfl | rfl <;> simp [verbN]
    rw [h2, h1 17 (Nat.le_refl _)]
theorem takes_sevens : ∀ (ks : List Wk) (c : CmdM), ∃ c', takes ks (List.replicate ks.length (bsW [55])) c = some c' ∧ c'.verb = c.verb
  | [], c => ⟨c, rfl, rfl⟩
  | k :: ks, c => by
    have h1 : ∃ c1, takeK k c (bsW [55]) = some c1 ∧ c1.verb = c.verb := by
      have hf : fineB (bsW [55]) = true := by decide
      have hn : numM (bsW [55]).data.toList = some 7 := by kernel_rfl
      have hr : readS (bsW [55]) = some (1, 7, ⟨#[]⟩) := by kernel_rfl
      cases k
      · exact ⟨{ c with a := bsW [55] }, by unfold takeK; dsimp only; rw [if_pos hf], rfl⟩
      · exact ⟨{ c with b := bsW [55] }, by unfold takeK; dsimp only; rw [if_pos hf], rfl⟩
      · exact ⟨{ c with n := 7 }, by unfold takeK; dsimp only; rw [hn]; rfl, rfl⟩
      · exact ⟨{ c with t := 1, vn := 7, vs := ⟨#[]⟩ }, by unfold takeK; dsimp only; rw [hr]; rfl, rfl⟩
    obtain ⟨c1, e1, v1⟩ := h1
    obtain ⟨c2, e2, v2⟩ := takes_sevens ks c1
    refine ⟨c2, ?_, v2.trans v1⟩
    rw [List.length_cons, List.replicate_succ, takes_cons, e1]
    exact e2
theorem verbs_law (s : ByteArray) (hs : s.size ≤ 30) (h : (32 : UInt8) ∉ s.data.toList) (n : Nat) (hn : n ≤ 5) :
    ((n : Int) ≠ wantJ s 17 → (readR (lineJ s n)).2 = 80) ∧ ((n : Int) = wantJ s 17 → ∃ c, readR (lineJ s n) = (c, 0) ∧ c.verb = s) := by
  have hp : partsB (lineJ s n) = s :: List.replicate n (bsW [55]) := by
    rw [parts_B, lineJ_split s h, List.map_cons, List.map_replicate, bsW_data]
  have hsz : (lineJ s n).size ≤ 80 := by rw [lineJ_size]; omega
  rw [want_find]
  cases hk : findS s shapesL with
  | none =>
    refine ⟨fun _ => ?_, fun e => by dsimp only at e; omega⟩
    unfold readR readM
    rw [hp]
    dsimp only
    rw [hk]
  | some ks =>
    dsimp only
    refine ⟨fun hne => ?_, fun he => ?_⟩
    · unfold readR readM
      rw [hp]
      dsimp only
      rw [hk]
      dsimp only
      rw [if_neg (by rw [List.length_replicate]; omega)]
    · have he : n = ks.length := by omega
      subst he
      obtain ⟨c, e1, e2⟩ := takes_sevens ks (zeroC s)
      exact ⟨c, readR_some hp hk (by rw [List.length_replicate]) hsz e1, e2⟩
end Go.Proofs.YtngnipjfjhackaaDoor
