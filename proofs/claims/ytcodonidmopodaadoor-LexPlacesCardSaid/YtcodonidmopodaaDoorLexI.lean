/- The example at the head of the laws; what a row of tokens holds. -/
import Derived.Test.YtcodonidmopodaaDoorLexH
namespace Go.Proofs.YtcodonidmopodaaDoor
open Go.RowKit
set_option linter.unusedVariables false
set_option linter.unusedSimpArgs false

/-- lexFrom by fuel, for closed texts. -/
def lexFuel : Nat → List UInt8 → Nat → LexR
  | 0, _, _ => .bad 0 0
  | f + 1, l, p =>
    match l with
    | [] => .good [⟨0, [], p⟩]
    | c :: r =>
      if blankI (byteAt (c :: r) 0) then lexFuel f r (p + 1)
      else if remarkB (c :: r) then lexFuel f (r.drop (runN lineI (c :: r) - 1)) (p + runN lineI (c :: r))
      else match firstM (c :: r) with
        | .err e => .bad p e
        | .ok k o m n => (lexFuel f (r.drop (n - 1)) (p + n)).pre [⟨k, ((c :: r).drop o).take m, p⟩]
theorem lexFuel_eq (f : Nat) : ∀ (l : List UInt8) (p : Nat), l.length < f → lexFuel f l p = lexFrom l p := by
  induction f with
  | zero => intro l p h; omega
  | succ f ih =>
    intro l p h
    cases l with
    | nil => rw [lexFuel, lexFrom]
    | cons c r =>
      simp only [List.length_cons] at h
      rw [lexFuel, lexFrom, ih r (p + 1) (by omega), ih _ _ (by rw [List.length_drop]; omega)]
      cases firstM (c :: r) with
      | err e => rfl
      | ok k o m n => simp only; rw [ih _ _ (by rw [List.length_drop]; omega)]

theorem tokCells_get {K : List Tok} : ∀ {i : Nat} {t : Tok}, K[i]? = some t → (tokCells K)[i * 3]? = some (.int .i64 t.kind) ∧ (tokCells K)[i * 3 + 1]? = some (.string (bs t.text)) ∧ (tokCells K)[i * 3 + 2]? = some (.int .i64 t.place) := by
  induction K with
  | nil => intro i t h; simp at h
  | cons a K ih =>
    intro i t h
    cases i with
    | zero => simp at h; subst h; exact ⟨rfl, rfl, rfl⟩
    | succ i =>
      simp at h
      have h3 := ih h
      have e : tokCells (a :: K) = [.int .i64 a.kind, .string (bs a.text), .int .i64 a.place] ++ tokCells K := rfl
      rw [e, show (i + 1) * 3 = i * 3 + 3 by omega]
      refine ⟨?_, ?_, ?_⟩
      · rw [List.getElem?_append_right (by simp)]; exact h3.1
      · rw [List.getElem?_append_right (by simp)]; exact h3.2.1
      · rw [List.getElem?_append_right (by simp)]; exact h3.2.2
theorem Toks.some {base : Nat} {w : World} {A : Option Addr} {n c : Nat} {K : List Tok} (h : Toks base w (.slice A n c) K) (hK : 0 < K.length) :
    ∃ g, A = some ⟨g, 0, none⟩ ∧ base ≤ g ∧ g < w.heap.size ∧ ∀ (i : Nat) (t : Tok), K[i]? = some t → w.cell? ⟨g, i * 3, none⟩ = some (.int .i64 t.kind) ∧ w.cell? ⟨g, i * 3 + 1, none⟩ = some (.string (bs t.text)) ∧ w.cell? ⟨g, i * 3 + 2, none⟩ = some (.int .i64 t.place) := by
  obtain ⟨hl, A', c', hv, ⟨h1, h2⟩ | ⟨g, cur, rfl, h0, hb, hnc, hcm, hsz, ht⟩⟩ := h.own
  · omega
  · injection hv with hA hn hc
    subst hA; subst hn; subst hc
    refine ⟨g, rfl, h.new g (by simp [blk]; omega), hb.lt, fun i t hi => ?_⟩
    obtain ⟨a1, a2, a3⟩ := tokCells_get hi
    have hi' := (List.getElem?_eq_some_iff.1 hi).1
    rw [← ht] at a1 a2 a3
    rw [List.getElem?_take] at a1 a2 a3
    refine ⟨?_, ?_, ?_⟩
    · rw [hb.cell]; split at a1
      · simpa using a1
      · cases a1
    · rw [hb.cell]; split at a2
      · simpa using a2
      · cases a2
    · rw [hb.cell]; split at a3
      · simpa using a3
      · cases a3
theorem Toks.slice {base : Nat} {w : World} {v : Value} {K : List Tok} (h : Toks base w v K) : ∃ A c, v = .slice A K.length c ∧ K.length ≤ c ∧ c ≤ maxLen := h.own.cap

theorem lex_shown : lexM [120, 49, 60, 61, 50, 47, 47, 97] = .good [⟨3, [120, 49], 0⟩, ⟨5, [60, 61], 2⟩, ⟨1, [50], 4⟩, ⟨0, [], 8⟩] := by
  unfold lexM
  rw [if_neg (by decide), ← lexFuel_eq 9 _ _ (by decide)]
  kernel_rfl

set_option maxHeartbeats 800000 in
theorem shown_any (w : World) (hv : Vars w) : Calls Tryd.prog 11 #[] w fun e w' => e = .returned (.bool true) ∧ Fr nob w w' := by
  have HA := hid (all_any ⟨#[120, 49, 60, 61, 50, 47, 47, 97]⟩ w (by decide) hv)
  rw [show (⟨#[120, 49, 60, 61, 50, 47, 47, 97]⟩ : ByteArray).data.toList = [120, 49, 60, 61, 50, 47, 47, 97] from rfl, lex_shown] at HA
  go_enter Tryd.func11, Tryd.ntmps11
  go_wp2_with (go_at_call 13; go_must (refine HA.out.mono ?_; rintro e w1 ⟨⟨v, rfl, ht⟩, hf⟩; obtain ⟨A, c, rfl, hc1, hc2⟩ := ht.slice; obtain ⟨g, rfl, hg, hg2, hat⟩ := ht.some (by decide); have F1 := hid hf; obtain ⟨x0, x1, x2⟩ := hat 0 _ rfl; obtain ⟨y0, y1, y2⟩ := hat 1 _ rfl; obtain ⟨z0, z1, z2⟩ := hat 3 _ rfl; unfold bs at x1 y1 z1; clear hat hf ht))
  go_ret
  exact ⟨rfl, F1.out⟩

def cutS (s : ByteArray) (n : Nat) : ByteArray := if n < s.size then s.extract 0 n else s
theorem cutS_size (s : ByteArray) (n : Nat) : (cutS s n).size ≤ n ∧ (cutS s n).size ≤ s.size := by
  unfold cutS
  split
  · simp; omega
  · omega
theorem short_any (s : ByteArray) (hs : s.size ≤ 281474976710656) (w : World) : Calls Tryd.prog 12 #[.string s] w fun e w' => e = .returned (.string (cutS s 700)) ∧ w = w' := by
  unfold cutS
  by_cases h : 700 < s.size
  · rw [if_pos h]
    have h2 : (700 : Int) < (s.size : Int) := by omega
    have h3 : (700 : Int) ≤ (s.size : Int) := by omega
    clear h
    go_enter Tryd.func12, Tryd.ntmps12
    go_wp2
    go_ret
    exact ⟨rfl, rfl⟩
  · rw [if_neg h]
    have h2 : (s.size : Int) ≤ 700 := by omega
    clear h
    go_enter Tryd.func12, Tryd.ntmps12
    go_wp2
    go_ret
    exact ⟨rfl, rfl⟩
end Go.Proofs.YtcodonidmopodaaDoor
