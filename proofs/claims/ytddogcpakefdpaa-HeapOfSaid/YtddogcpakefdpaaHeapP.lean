/- The program's heap: a contract for each of its functions. -/
import Derived.Test.YtddogcpakefdpaaRows
import Derived.Test.YtddogcpakefdpaaHeapM
namespace Go.Proofs.Ytddogcpakefdpaa
open Go.RowKit
set_option linter.unusedVariables false
set_option linter.unusedSimpArgs false

theorem TyInts : SlTy Try.prog 35 3 1 8 (.int .i64 0) := SlTy.mk' (by kernel_rfl) (by kernel_rfl) rfl (by decide)
theorem TyRows : SlTy Try.prog 27 35 1 24 (.slice none 0 0) := SlTy.mk' (by kernel_rfl) (by kernel_rfl) rfl (by decide)
theorem under_int : Try.prog.underlying 3 = some (.int .i64) := by kernel_rfl

def ivs (l : List Int) : List Value := l.map (Value.int .i64)
theorem ivs_length (l : List Int) : (ivs l).length = l.length := by simp [ivs]
theorem ivs_append (l m : List Int) : ivs (l ++ m) = ivs l ++ ivs m := by simp [ivs]
theorem ivs_get (l : List Int) (k : Nat) : (ivs l)[k]? = l[k]?.map (Value.int .i64) := by simp [ivs]
theorem ivs_one (l : List Int) : ∀ u ∈ ivs l, u.oneCell' = true := by
  intro u hu; simp [ivs] at hu; obtain ⟨n, _, rfl⟩ := hu; rfl
theorem ivs_set (l : List Int) (k : Nat) (n : Int) : ivs (l.set k n) = (ivs l).set k (.int .i64 n) := by simp [ivs, List.map_set]
theorem ivs_replicate (k : Nat) : ivs (List.replicate k 0) = List.replicate k (.int .i64 0) := by simp [ivs]

/-- The program's heap at block hb stands for the lists L. -/
structure HeapP (w : World) (hb : Nat) (cv ev : Value) (L : List (List Int)) : Prop where
  box : Blk w hb 52 #[cv, ev]
  cells : Own w 3 1 cv L.flatten.length (ivs L.flatten)
  ends : Own w 3 1 ev L.length (ivs (endsOf L))
  apart : ∀ g, blk cv = some g → blk ev ≠ some g
  most : cellsN L ≤ 40
/-- The blocks of a heap. -/
def footP (hb : Nat) (cv ev : Value) : Nat → Prop := fun k => k = hb ∨ blk cv = some k ∨ blk ev = some k

/-- What 'list' tells: list k's cells. -/
def SubP (cv v : Value) (L : List (List Int)) (k : Nat) : Prop :=
  ∃ A c A', cv = .slice A L.flatten.length c ∧ v = .slice A' (L.getD k []).length (L.getD k []).length ∧ (0 < (L.getD k []).length → ∃ g, A = some ⟨g, 0, none⟩ ∧ 0 < c ∧ A' = some ⟨g, at0 L k, none⟩)

set_option maxHeartbeats 400000 in
theorem list_no (hb : Nat) (cv ev : Value) (L : List (List Int)) (at_ : Int) (w : World) (h : HeapP w hb cv ev L) (hn : at_ < 1 ∨ (L.length : Int) < at_) :
    Calls Try.prog 24 #[.pointer (some ⟨hb, 0, none⟩), .int .i64 at_] w fun e w' => e = .returned (.slice none 0 0) ∧ w = w' := by
  have h1 := h.box.cell 1
  obtain ⟨A, c, rfl, _, _⟩ := h.ends.cap
  rcases (by omega : at_ < 1 ∨ 1 ≤ at_) with h0 | h0
  · go_enter Try.func24, Try.ntmps24
    go_wp2
    go_ret
    exact ⟨rfl, rfl⟩
  · have h2 : (L.length : Int) < at_ := by omega
    have h0' : ¬ at_ < 1 := by omega
    go_enter Try.func24, Try.ntmps24
    go_wp2
    go_ret
    exact ⟨rfl, rfl⟩

theorem Own.one {w : World} {e n : Nat} {v : Value} {xs : List Value} (h : Own w e 1 v n xs) (hn : 0 < n) :
    ∃ g c, v = .slice (some ⟨g, 0, none⟩) n c ∧ 0 < c ∧ n ≤ c ∧ c ≤ maxLen ∧ g < w.heap.size ∧ (∀ j, j < n → w.cell? ⟨g, j, none⟩ = some (xs.getD j undef)) ∧ (∀ j, w.frozen? ⟨g, j, none⟩ = false) := by
  obtain ⟨hl, A, c, rfl, ⟨_, rfl⟩ | ⟨g, cur, rfl, h0, hb, hnc, hcm, hsz, ht⟩⟩ := h
  · omega
  · refine ⟨g, c, rfl, h0, hnc, hcm, hb.lt, fun j hj => ?_, fun j => hb.frozen j⟩
    rw [hb.cell, ← ht]
    simp only [List.getD, List.getElem?_take, Nat.mul_one, if_pos hj, Array.getElem?_toList]
    have : j < cur.size := by omega
    simp [this]

set_option maxHeartbeats 400000 in
theorem list_in (hb : Nat) (cv ev : Value) (L : List (List Int)) (k : Nat) (w : World) (h : HeapP w hb cv ev L) (hk : k < L.length) :
    Calls Try.prog 24 #[.pointer (some ⟨hb, 0, none⟩), .int .i64 (k + 1)] w fun e w' => (∃ v, e = .returned v ∧ SubP cv v L k) ∧ w = w' := by
  have b0 := h.box.cell 0
  have b1 := h.box.cell 1
  obtain ⟨g, c, rfl, hc0, hnc, _, _, hcell, _⟩ := h.ends.one (by omega : 0 < L.length)
  obtain ⟨A, c', rfl, hc', hcm'⟩ := h.cells.cap
  have hmost := h.most
  unfold cellsN at hmost
  have e1 : w.cell? ⟨g, k, none⟩ = some (.int .i64 (at0 L (k + 1))) := by
    rw [hcell k hk]; simp [List.getD, ivs_get, endsOf_get L k hk]
  have hle := at0_le L (k + 1)
  have hs := at0_succ L k hk
  have hi1 : (k : Int) < (L.length : Int) := by omega
  have hi0 : (0 : Int) ≤ (k : Int) := by omega
  have hgd : L.getD k [] = L[k] := by simp [List.getD, hk]
  have q1 : ((at0 L (k + 1) : Nat) : Int) ≤ (c' : Int) := by omega
  have q2 : ((at0 L k : Nat) : Int) ≤ ((at0 L (k + 1) : Nat) : Int) := by omega
  have q0 : (0 : Int) ≤ ((at0 L k : Nat) : Int) := by omega
  have q00 : (0 : Int) ≤ ((at0 L (k + 1) : Nat) : Int) := by omega
  have fin : ∀ A', (0 < L[k].length → A' = A.map (·.add (at0 L k))) → SubP (.slice A L.flatten.length c') (.slice A' (at0 L (k + 1) - at0 L k) (at0 L (k + 1) - at0 L k)) L k := by
    intro A' hA'
    refine ⟨A, c', A', rfl, by rw [hgd]; congr 1 <;> omega, fun hp => ?_⟩
    rw [hgd] at hp
    obtain ⟨g, c, hv, hc, _⟩ := h.cells.one (by omega)
    injection hv with hA _ hcc
    subst hA; subst hcc
    refine ⟨g, rfl, hc, ?_⟩
    rw [hA' hp]
    simp [add_mk]
  have Hs := hid hs
  have Hf := hid fin
  have Hg := hid hgd
  have Hl := hid hle
  clear hs fin hgd hle
  generalize hq : at0 L (k + 1) = q at *
  generalize hN : L.flatten.length = N at *
  by_cases hk0 : k = 0
  · subst hk0
    have hp0 := at0_zero L
    rw [hp0] at *
    clear hcell h hq hN hp0
    go_enter Try.func24, Try.ntmps24
    go_wp2
    all_goals
      go_ret
      first
        | exact ⟨⟨_, rfl, Hf.out _ (fun hp => rfl)⟩, rfl⟩
        | (refine ⟨⟨_, rfl, ?_⟩, rfl⟩; have h9 := Hf.out A (fun hp => by rw [at0_zero]; cases A <;> simp [Addr.add]); rw [at0_zero, Nat.sub_zero] at h9; exact h9)
        | (refine ⟨⟨_, rfl, ?_⟩, rfl⟩; have e : q - p = 0 := by omega
           have h9 := Hf.out A (fun hp => by exfalso; have := Hs.out; omega); rw [e] at h9; exact h9)
  · have e0 : w.cell? ⟨g, k - 1, none⟩ = some (.int .i64 (at0 L k)) := by
      rw [hcell (k - 1) (by omega)]; simp [List.getD, ivs_get, endsOf_get L (k - 1) (by omega), show k - 1 + 1 = k by omega]
    generalize hp : at0 L k = p at *
    clear hcell h hp hq hN
    go_enter Try.func24, Try.ntmps24
    go_wp2
    all_goals
      go_ret
      first
        | exact ⟨⟨_, rfl, Hf.out _ (fun hp => rfl)⟩, rfl⟩
        | (refine ⟨⟨_, rfl, ?_⟩, rfl⟩; have h9 := Hf.out A (fun hp => by rw [at0_zero]; cases A <;> simp [Addr.add]); rw [at0_zero, Nat.sub_zero] at h9; exact h9)
        | (refine ⟨⟨_, rfl, ?_⟩, rfl⟩; have e : q - p = 0 := by omega
           have h9 := Hf.out A (fun hp => by exfalso; have := Hs.out; omega); rw [e] at h9; exact h9)
end Go.Proofs.Ytddogcpakefdpaa
