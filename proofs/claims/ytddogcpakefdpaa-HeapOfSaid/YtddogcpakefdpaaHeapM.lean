/- The plain lists that both heaps stand for, and what is done with them: no program is named here. -/
import Derived.Test.YtddogcpakefdpaaMem
namespace Go.Proofs.Ytddogcpakefdpaa
set_option linter.unusedVariables false
set_option linter.unusedSimpArgs false

/-- How many numbers stand ahead of list k. -/
def at0 (L : List (List Int)) (k : Nat) : Nat := (L.take k).flatten.length
def endsOf (L : List (List Int)) : List Int := (List.range L.length).map fun i => (at0 L (i + 1) : Int)
def cellsN (L : List (List Int)) : Nat := L.length + L.flatten.length

theorem at0_zero (L : List (List Int)) : at0 L 0 = 0 := by simp [at0]
theorem at0_succ (L : List (List Int)) (k : Nat) (h : k < L.length) : at0 L (k + 1) = at0 L k + L[k].length := by
  unfold at0; rw [List.take_succ_eq_append_getElem h, List.flatten_append, List.length_append]; simp
theorem flat_split (L : List (List Int)) (k : Nat) : L.flatten = (L.take k).flatten ++ (L.drop k).flatten := by
  rw [← List.flatten_append, List.take_append_drop]
theorem at0_le (L : List (List Int)) (k : Nat) : at0 L k ≤ L.flatten.length := by
  rw [flat_split L k, List.length_append]; unfold at0; omega
theorem at0_all (L : List (List Int)) : at0 L L.length = L.flatten.length := by simp [at0]
theorem endsOf_length (L : List (List Int)) : (endsOf L).length = L.length := by simp [endsOf]
theorem endsOf_get (L : List (List Int)) (k : Nat) (h : k < L.length) : (endsOf L)[k]? = some (at0 L (k + 1) : Int) := by
  simp [endsOf, h]
theorem at0_append (L : List (List Int)) (x : List Int) (k : Nat) (h : k ≤ L.length) : at0 (L ++ [x]) k = at0 L k := by
  unfold at0; rw [List.take_append_of_le_length h]
theorem endsOf_append (L : List (List Int)) (x : List Int) : endsOf (L ++ [x]) = endsOf L ++ [((L.flatten.length + x.length : Nat) : Int)] := by
  unfold endsOf
  rw [List.length_append, List.length_singleton, List.range_succ, List.map_append]
  congr 1
  · apply List.map_congr_left
    intro i hi
    rw [at0_append _ _ _ (by simp at hi; omega)]
  · simp only [at0, List.map_cons, List.map_nil]
    rw [List.take_of_length_le (by simp), List.flatten_append, List.length_append]; simp
theorem flat_get (L : List (List Int)) (k j : Nat) (h : k < L.length) (hj : j < L[k].length) : L.flatten[at0 L k + j]? = some L[k][j] := by
  have e : L.flatten = (L.take k).flatten ++ (L[k] ++ (L.drop (k + 1)).flatten) := by
    rw [flat_split L k, List.drop_eq_getElem_cons h, List.flatten_cons]
  rw [e]
  unfold at0
  rw [List.getElem?_append_right (by omega), Nat.add_sub_cancel_left, List.getElem?_append_left hj, List.getElem?_eq_getElem hj]
theorem at0_set (L : List (List Int)) (k : Nat) (x : List Int) (h : k < L.length) (hx : x.length = L[k].length) (i : Nat) : at0 (L.set k x) i = at0 L i := by
  unfold at0
  rw [List.length_flatten, List.length_flatten, List.map_take, List.map_take, List.map_set]
  congr 2
  apply List.ext_getElem (by simp)
  intro j h1 h2
  rw [List.getElem_set]
  split
  · subst_vars; simp [hx]
  · rfl
theorem flat_set (L : List (List Int)) (k j : Nat) (n : Int) (h : k < L.length) (hj : j < L[k].length) : (L.set k (L[k].set j n)).flatten = L.flatten.set (at0 L k + j) n := by
  have e : L = L.take k ++ (L[k] :: L.drop (k + 1)) := by rw [← List.drop_eq_getElem_cons h, List.take_append_drop]
  have e1 : L.set k (L[k].set j n) = L.take k ++ (L[k].set j n :: L.drop (k + 1)) := by
    rw [List.set_eq_take_append_cons_drop, if_pos h]
  have e2 : L.flatten = (L.take k).flatten ++ (L[k] ++ (L.drop (k + 1)).flatten) := by
    rw [flat_split L k, List.drop_eq_getElem_cons h, List.flatten_cons]
  rw [e1, e2]
  unfold at0
  rw [List.flatten_append, List.flatten_cons, List.set_append_right _ _ (by omega), Nat.add_sub_cancel_left, List.set_append_left _ _ hj]
theorem endsOf_set (L : List (List Int)) (k : Nat) (x : List Int) (h : k < L.length) (hx : x.length = L[k].length) : endsOf (L.set k x) = endsOf L := by
  unfold endsOf
  rw [List.length_set]
  apply List.map_congr_left
  intro i _
  rw [at0_set L k x h hx]

/-- What Make comes to. -/
def mkL (L : List (List Int)) (n : Int) : List (List Int) := if 0 ≤ n ∧ n ≤ 16 ∧ (cellsN L : Int) + n + 1 ≤ 40 then L ++ [List.replicate n.toNat 0] else L
def mkA (L : List (List Int)) (n : Int) : Int := if 0 ≤ n ∧ n ≤ 16 ∧ (cellsN L : Int) + n + 1 ≤ 40 then L.length + 1 else 0
def mkT (L : List (List Int)) (n : Int) : Int := if n < 0 ∨ 16 < n then 7 else if (cellsN L : Int) + n + 1 ≤ 40 then 0 else 4
/-- Is there such a place? -/
def thereB (L : List (List Int)) (a i : Int) : Bool := decide (1 ≤ a ∧ a ≤ L.length ∧ 0 ≤ i ∧ i < ((L.getD (a.toNat - 1) []).length : Int))
def getN (L : List (List Int)) (a i : Int) : Int := if thereB L a i then (L.getD (a.toNat - 1) []).getD i.toNat 0 else 0
def trapN (L : List (List Int)) (a i : Int) : Int := if thereB L a i then 0 else 2
def putL (L : List (List Int)) (a i n : Int) : List (List Int) := if thereB L a i then L.set (a.toNat - 1) ((L.getD (a.toNat - 1) []).set i.toNat n) else L
def lenN (L : List (List Int)) (a : Int) : Nat := if 1 ≤ a ∧ a ≤ L.length then (L.getD (a.toNat - 1) []).length else 0
end Go.Proofs.Ytddogcpakefdpaa
