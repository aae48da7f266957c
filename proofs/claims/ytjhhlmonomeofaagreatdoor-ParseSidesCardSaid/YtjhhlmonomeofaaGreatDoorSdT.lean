/- ParseSides: the table of two signs. -/
import Derived.Test.YtjhhlmonomeofaaGreatDoorQA7
namespace Go.Proofs.YtjhhlmonomeofaaGreatDoor
open Go.RowKit
set_option linter.unusedVariables false
set_option linter.unusedSimpArgs false
def sgL : List (List UInt8) := [[124, 124], [38, 38], [60], [60, 61], [61, 61], [33, 61], [43], [45], [42], [47], [37]]
def lvL : List Nat := [0, 1, 2, 2, 2, 2, 3, 3, 4, 4, 4]
def sg (i : Nat) : List UInt8 := sgL.getD i []
def lvS (i : Nat) : Nat := lvL.getD i 0
def sdSrc (x y : List UInt8) : List UInt8 := [102, 110, 32, 109, 97, 105, 110, 40, 41, 123, 112, 114, 105, 110, 116, 32, 97] ++ x ++ [98] ++ y ++ [99, 59, 125]
/-- What hangs on the fifth node. -/
def sdTop (ns : List NodeM) (t a b : List UInt8) : Bool :=
  match ns[4]? with
  | some n => n.name == t && (match n.l with
    | [x, y] => (match ns[x]?, ns[y]? with
      | some p, some q => p.name == a && q.name == b
      | _, _ => false)
    | _ => false)
  | none => false
def sdChk (i k : Nat) : Option ParseR → Bool
  | some (.good ns _) => !(lvS i == 2 && lvS k == 2) && ns.length == 7 && (if lvS k ≤ lvS i then sdTop ns (sg k) (sg i) [99] else sdTop ns (sg i) [97] (sg k))
  | some (.bad _ e) => lvS i == 2 && lvS k == 2 && e == 20
  | none => false
set_option maxRecDepth 100000 in
theorem sd_table : ((List.range 11).all fun i => (List.range 11).all fun k => sdChk i k (parseM (sdSrc (sg i) (sg k)))) = true := by kernel_rfl
theorem sd_at {i k : Nat} (hi : i < 11) (hk : k < 11) : sdChk i k (parseM (sdSrc (sg i) (sg k))) = true := by
  have h := List.all_eq_true.1 sd_table i (List.mem_range.2 hi)
  exact List.all_eq_true.1 h k (List.mem_range.2 hk)
theorem sdTop_some {ns : List NodeM} {t a b : List UInt8} (h : sdTop ns t a b = true) : ∃ n x y p q, ns[4]? = some n ∧ n.name = t ∧ n.l = [x, y] ∧ ns[x]? = some p ∧ ns[y]? = some q ∧ p.name = a ∧ q.name = b := by
  unfold sdTop at h
  split at h
  · rename_i n hn
    rw [Bool.and_eq_true] at h
    obtain ⟨h1, h2⟩ := h
    split at h2
    · rename_i x y hl
      split at h2
      · rename_i p q hp hq
        rw [Bool.and_eq_true] at h2
        exact ⟨n, x, y, p, q, hn, by simpa using h1, hl, hp, hq, by simpa using h2.1, by simpa using h2.2⟩
      · cases h2
    · cases h2
  · cases h
end Go.Proofs.YtjhhlmonomeofaaGreatDoor
