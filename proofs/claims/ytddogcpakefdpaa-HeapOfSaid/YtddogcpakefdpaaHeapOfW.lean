/- HeapOf: rows that are overwritten; two heaps made alike. -/
import Derived.Test.YtddogcpakefdpaaHeapOwnW
import Derived.Test.YtddogcpakefdpaaHeapPlaysW
namespace Go.Proofs.Ytddogcpakefdpaa
open Go.RowKit
set_option linter.unusedVariables false
set_option linter.unusedSimpArgs false

theorem map_len_get {L M : List (List Int)} (h : L.map List.length = M.map List.length) {k : Nat} {l : List Int} (hk : M[k]? = some l) : ∃ l', L[k]? = some l' ∧ l'.length = l.length := by
  have e := congrArg (fun x => x[k]?) h
  simp only [List.getElem?_map, hk, Option.map_some] at e
  cases h2 : L[k]? with
  | none => rw [h2] at e; simp at e
  | some l' => rw [h2] at e; simp at e; exact ⟨l', rfl, e⟩
theorem map_len_len {L M : List (List Int)} (h : L.map List.length = M.map List.length) : L.length = M.length := by
  have e := congrArg List.length h; simpa using e
theorem zip_len (gx y : Nat) (n : Int) : ∀ (L : List (List Int)) (us : List Value), us.length = L.length →
    (List.zipWith (fun (l : List Int) (u : Value) => if blk u = some gx then l.set y n else l) L us).map List.length = L.map List.length
  | [], us, _ => by simp
  | l :: L, [], h => by simp at h
  | l :: L, u :: us, h => by
    simp only [List.zipWith_cons_cons, List.map_cons]
    rw [zip_len gx y n L us (by simpa using h)]
    congr 1
    split <;> simp

/-- A store into some row: rows of the same lengths are left. -/
theorem NewRows.spoil {base : Nat} {w : World} {v : Value} {us : List Value} {L : List (List Int)} (h : NewRows base w v us L) {gx y k : Nat} {u : Value} {l : List Int} (hl : L[k]? = some l) (hu : us[k]? = some u) (hg : blk u = some gx) (n : Int) :
    ∃ L3, L3.map List.length = L.map List.length ∧ NewRows base (w.setCell ⟨gx, y, none⟩ (.int .i64 n)) v us L3 := by
  have hlen := h.len
  obtain ⟨hk, hkn⟩ := h.row k l u hl hu
  have e := zip_len gx y n L us hlen
  refine ⟨_, e, ?_, h.new, fun j m x hm hx => ?_⟩
  · rw [map_len_len e]
    exact h.own.far (fun e => h.own.blk_ne' hk (by decide) hg e) _
  · rw [List.getElem?_zipWith, hx] at hm
    cases hj : L[j]? with
    | none => rw [hj] at hm; simp at hm
    | some lj =>
      rw [hj] at hm
      simp at hm
      obtain ⟨h1, h2⟩ := h.row j lj x hj hx
      refine ⟨?_, h2⟩
      subst hm
      split
      · rename_i hb
        rw [List.length_set, ivs_set]
        exact h1.store hb _ _
      · rename_i hb
        exact h1.far (fun e => hb e) _

section
variable {B : Nat} {w w' : World} {hb : Nat} {cv ev : Value} {L L' : List (List Int)} {yb : Nat} {lv : Value} {us : List Value} {M M' : List (List Int)}
theorem Two.fr {Q : Nat → Prop} (h : Two B w hb cv ev L yb lv us M) (f : Fr Q w w') (h1 : ∀ k, footP hb cv ev k → ¬ Q k) (h2 : ∀ k, footR yb lv us k → ¬ Q k) : Two B w' hb cv ev L yb lv us M :=
  ⟨h.p.fr f (fun k a b => h1 k a b), h.r.fr f (fun k a b => h2 k a b), h.dis, h.bp, h.br⟩
theorem NextR.fr (n : NextR (footR yb lv us) w yb M' w') : Fr (footR yb lv us) w w' := by
  obtain ⟨_, _, _, _, h⟩ := n; exact h
theorem Two.mk2 {w0 : World} (hp : HeapP w0 hb cv ev L) (hp2 : ∀ k, footP hb cv ev k → B ≤ k) (hle : B ≤ w0.heap.size) (f : Fr nob w0 w) (hr : HeapR w yb lv us M) (hr2 : ∀ k, footR yb lv us k → w0.heap.size ≤ k) : Two B w hb cv ev L yb lv us M :=
  ⟨hp.fr f (fun _ _ x => x), hr, fun k h1 h2 => by have := hp.foot_lt k h1; have := hr2 k h2; omega, hp2, fun k hk => Nat.le_trans hle (hr2 k hk)⟩
end
end Go.Proofs.Ytddogcpakefdpaa
