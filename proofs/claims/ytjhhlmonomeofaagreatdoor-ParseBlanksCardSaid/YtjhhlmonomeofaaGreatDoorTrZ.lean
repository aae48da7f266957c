/- Back: two trees in memory, whose lines are struck. -/
import Derived.Test.YtjhhlmonomeofaaGreatDoorQA7
namespace Go.Proofs.YtjhhlmonomeofaaGreatDoor
open Go.RowKit
set_option linter.unusedVariables false
set_option linter.unusedSimpArgs false
structure ZZ (w0 : World) (B C : Nat) (NV FV NU FU : Value) (lvs pvs lvs2 pvs2 : List Value) (ns us : List NodeM) (fs gs : List FuncM) (w : World) : Prop where
  t : TB B NV FV lvs pvs ns fs w
  u : TB C NU FU lvs2 pvs2 us gs w
  fr : Fr nob w0 w
  dn : ∀ k, blk NV = some k → blk NU ≠ some k
  df : ∀ k, blk FV = some k → blk FU ≠ some k
  n1 : ∀ k, blk NV = some k → w0.heap.size ≤ k
  n2 : ∀ k, blk NU = some k → w0.heap.size ≤ k
  n3 : ∀ k, blk FV = some k → w0.heap.size ≤ k
  n4 : ∀ k, blk FU = some k → w0.heap.size ≤ k
section
variable {w0 : World} {B C : Nat} {NV FV NU FU : Value} {lvs pvs lvs2 pvs2 : List Value} {ns us : List NodeM} {fs gs : List FuncM} {w w' : World}
theorem ZZ.swap (h : ZZ w0 B C NV FV NU FU lvs pvs lvs2 pvs2 ns us fs gs w) : ZZ w0 C B NU FU NV FV lvs2 pvs2 lvs pvs us ns gs fs w :=
  ⟨h.u, h.t, h.fr, fun k h1 h2 => h.dn k h2 h1, fun k h1 h2 => h.df k h2 h1, h.n2, h.n1, h.n4, h.n3⟩
theorem ZZ.no (h : ZZ w0 B C NV FV NU FU lvs pvs lvs2 pvs2 ns us fs gs w) (f : Fr nob w w') : ZZ w0 B C NV FV NU FU lvs pvs lvs2 pvs2 ns us fs gs w' :=
  ⟨h.t.no f, h.u.no f, h.fr.tr f, h.dn, h.df, h.n1, h.n2, h.n3, h.n4⟩
theorem ZZ.tn {A : Option Addr} {n c j : Nat} {nd : NodeM} (h : ZZ w0 B C (.slice A n c) FV NU FU lvs pvs lvs2 pvs2 (zp zeroN j ns) us fs gs w) (hx : ns[j]? = some nd) :
    ∃ nb, A = some ⟨nb, 0, none⟩ ∧ w.cell? ⟨nb, j * 5 + 1, none⟩ = some (.int .i64 nd.line) ∧ w.frozen? ⟨nb, j * 5 + 1, none⟩ = false ∧ ZZ w0 B C (.slice A n c) FV NU FU lvs pvs lvs2 pvs2 (zp zeroN (j + 1) ns) us fs gs (w.setCell ⟨nb, j * 5 + 1, none⟩ (.int .i64 0)) := by
  have hx2 : (zp zeroN j ns)[j]? = some nd := by rw [zp_get]; exact hx
  have hlt := (List.getElem?_eq_some_iff.1 hx2).1
  obtain ⟨nb, c', lv, e, _, _, _, x1, _⟩ := h.t.tree.node hx2
  injection e with e1 e2 e3
  subst e1
  subst e2
  obtain ⟨⟨cs, hg⟩, hbk⟩ := own_blk h.t.tree.nodes (by omega)
  refine ⟨nb, rfl, x1, hg.frozen _, ?_⟩
  have h1 := h.t.nline hx2
  rw [← zp_set zeroN j ns nd hx] at h1
  exact ⟨h1, h.u.far hg (.inl rfl) (h.dn nb hbk) (h.u.tree.fns.blk_ne hg (by decide)) _, h.fr.setCell _ _ (fun hl => absurd (h.n1 nb hbk) (by show ¬ w0.heap.size ≤ nb; exact Nat.not_le_of_lt hl)), h.dn, h.df, h.n1, h.n2, h.n3, h.n4⟩
theorem ZZ.tf {A : Option Addr} {n c j : Nat} {f : FuncM} (h : ZZ w0 B C NV (.slice A n c) NU FU lvs pvs lvs2 pvs2 ns us (zp zeroF j fs) gs w) (hx : fs[j]? = some f) :
    ∃ fb, A = some ⟨fb, 0, none⟩ ∧ w.cell? ⟨fb, j * 5 + 1, none⟩ = some (.int .i64 f.line) ∧ w.frozen? ⟨fb, j * 5 + 1, none⟩ = false ∧ ZZ w0 B C NV (.slice A n c) NU FU lvs pvs lvs2 pvs2 ns us (zp zeroF (j + 1) fs) gs (w.setCell ⟨fb, j * 5 + 1, none⟩ (.int .i64 0)) := by
  have hx2 : (zp zeroF j fs)[j]? = some f := by rw [zp_get]; exact hx
  have hlt := (List.getElem?_eq_some_iff.1 hx2).1
  obtain ⟨A', c', e, _, _⟩ := h.t.tree.fns.cap
  injection e with e1 e2 e3
  subst e2
  obtain ⟨fb, e0, _⟩ := h.t.tree.fns.some (by omega)
  subst e0
  obtain ⟨⟨cs, hg⟩, hbk⟩ := own_blk h.t.tree.fns (by omega)
  obtain ⟨pv, _, x0, x1, _⟩ := h.t.tree.fn hx2
  refine ⟨fb, rfl, x1, hg.frozen _, ?_⟩
  have h1 := h.t.fline hx2
  rw [← zp_set zeroF j fs f hx] at h1
  exact ⟨h1, h.u.far hg (.inr rfl) (h.u.tree.nodes.blk_ne hg (by decide)) (h.df fb hbk) _, h.fr.setCell _ _ (fun hl => absurd (h.n3 fb hbk) (by show ¬ w0.heap.size ≤ fb; exact Nat.not_le_of_lt hl)), h.dn, h.df, h.n1, h.n2, h.n3, h.n4⟩
theorem ZZ.un {A : Option Addr} {n c j : Nat} {nd : NodeM} (h : ZZ w0 B C NV FV (.slice A n c) FU lvs pvs lvs2 pvs2 ns (zp zeroN j us) fs gs w) (hx : us[j]? = some nd) :
    ∃ nb, A = some ⟨nb, 0, none⟩ ∧ w.cell? ⟨nb, j * 5 + 1, none⟩ = some (.int .i64 nd.line) ∧ w.frozen? ⟨nb, j * 5 + 1, none⟩ = false ∧ ZZ w0 B C NV FV (.slice A n c) FU lvs pvs lvs2 pvs2 ns (zp zeroN (j + 1) us) fs gs (w.setCell ⟨nb, j * 5 + 1, none⟩ (.int .i64 0)) := by
  obtain ⟨nb, a, b, c, d⟩ := h.swap.tn hx
  exact ⟨nb, a, b, c, d.swap⟩
theorem ZZ.uf {A : Option Addr} {n c j : Nat} {f : FuncM} (h : ZZ w0 B C NV FV NU (.slice A n c) lvs pvs lvs2 pvs2 ns us fs (zp zeroF j gs) w) (hx : gs[j]? = some f) :
    ∃ fb, A = some ⟨fb, 0, none⟩ ∧ w.cell? ⟨fb, j * 5 + 1, none⟩ = some (.int .i64 f.line) ∧ w.frozen? ⟨fb, j * 5 + 1, none⟩ = false ∧ ZZ w0 B C NV FV NU (.slice A n c) lvs pvs lvs2 pvs2 ns us fs (zp zeroF (j + 1) gs) (w.setCell ⟨fb, j * 5 + 1, none⟩ (.int .i64 0)) := by
  obtain ⟨nb, a, b, c, d⟩ := h.swap.tf hx
  exact ⟨nb, a, b, c, d.swap⟩
end
end Go.Proofs.YtjhhlmonomeofaaGreatDoor
