/- The document's checker: Source. -/
import Derived.Test.YtlbjicjinnnboaaDoorMK1
set_option linter.unusedVariables false
set_option linter.unusedSimpArgs false
namespace Go.Proofs.YtlbjicjinnnboaaDoor
open Go.RowKit
open Pw
def SourceAt (w : World) (en : Ending) : SourceR → Prop
 | .bad p e => en = .returned (.tuple #[noneP, .int .i64 (p : Nat), .int .i64 (e : Nat)]) ∧ e ≠ 0
 | .good p => ∃ nv fv tv sv uv zv lvs pvs, en = .returned (.tuple #[.agg #[nv, fv, tv, sv, uv, zv], .int .i64 0, .int .i64 0]) ∧ ProgAt w nv fv tv sv uv zv lvs pvs p
theorem SourceAt.no {w w' : World} {en : Ending} {r : SourceR} (h : SourceAt w en r) (f : Fr nob w w') : SourceAt w' en r := by
 cases r with
 | bad p e => exact h
 | good p =>
  obtain ⟨nv, fv, tv, sv, uv, zv, lvs, pvs, he, hp⟩ := h
  exact ⟨nv, fv, tv, sv, uv, zv, lvs, pvs, he, hp.no f⟩
theorem Blk.sixth {w : World} {T t : Nat} {a b c d e f : Value} (h : Blk w T t #[a, b, c, d, e, f]) :
  w.cell? ⟨T, 0, none⟩ = some a ∧ w.cell? ⟨T, 1, none⟩ = some b ∧ w.cell? ⟨T, 2, none⟩ = some c ∧ w.cell? ⟨T, 3, none⟩ = some d ∧ w.cell? ⟨T, 4, none⟩ = some e ∧ w.cell? ⟨T, 5, none⟩ = some f ∧
  w.frozen? ⟨T, 0, none⟩ = false ∧ w.frozen? ⟨T, 1, none⟩ = false ∧ w.frozen? ⟨T, 2, none⟩ = false ∧ w.frozen? ⟨T, 3, none⟩ = false ∧ w.frozen? ⟨T, 4, none⟩ = false ∧ w.frozen? ⟨T, 5, none⟩ = false :=
 ⟨(h.cell 0).trans rfl, (h.cell 1).trans rfl, (h.cell 2).trans rfl, (h.cell 3).trans rfl, (h.cell 4).trans rfl, (h.cell 5).trans rfl, h.frozen 0, h.frozen 1, h.frozen 2, h.frozen 3, h.frozen 4, h.frozen 5⟩
theorem Blk.sixSet {w : World} {T t : Nat} {a b c d e f a' b' c' d' e' f' : Value} (h : Blk w T t #[a, b, c, d, e, f]) :
   Blk ((((((w.setCell ⟨T, 0, none⟩ a').setCell ⟨T, 1, none⟩ b').setCell ⟨T, 2, none⟩ c').setCell ⟨T, 3, none⟩ d').setCell ⟨T, 4, none⟩ e').setCell ⟨T, 5, none⟩ f') T t #[a', b', c', d', e', f'] :=
 (((((h.setCell 0 a').setCell 1 b').setCell 2 c').setCell 3 d').setCell 4 e').setCell 5 f'
def SrcAny : Prop := ∀ (src : ByteArray) (w : World) (hs : src.size ≤ 281474976710656) {r : SourceR} (hr : sourceM src.data.toList = some r),
 Calls Tryd.prog 5 #[.string src] w fun en w' => SourceAt w' en r ∧ Fr nob w w'
end Go.Proofs.YtlbjicjinnnboaaDoor
