/- Words: two things that are asked for, held against each other. -/
import Derived.Test.YtngnipjfjhackaaDoorWdLn
import Derived.DeepKeys
namespace Go.Proofs.YtngnipjfjhackaaDoor
open Go.RowKit Go.MapKept
set_option linter.unusedVariables false
set_option linter.unusedSimpArgs false
/-- All its parts are such as a run has. -/
structure FitC (c : CmdM) : Prop where
  v : c.verb.size ≤ 2000
  a : c.a.size ≤ 2000
  b : c.b.size ≤ 2000
  s : c.vs.size ≤ 2000
  n : (Lit.int .i64 c.n).wf = true
  t : (Lit.int .i64 c.t).wf = true
  vn : (Lit.int .i64 c.vn).wf = true
def litsC (c : CmdM) : List Lit := [.string c.verb.data.toList, .string c.a.data.toList, .string c.b.data.toList, .int .i64 c.n, .int .i64 c.t, .int .i64 c.vn, .string c.vs.data.toList]
theorem co28 : Tryd.prog.cellsOf 28 = 7 := by kernel_rfl
theorem co26 : Tryd.prog.cellsOf 26 = 3 := by kernel_rfl
theorem co9 : Tryd.prog.cellsOf 9 = 1 := by kernel_rfl
theorem co3 : Tryd.prog.cellsOf 3 = 1 := by kernel_rfl
theorem mx (s : ByteArray) (h : s.size ≤ 2000) : s.size ≤ maxLen := by unfold maxLen; omega
theorem lits_cmd (c : CmdM) (h : FitC c) : Tryd.prog.keyLits 4 28 (cmdC c).toList = some (litsC c) := by
  obtain ⟨a1, a2, a3, a4, a5, a6, a7⟩ := c
  obtain ⟨h1, h2, h3, h4, h5, h6, h7⟩ := h
  dsimp only at h1 h2 h3 h4 h5 h6 h7
  have k1 := mx _ h1
  have k2 := mx _ h2
  have k3 := mx _ h3
  have k4 := mx _ h4
  unfold cmdC litsC
  simp [Program.keyLits, Tryd.underlying28, Tryd.underlying26, Tryd.underlying9, Tryd.underlying3, co28, co26, co9, co3, k1, k2, k3, k4, h5, h6, h7]
  rw [if_pos (fun i x => by rcases (show i = 0 ∨ i = 1 ∨ i = 2 by omega) with rfl | rfl | rfl <;> simp)]
  rfl
theorem equal_cmd (a b : CmdM) (ha : FitC a) (hb : FitC b) (w : World) : (Op.equal 28 (cmdV a) (cmdV b)).run Tryd.prog w = .ok (decide (a = b)) w := by
  obtain ⟨r, hr, hi⟩ := run_equalIn_deep (P := Tryd.prog) (10000 - 4) 4 28 (by kernel_rfl) w 4 4 (cmdV a) (cmdV b) (litsC a) (litsC b) (by unfold Value.formed cmdV; simp [Tryd.underlying28, co28, cmdC]) (by unfold Value.formed cmdV; simp [Tryd.underlying28, co28, cmdC]) (by have := lits_cmd a ha; simpa [cmdV, Value.cells] using this) (by have := lits_cmd b hb; simpa [cmdV, Value.cells] using this)
  have e : (Op.equal 28 (cmdV a) (cmdV b)).run Tryd.prog w = .ok r w := by
    rw [show 10000 - 4 + 4 = 10000 by omega] at hr
    unfold Op.equal
    exact hr
  have hx : litsC a = litsC b ↔ a = b := by
    obtain ⟨a1, a2, a3, a4, a5, a6, a7⟩ := a
    obtain ⟨b1, b2, b3, b4, b5, b6, b7⟩ := b
    have hd : ∀ x y : ByteArray, x.data.toList = y.data.toList → x = y := fun x y h => by obtain ⟨⟨x⟩⟩ := x; obtain ⟨⟨y⟩⟩ := y; simpa using h
    constructor
    · intro h
      unfold litsC at h
      simp only [List.cons.injEq, Lit.string.injEq, Lit.int.injEq, true_and, and_true] at h
      obtain ⟨e1, e2, e3, e4, e5, e6, e7⟩ := h
      rw [hd _ _ e1, hd _ _ e2, hd _ _ e3, e4, e5, e6, hd _ _ e7]
    · intro h; rw [h]
  have er : r = decide (a = b) := by
    by_cases he : a = b
    · rw [decide_eq_true he]; exact hi.2 (hx.2 he)
    · rw [decide_eq_false he]
      cases r
      · rfl
      · exact absurd (hx.1 (hi.1 rfl)) he
  rw [e, er]
theorem neq_cmd (a b : CmdM) (ha : FitC a) (hb : FitC b) (w : World) : (binOp BinOp.neq 28 (cmdV a) (cmdV b)).run Tryd.prog w = .ok (.bool (!decide (a = b))) w := by
  have := equal_cmd a b ha hb w
  simp [binOp, cmdV, cmdC, go_sem] at this ⊢
  rw [this]
  rfl
theorem eql_cmd (a b : CmdM) (ha : FitC a) (hb : FitC b) (w : World) : (binOp BinOp.eql 28 (cmdV a) (cmdV b)).run Tryd.prog w = .ok (.bool (decide (a = b))) w := by
  have := equal_cmd a b ha hb w
  simp [binOp, cmdV, cmdC, go_sem] at this ⊢
  rw [this]
  rfl
end Go.Proofs.YtngnipjfjhackaaDoor
