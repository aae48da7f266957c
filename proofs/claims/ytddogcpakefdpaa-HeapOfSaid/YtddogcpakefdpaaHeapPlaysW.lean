/- HeapPlays: the walk. -/
import Derived.Test.YtddogcpakefdpaaHeapAA
import Derived.Test.YtddogcpakefdpaaHeapU
import Derived.Test.YtddogcpakefdpaaArg
import Derived.Deep.CutBlock
namespace Go.Proofs.Ytddogcpakefdpaa
open Go.RowKit
set_option linter.unusedVariables false
set_option linter.unusedSimpArgs false

/-- Both heaps, apart, from block B on. -/
structure Two (B : Nat) (w : World) (hb : Nat) (cv ev : Value) (L : List (List Int)) (yb : Nat) (lv : Value) (us : List Value) (M : List (List Int)) : Prop where
  p : HeapP w hb cv ev L
  r : HeapR w yb lv us M
  dis : ∀ k, footP hb cv ev k → ¬ footR yb lv us k
  bp : ∀ k, footP hb cv ev k → B ≤ k
  br : ∀ k, footR yb lv us k → B ≤ k
section
variable {B : Nat} {w w' : World} {hb : Nat} {cv ev : Value} {L L' : List (List Int)} {yb : Nat} {lv : Value} {us : List Value} {M M' : List (List Int)}
theorem Two.no (h : Two B w hb cv ev L yb lv us M) (f : Fr nob w w') : Two B w' hb cv ev L yb lv us M :=
  ⟨h.p.fr f (fun _ _ x => x), h.r.fr f (fun _ _ x => x), h.dis, h.bp, h.br⟩
theorem Two.stepP (h : Two B w hb cv ev L yb lv us M) (hB : B ≤ w.heap.size) (n : NextP (footP hb cv ev) w hb L' w') : ∃ cv' ev', Two B w' hb cv' ev' L' yb lv us M := by
  obtain ⟨cv', ev', h1, h2, h3⟩ := n
  refine ⟨cv', ev', h1, h.r.fr h3 (fun k hk hp => h.dis k hp hk), fun k hk hr => ?_, fun k hk => ?_, h.br⟩
  · rcases h2 k hk with e | e
    · exact h.dis k e hr
    · have := h.r.foot_lt k hr; omega
  · rcases h2 k hk with e | e
    · exact h.bp k e
    · omega
theorem Two.stepR (h : Two B w hb cv ev L yb lv us M) (hB : B ≤ w.heap.size) (n : NextR (footR yb lv us) w yb M' w') : ∃ lv' us', Two B w' hb cv ev L yb lv' us' M' := by
  obtain ⟨lv', us', h1, h2, h3⟩ := n
  refine ⟨lv', us', h.p.fr h3 (fun k hk hr => h.dis k hk hr), h1, fun k hk hr => ?_, h.bp, fun k hk => ?_⟩
  · rcases h2 k hr with e | e
    · exact h.dis k hk e
    · have := h.p.foot_lt k hk; omega
  · rcases h2 k hk with e | e
    · exact h.br k e
    · omega
theorem NextP.nob {w0 : World} (h : Two B w hb cv ev L yb lv us M) (f : Fr nob w0 w) (hB : w0.heap.size ≤ B) (n : NextP (footP hb cv ev) w hb L' w') : Fr nob w0 w' := by
  obtain ⟨cv', ev', h1, h2, h3⟩ := n
  exact f.trans h3 (fun _ _ x => x) (fun k hk hp => by have := h.bp k hp; omega)
theorem NextR.nob {w0 : World} (h : Two B w hb cv ev L yb lv us M) (f : Fr nob w0 w) (hB : w0.heap.size ≤ B) (n : NextR (footR yb lv us) w yb M' w') : Fr nob w0 w' := by
  obtain ⟨lv', us', h1, h2, h3⟩ := n
  exact f.trans h3 (fun _ _ x => x) (fun k hk hp => by have := h.br k hp; omega)
/-- What is done to the old heap, behind a clone, is not done to the clone. -/
theorem Two.old {nb : Nat} {nv mv cv1 ev1 : Value} {w1 w2 w3 : World} {L2 : List (List Int)} (h : Two B w hb cv ev L yb lv us M) (f : Fr nob w w1) (hn : HeapP w1 nb nv mv L) (hf : ∀ k, footP nb nv mv k → w.heap.size ≤ k) (hB : B ≤ w.heap.size)
    (a2 : ∀ k, footP hb cv1 ev1 k → footP hb cv ev k ∨ w1.heap.size ≤ k) (a3 : Fr (footP hb cv ev) w1 w2) (n2 : NextP (footP hb cv1 ev1) w2 hb L2 w3) : Two B w3 nb nv mv L yb lv us M ∧ Fr (fun k => B ≤ k) w w3 := by
  obtain ⟨cv2, ev2, b1, b2, b3⟩ := n2
  have hlt := hn.foot_lt
  have hr := h.r.fr f (fun _ _ x => x)
  have hrl := h.r.foot_lt
  have hpl := h.p.foot_lt
  have s1 := f.size
  have s2 := a3.size
  refine ⟨⟨(hn.fr a3 (fun k hk hp => ?_)).fr b3 (fun k hk hp => ?_), (hr.fr a3 (fun k hk hp => h.dis k hp hk)).fr b3 (fun k hk hp => ?_), fun k hk hr' => ?_, fun k hk => ?_, h.br⟩, ?_⟩
  · have := hf k hk; have := hpl k hp; omega
  · have x1 := hf k hk; have x2 := hlt k hk
    rcases a2 k hp with e | e
    · have := hpl k e; omega
    · omega
  · rcases a2 k hp with e | e
    · exact h.dis k e hk
    · have := hrl k hk; omega
  · have := hf k hk; have := hrl k hr'; omega
  · have := hf k hk; omega
  · refine ((f.ofNo (M := fun k => B ≤ k)).trans a3 (fun _ _ x => x) (fun k _ hp => h.bp k hp)).trans b3 (fun _ _ x => x) (fun k hk hp => ?_)
    rcases a2 k hp with e | e
    · exact h.bp k e
    · show B ≤ k
      omega
end

/-- Both heaps, and a block that is neither's. -/
structure Tri (B : Nat) (w0 w : World) (g t : Nat) (cs : Array Value) (hb : Nat) (cv ev : Value) (L : List (List Int)) (yb : Nat) (lv : Value) (us : List Value) (M : List (List Int)) : Prop where
  two : Two B w hb cv ev L yb lv us M
  box : Blk w g t cs
  np : ¬ footP hb cv ev g
  nr : ¬ footR yb lv us g
  hB : B ≤ w.heap.size
  hw : w0.heap.size ≤ B
  fr : Fr nob w0 w
section
variable {B g t : Nat} {cs : Array Value} {w0 w w' : World} {hb : Nat} {cv ev : Value} {L L' : List (List Int)} {yb : Nat} {lv : Value} {us : List Value} {M M' : List (List Int)}
theorem Tri.no (h : Tri B w0 w g t cs hb cv ev L yb lv us M) (f : Fr nob w w') : Tri B w0 w' g t cs hb cv ev L yb lv us M :=
  ⟨h.two.no f, h.box.fr f (fun x => x), h.np, h.nr, Nat.le_trans h.hB f.size, h.hw, h.fr.tr f⟩
theorem Tri.stepP (h : Tri B w0 w g t cs hb cv ev L yb lv us M) (n : NextP (footP hb cv ev) w hb L' w') : ∃ cv' ev', Tri B w0 w' g t cs hb cv' ev' L' yb lv us M := by
  have hf := n.nob h.two h.fr h.hw
  obtain ⟨cv', ev', h1, h2, h3⟩ := n
  have hg := h.box.lt
  refine ⟨cv', ev', ⟨h1, h.two.r.fr h3 (fun k hk hp => h.two.dis k hp hk), fun k hk hr => ?_, fun k hk => ?_, h.two.br⟩, h.box.fr h3 h.np, fun hk => ?_, h.nr, Nat.le_trans h.hB h3.size, h.hw, hf⟩
  · rcases h2 k hk with e | e
    · exact h.two.dis k e hr
    · have := h.two.r.foot_lt k hr; omega
  · have := h.hB
    rcases h2 k hk with e | e
    · exact h.two.bp k e
    · omega
  · rcases h2 g hk with e | e
    · exact h.np e
    · omega
theorem Tri.stepR (h : Tri B w0 w g t cs hb cv ev L yb lv us M) (n : NextR (footR yb lv us) w yb M' w') : ∃ lv' us', Tri B w0 w' g t cs hb cv ev L yb lv' us' M' := by
  have hf := n.nob h.two h.fr h.hw
  obtain ⟨lv', us', h1, h2, h3⟩ := n
  have hg := h.box.lt
  refine ⟨lv', us', ⟨h.two.p.fr h3 (fun k hk hr => h.two.dis k hk hr), h1, fun k hk hr => ?_, h.two.bp, fun k hk => ?_⟩, h.box.fr h3 h.nr, h.np, fun hk => ?_, Nat.le_trans h.hB h3.size, h.hw, hf⟩
  · rcases h2 k hr with e | e
    · exact h.two.dis k hk e
    · have := h.two.p.foot_lt k hk; omega
  · have := h.hB
    rcases h2 k hk with e | e
    · exact h.two.br k e
    · omega
  · rcases h2 g hk with e | e
    · exact h.nr e
    · omega
end

/-- One thing that is done. -/
structure OpM where
  kind : Int
  a : Int
  b : Int
  c : Int
def OpM.cells (o : OpM) : List Value := [.int .u8 o.kind, .int .i64 o.a, .int .i64 o.b, .int .i64 o.c]
theorem cells_at {ops : List OpM} {i : Nat} {o : OpM} (h : ops[i]? = some o) : ∀ j u, o.cells[j]? = some u → (ops.flatMap OpM.cells)[4 * i + j]? = some u := by
  induction ops generalizing i with
  | nil => simp at h
  | cons x xs ih =>
    intro j u hu
    cases i with
    | zero =>
      simp at h; subst h
      rw [List.flatMap_cons, List.getElem?_append_left (by have := (List.getElem?_eq_some_iff.1 hu).1; simpa using this)]
      simpa using hu
    | succ i =>
      have e : 4 * (i + 1) + j = x.cells.length + (4 * i + j) := by simp [OpM.cells]; omega
      rw [List.flatMap_cons, e, List.getElem?_append_right (by omega), Nat.add_sub_cancel_left]
      exact ih (by simpa using h) j u hu
end Go.Proofs.Ytddogcpakefdpaa
