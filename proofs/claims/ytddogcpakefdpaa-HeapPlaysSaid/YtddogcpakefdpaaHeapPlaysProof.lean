/-
  HeapPlays: for every list of things that are done the call returns true, and its argument reads as it read before.
  Condition: none; every value of the parameter's type.
-/
import Derived.Test.YtddogcpakefdpaaHeapPlaysX
import Derived.Deep.Slices
namespace Go.Proofs.Ytddogcpakefdpaa.heapPlays
open Go.ChangeShapes Go.WideShapes Go.ChangeAt Go.RowKit Go.Deep
set_option linter.unusedVariables false
set_option linter.unusedSimpArgs false

section
variable {H : Type} {enc : TypeId × Value → H} {P : Program} {w : World} {base : Nat} {held : Bool}
theorem opOf {n : Nat} {e : TypeId} {f0 f1 f2 f3 : Field} (he : P.underlying e = some (.struct #[f0, f1, f2, f3])) (h0 : P.underlying f0.type = some (.int .u8)) (h1 : P.underlying f1.type = some (.int .i64)) (h2 : P.underlying f2.type = some (.int .i64)) (h3 : P.underlying f3.type = some (.int .i64))
    (o0 : f0.offset = 0) (o1 : f1.offset = 1) (o2 : f2.offset = 2) (o3 : f3.offset = 3) (k0 : P.cellsOf f0.type = 1) (k1 : P.cellsOf f1.type = 1) (k2 : P.cellsOf f2.type = 1) (k3 : P.cellsOf f3.type = 1) (hC : P.cellsOf e = 4)
    {cs : List Value} {x : DataW H × List MemPlace} (h : DataW.trod enc P w base (fun _ => true) held n e cs = some x) : ∃ o : OpM, cs = o.cells ∧ 0 ≤ o.kind ∧ o.kind ≤ 255 := by
  obtain ⟨xs, m, _, _, hl, hlen, hg⟩ := DataW.trod_struct he h
  rw [hC] at hl
  match cs, hl, xs, hlen with
  | [c0, c1, c2, c3], _, [y0, y1, y2, y3], _ =>
    have g0 := hg 0 f0 rfl
    have g1 := hg 1 f1 rfl
    have g2 := hg 2 f2 rfl
    have g3 := hg 3 f3 rfl
    simp [o0, o1, o2, o3, k0, k1, k2, k3] at g0 g1 g2 g3
    obtain ⟨a0, e0, _, w0⟩ := DataW.trod_int h0 g0
    obtain ⟨a1, e1, _, w1⟩ := DataW.trod_int h1 g1
    obtain ⟨a2, e2, _, w2⟩ := DataW.trod_int h2 g2
    obtain ⟨a3, e3, _, w3⟩ := DataW.trod_int h3 g3
    simp at e0 e1 e2 e3
    subst e0; subst e1; subst e2; subst e3
    exact ⟨⟨a0, a1, a2, a3⟩, rfl, (u8_bounds w0).1, (u8_bounds w0).2⟩
end

theorem arg_ops {H : Type} {enc : TypeId × Value → H} {w : World} {base : Nat} {held : Bool} {r : Reach} {b0 : Nat} {v : Value} {d : DataW H} {p : List MemPlace} (hv : Value.okWide Try.prog w r b0 37 v) (h : DataW.Trod enc Try.prog w base (fun _ => true) held 37 v d p) :
    ∃ (A : Option Addr) (n c : Nat) (ops : List OpM), v = .slice A n c ∧ Rd w 4 (.slice A n c) n (ops.flatMap OpM.cells) ∧ (∀ o ∈ ops, 0 ≤ o.kind ∧ o.kind ≤ 255) ∧ ops.length = n := by
  obtain ⟨a, len, cap, rfl⟩ := okWide_slice Try.underlying37 hv
  obtain ⟨fuel, hf⟩ := h
  have hC : Try.prog.cellsOf 42 = 4 := by kernel_rfl
  rcases open_slice Try.underlying37 hf with ⟨hcs, _⟩ | ⟨x, l, c, m, n, D, Pl, hcs, _, hl, hm, hmm, _, hi⟩
  · simp [Value.cells] at hcs
    obtain ⟨rfl, rfl, rfl⟩ := hcs
    exact ⟨none, 0, 0, [], rfl, Rd.nil _ _ _, by simp, rfl⟩
  · simp [Value.cells] at hcs
    obtain ⟨rfl, rfl, rfl⟩ := hcs
    simp only [if_true] at hmm
    subst hmm
    rw [hC] at hi
    have hi' : ∀ i, ∃ o : OpM, i < len → (∀ j, j < 4 → w.cell? (x.add (i * 4) |>.add j) = o.cells[j]?) ∧ 0 ≤ o.kind ∧ o.kind ≤ 255 := by
      intro i
      by_cases hlt : i < len
      · obtain ⟨cs', hc, ht⟩ := hi i (by omega)
        obtain ⟨_, hcl, hat⟩ := World.cells?_some hc
        obtain ⟨o, rfl, b1, b2⟩ := opOf Try.underlying42 Try.underlying5 Try.underlying3 Try.underlying3 Try.underlying3 rfl rfl rfl rfl (by kernel_rfl) (by kernel_rfl) (by kernel_rfl) (by kernel_rfl) hC ht
        exact ⟨o, fun _ => ⟨hat, b1, b2⟩⟩
      · exact ⟨⟨0, 0, 0, 0⟩, fun h => absurd h hlt⟩
    obtain ⟨f, hf⟩ := Classical.axiomOfChoice hi'
    have hlenf : ∀ k : Nat, (((List.range k).map f).flatMap OpM.cells).length = k * 4 := by
      intro k
      induction k with
      | zero => rfl
      | succ k ih => rw [List.range_succ, List.map_append, List.flatMap_append, List.length_append, ih]; simp [OpM.cells]; omega
    refine ⟨some x, len, m, (List.range len).map f, rfl, ⟨hlenf len, _, m, rfl, hl, hm, fun hn => ⟨x, rfl, ?_, ?_⟩⟩, ?_, by simp⟩
    · have h0 := (hf 0 hn).1 0 (by omega)
      have : w.cell? (x.add 0 |>.add 0) = some (.int .u8 (f 0).kind) := by simpa [OpM.cells] using h0
      simpa [Addr.add] using World.cell?_spot this
    · have hsp : x.spot = none := by
        have h0 := (hf 0 hn).1 0 (by omega)
        have : w.cell? (x.add 0 |>.add 0) = some (.int .u8 (f 0).kind) := by simpa [OpM.cells] using h0
        simpa [Addr.add] using World.cell?_spot this
      intro j u hu
      have hj : j < len * 4 := by
        have := (List.getElem?_eq_some_iff.1 hu).1; rw [hlenf] at this; exact this
      have hq : j / 4 < len := by omega
      have h1 := (hf (j / 4) hq).1 (j % 4) (by omega)
      have hg : ((List.range len).map f)[j / 4]? = some (f (j / 4)) := by simp [hq]
      have hcell : (f (j / 4)).cells[j % 4]? = some ((f (j / 4)).cells[j % 4]'(by simp [OpM.cells]; omega)) := List.getElem?_eq_getElem _
      have h2 := cells_at hg (j % 4) _ hcell
      rw [show 4 * (j / 4) + j % 4 = j by omega] at h2
      rw [hu] at h2
      rw [add_of x hsp, add_mk, hcell, ← h2] at h1
      rw [← h1]
      congr 2
      omega
    · intro o ho
      obtain ⟨i, hi2, rfl⟩ := List.mem_map.1 ho
      exact (hf i (by simpa using hi2)).2

theorem own : ownKnob Try.prog.godebug = none := by kernel_rfl
theorem laidOut : laidOutB Try.prog = true := by kernel_rfl

set_option maxRecDepth 100000 in
theorem lifted (os : Os) (started : os.Started) (H : Type) (enc : TypeId × Value → H) :
    ReturnsInHanded {} Try.checked os 5 .any (Rows.heapPlaysSpec.pre6 enc Try.prog Try.f5 Rows.heapPlaysRow.domain false) (Rows.heapPlaysSpec.post enc Try.prog Try.f5 false true false false) := by
  refine returnsInHanded_of_change (C := Try.checked) own started (by kernel_rfl) Try.func5
    (ChangeSpec.witness6 (enc := enc) (C := Try.checked) false ⟨#[], #[.slice none 0 0], []⟩ 8 (by kernel_rfl) (by kernel_rfl) (by kernel_rfl) (by kernel_rfl)) ?_
  intro W base args ds gs before hval0 hW hcnd _
  have hval : ∀ (j : Nat) t v, Try.f5.params[j]? = some t → args[j]? = some v → Value.okWide Try.prog W .any base t v := hval0
  have hW' := hW
  obtain ⟨p, q, hA0, hV, rfl, hfz, hnd⟩ := hW
  have hA : DataW.TrodAll enc Try.prog W 0 (fun _ => true) true Try.f5.params.toList args.toList ds p := hA0
  rw [Try.params5] at hA hval
  obtain ⟨v0, vs0, d0, ds0, p0, q0, hargs, rfl, rfl, h0, r0⟩ := trodAll_cons hA
  obtain ⟨rfl, rfl, rfl⟩ := trodAll_nil r0
  obtain rfl : args = #[v0] := by cases args; simp_all
  obtain ⟨rfl, rfl⟩ := trodVars_none hV
  have k0 := h0
  obtain ⟨A, n, c, ops, rfl, hz, hw, hl⟩ := arg_ops (hval 0 37 v0 rfl rfl) h0
  clear hA0 hval0
  refine (plays_walk A n c ops W hz hw hl).mono fun e W' ⟨he, hf⟩ => ?_
  have bel := hf.below
  subst he
  exact ⟨_, rfl, _, _, _, [], _, [], hW', trodAll_mk1 (shut_bool Try.underlying4 _), (trodAll_cons_mk (Below.trod laidOut (by kernel_rfl) (of_decide_eq_true (by kernel_rfl)) k0 bel (trod_lt' k0)) trodAll_mk0), rfl, bel.frame _, fun h => by cases h⟩

theorem over : Rows.heapPlaysRow.holds Try.pinned (OpenSpec.ofChange Rows.heapPlaysSpec) :=
  OpenClaim.holds_of_wide 5 Try.f5 rfl rfl rfl rfl rfl rfl rfl ⟨rfl, rfl, rfl, rfl, rfl⟩ rfl rfl rfl rfl rfl (by kernel_rfl) Try.func5 (by kernel_rfl)
    (of_decide_eq_true (by kernel_rfl)) (by unfold Func.isWrapper; first | (rw [if_pos (by decide +kernel)]; kernel_rfl) | (rw [if_neg (by decide +kernel)]; exact ⟨rfl, rfl⟩))
    (fun os started H enc _ => lifted os started H enc)

theorem proved : Rows.HeapPlaysSaid := over
#print axioms proved
end Go.Proofs.Ytddogcpakefdpaa.heapPlays
