/- A matrix that comes in, as the walks take it. -/
import Derived.Test.YtddogcpakefdpaaArg
import Derived.Test.YtddogcpakefdpaaHeapV
import Derived.Deep.Matrix
namespace Go.Proofs.Ytddogcpakefdpaa
open Go.ChangeShapes Go.WideShapes Go.ChangeAt Go.RowKit Go.Deep
set_option linter.unusedVariables false
set_option linter.unusedSimpArgs false

section
variable {H : Type} {enc : TypeId × Value → H} {P : Program} {w : World} {base : Nat} {held : Bool}
theorem arg_rows {r : Reach} {b0 : Nat} {t e q : TypeId} {v : Value} {d : DataW H} {p : List MemPlace} (ht : P.underlying t = some (.slice e)) (he : P.underlying e = some (.slice q)) (hq : P.underlying q = some (.int .i64)) (ce : P.cellsOf e = 1) (cq : P.cellsOf q = 1)
    (hv : Value.okWide P w r b0 t v) (h : DataW.Trod enc P w base (fun _ => true) held t v d p) : ∃ L, RdRows w v L := by
  obtain ⟨a, len, cap, rfl⟩ := okWide_slice ht hv
  obtain ⟨fuel, hf⟩ := h
  rcases open_int_rows ht he hq ce cq hf with ⟨hcs, _⟩ | ⟨x, l, c, A, Ln, C, Z, hcs, _, hl, hm, _, hrows⟩
  · simp [Value.cells] at hcs
    obtain ⟨rfl, rfl, rfl⟩ := hcs
    exact ⟨[], [], Rd.nil _ _ _, fun k l u h => by simp at h⟩
  · simp [Value.cells] at hcs
    obtain ⟨rfl, rfl, rfl⟩ := hcs
    refine ⟨(List.range len).map fun r => (Z r).take (Ln r), (List.range len).map fun r => .slice (A r) (Ln r) (C r), ?_, ?_⟩
    · refine ⟨by simp, _, cap, by simp, by simpa using hl, hm, fun hn => ⟨x, rfl, ?_, ?_⟩⟩
      · have h0 := (hrows 0 (by simp at hn; omega)).1
        simpa [Addr.add] using World.cell?_spot h0
      · intro j u hu
        have hj : j < len := by
          have := (List.getElem?_eq_some_iff.1 hu).1; simp at this; omega
        have hsp : x.spot = none := by
          have h0 := (hrows 0 (by omega)).1
          simpa [Addr.add] using World.cell?_spot h0
        have hc := (hrows j (by omega)).1
        rw [add_of x hsp] at hc
        rw [hc, ← hu]
        simp [hj]
    · intro k l u hl' hu
      have hk : k < len := by
        have := (List.getElem?_eq_some_iff.1 hl').1; simp at this; omega
      obtain ⟨h1, h2, h3, h4, h5, h6, h7⟩ := hrows k (by omega)
      simp [hk] at hl' hu
      subst hl'; subst hu
      have e1 : ((Z k).take (Ln k)).length = Ln k := by simp; omega
      refine ⟨by simp [ivs], A k, C k, by rw [e1], by rw [e1]; exact h2, h3, fun hn => ?_⟩
      rw [e1] at hn
      cases ha : A k with
      | none => have := h6 ha; omega
      | some y =>
        have h0 := (h7 y ha).2 0 (by omega)
        have hsp : y.spot = none := by simpa [Addr.add] using World.cell?_spot h0
        refine ⟨y, rfl, hsp, fun j u hu => ?_⟩
        have hj : j < Ln k := by
          have := (List.getElem?_eq_some_iff.1 hu).1; simp [ivs] at this; omega
        have hc := (h7 y ha).2 j (by omega)
        rw [add_of y hsp] at hc
        rw [hc, ← hu]
        simp [ivs, List.getD, hj, show j < (Z k).length by omega]
end
end Go.Proofs.Ytddogcpakefdpaa
