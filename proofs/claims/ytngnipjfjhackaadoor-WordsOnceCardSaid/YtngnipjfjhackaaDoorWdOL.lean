/- Words: what is asked for, as it comes in and is read again. -/
import Derived.Test.YtngnipjfjhackaaDoorWdOX
import Derived.Test.YtngnipjfjhackaaDoorWdLaid
import Derived.ChangeArms
import Derived.ChangeSame
namespace Go.Proofs.YtngnipjfjhackaaDoor
open Go.ChangeShapes Go.WideShapes Go.ChangeAt Go.RowKit
set_option maxRecDepth 100000
set_option linter.unusedVariables false
set_option linter.unusedSimpArgs false
section
variable {H : Type} {enc : TypeId × Value → H} {W : World} {base : Nat} {sp : Nat → Bool} {held : Bool}
def dataC (c : CmdM) : DataW H := .agg [.lit (.string c.verb.data.toList), .lit (.string c.a.data.toList), .lit (.string c.b.data.toList), .lit (.int .i64 c.n), .agg [.lit (.int .i64 c.t), .lit (.int .i64 c.vn), .lit (.string c.vs.data.toList)]]
/-- Its texts are not too long. -/
structure LenC (c : CmdM) : Prop where
  v : c.verb.size ≤ maxLen
  a : c.a.size ≤ maxLen
  b : c.b.size ≤ maxLen
  s : c.vs.size ≤ maxLen
theorem seven {cs : List Value} (h : cs.length = 7) : ∃ a b c d e f g, cs = [a, b, c, d, e, f, g] := by
  match cs, h with
  | [a, b, c, d, e, f, g], _ => exact ⟨a, b, c, d, e, f, g, rfl⟩
theorem open_cmd {r : Reach} {b0 : Nat} {v : Value} {d : DataW H} {ps : List MemPlace} (hval : Value.okWide Tryd.prog W r b0 28 v) (hd : DataW.Trod enc Tryd.prog W base sp held 28 v d ps) :
    ∃ c : CmdM, v = cmdV c ∧ d = dataC c ∧ ps = [] ∧ InC c ∧ LenC c := by
  obtain ⟨cs, rfl, hsz⟩ := okWide_struct Tryd.underlying28 hval
  rw [co28] at hsz
  obtain ⟨l⟩ := cs
  obtain ⟨v0, v1, v2, v3, v4, v5, v6, rfl⟩ := seven (by simpa using hsz)
  obtain ⟨fuel, hf⟩ := hd
  cases fuel with
  | zero => simp [DataW.trod] at hf
  | succ n =>
    rw [DataW.trod_step] at hf
    unfold DataW.trodStep at hf
    simp only [Tryd.underlying28, Value.cells] at hf
    rw [if_pos (by rw [co28]; rfl)] at hf
    simp only [Option.map_eq_some_iff] at hf
    obtain ⟨xs, hx, e1⟩ := hf
    simp only [List.mapM_cons, List.mapM_nil, bind, Option.bind_eq_some_iff, pure, Option.some.injEq, co9, co3, co26] at hx
    obtain ⟨y0, h0, _, ⟨y1, h1, _, ⟨y2, h2, _, ⟨y3, h3, _, ⟨y4, h4, _, rfl, rfl⟩, rfl⟩, rfl⟩, rfl⟩, rfl⟩ := hx
    obtain ⟨s0, ea, rfl, wa⟩ := DataW.trod_string Tryd.underlying9 h0
    obtain ⟨s1, eb, rfl, wb⟩ := DataW.trod_string Tryd.underlying9 h1
    obtain ⟨s2, ec, rfl, wc⟩ := DataW.trod_string Tryd.underlying9 h2
    obtain ⟨n3, ed, rfl, wd⟩ := DataW.trod_int Tryd.underlying3 h3
    simp at ea eb ec ed
    subst ea; subst eb; subst ec; subst ed
    cases n with
    | zero => simp [DataW.trod] at h4
    | succ n =>
      rw [DataW.trod_step] at h4
      unfold DataW.trodStep at h4
      simp only [Tryd.underlying26] at h4
      rw [if_pos (by rw [co26]; rfl)] at h4
      simp only [Option.map_eq_some_iff] at h4
      obtain ⟨zs, hz, e2⟩ := h4
      simp only [List.mapM_cons, List.mapM_nil, bind, Option.bind_eq_some_iff, pure, Option.some.injEq, co9, co3] at hz
      obtain ⟨z0, k0, _, ⟨z1, k1, _, ⟨z2, k2, _, rfl, rfl⟩, rfl⟩, rfl⟩ := hz
      obtain ⟨n4, ee, rfl, we⟩ := DataW.trod_int Tryd.underlying3 k0
      obtain ⟨n5, ef, rfl, wf⟩ := DataW.trod_int Tryd.underlying3 k1
      obtain ⟨s6, eg, rfl, wg⟩ := DataW.trod_string Tryd.underlying9 k2
      simp at ee ef eg
      subst ee; subst ef; subst eg
      subst e2
      simp only [Prod.mk.injEq] at e1
      exact ⟨⟨s0, s1, s2, n3, n4, n5, s6⟩, rfl, by rw [← e1.1]; rfl, by rw [← e1.2]; rfl, ⟨wd, we, wf⟩, ⟨wa, wb, wc, wg⟩⟩
theorem shut_cmd {c : CmdM} (h : InC c) (hl : LenC c) : DataW.Trod enc Tryd.prog W base sp held 28 (cmdV c) (dataC c) [] := by
  obtain ⟨s0, s1, s2, n3, n4, n5, s6⟩ := c
  obtain ⟨h1, h2, h3⟩ := h
  obtain ⟨k1, k2, k3, k4⟩ := hl
  dsimp only at h1 h2 h3 k1 k2 k3 k4
  refine ⟨3, ?_⟩
  show DataW.trod enc Tryd.prog W base sp held (2 + 1) 28 [.string s0, .string s1, .string s2, .int .i64 n3, .int .i64 n4, .int .i64 n5, .string s6] = _
  rw [DataW.trod_step]
  unfold DataW.trodStep
  simp only [Tryd.underlying28]
  rw [if_pos (by rw [co28]; rfl)]
  simp [co9, co3, co26, DataW.trod, Tryd.underlying9, Tryd.underlying3, Tryd.underlying26, h1, h2, h3, k1, k2, k3, k4, dataC]
end
end Go.Proofs.YtngnipjfjhackaaDoor
