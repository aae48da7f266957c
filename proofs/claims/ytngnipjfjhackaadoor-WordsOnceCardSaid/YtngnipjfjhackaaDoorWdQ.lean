/- Words: what a line is read as: the model, and what is borne along. -/
import Derived.Test.YtngnipjfjhackaaDoorWdP
namespace Go.Proofs.YtngnipjfjhackaaDoor
open Go.RowKit Go.MapKept
set_option linter.unusedVariables false
set_option linter.unusedSimpArgs false
/-- The library's variables, one more. -/
structure VarsM (w : World) : Prop where
  v : Vars w
  most : ∃ m, w.cell? ⟨0, 0, none⟩ = some (.int .i64 m)
theorem VarsM.fr {w w' : World} (h : VarsM w) (f : Fr nob w w') : VarsM w' := by
  obtain ⟨m, hm⟩ := h.most
  exact ⟨h.v.fr f, m, by rw [f.cell (p := ⟨0, 0, none⟩) (World.block_lt_of_cell? _ _ hm) (fun x => x)]; exact hm⟩
/-- A word is taken. -/
def takeK (k : Wk) (c : CmdM) (s : ByteArray) : Option CmdM := match k with
  | .a => if fineB s = true then some { c with a := s } else none
  | .b => if fineB s = true then some { c with b := s } else none
  | .n => (numM s.data.toList).map fun n => { c with n := n }
  | .v => (readS s).map fun y => { c with t := y.1, vn := y.2.1, vs := y.2.2 }
def takes : List Wk → List ByteArray → CmdM → Option CmdM
  | [], _, c => some c
  | _ :: _, [], _ => none
  | k :: ks, s :: ss, c => (takeK k c s).bind (takes ks ss)
def zeroC (verb : ByteArray) : CmdM := ⟨verb, ⟨#[]⟩, ⟨#[]⟩, 0, 0, 0, ⟨#[]⟩⟩
def partsB (s : ByteArray) : List ByteArray := Lib.splitB ⟨#[32]⟩ 0 (Lib.countB s ⟨#[32]⟩) s
/-- What is asked for. -/
def readM (line : ByteArray) : Option CmdM := match partsB line with
  | [] => none
  | v :: ps => match findS v shapesL with
    | none => none
    | some ks => if ps.length = ks.length ∧ line.size ≤ 80 then takes ks ps (zeroC v) else none
def cmdV (c : CmdM) : Value := .agg (cmdC c)
def TakeP (k : Wk) (g : Nat) (c : CmdM) (s : ByteArray) (w : World) (e : Ending) (w' : World) : Prop :=
  e = .returned (.bool (takeK k c s).isSome) ∧ (∃ c', (∀ y, takeK k c s = some y → y = c') ∧ CmdAt w' g c') ∧ Fr (oneb g) w w'
section
variable {E : Env} {w w' : World} {g : Nat} {c : CmdM} {s : ByteArray}
theorem EnvOk.fr {M : Nat → Prop} (h : EnvOk w E) (f : Fr M w w') (hM : ∀ g t cs, Blk w g t cs → (t = 54 ∨ t = 33) → ¬ M g) : EnvOk w' E :=
  ⟨h.ao.fr f (hM _ _ _ h.ao (.inl rfl)), h.af.fr f (hM _ _ _ h.af (.inr rfl)), h.bo.fr f (hM _ _ _ h.bo (.inl rfl)), h.bf.fr f (hM _ _ _ h.bf (.inr rfl))⟩
theorem EnvOk.one {cs : Array Value} (h : EnvOk w E) (hg : Blk w g 28 cs) (f : Fr (oneb g) w w') : EnvOk w' E :=
  h.fr f (fun k t cs' hb ht hm => by
    have : k = g := hm
    subst this
    rcases ht with rfl | rfl
    · exact hb.ne hg (by decide) rfl
    · exact hb.ne hg (by decide) rfl)
theorem takeAP (h : CmdAt w g c) (he : EnvOk w E) : Calls Tryd.prog 29 #[.pointer (some ⟨g, 0, none⟩), .string s, .pointer (some ⟨E.ao, 0, none⟩), .pointer (some ⟨E.af, 0, none⟩)] w (TakeP .a g c s w) :=
  (takeA_any g E.ao E.af c s w h he.ao he.af).mono fun e w' ⟨h1, h2, h3⟩ => by
    refine ⟨?_, ⟨_, fun y hy => ?_, h2⟩, h3⟩
    · rw [h1]; unfold takeK; cases fineB s <;> rfl
    · unfold takeK at hy
      dsimp only at hy
      split at hy
      · exact (Option.some.inj hy).symm
      · cases hy
theorem takeBP (h : CmdAt w g c) (he : EnvOk w E) : Calls Tryd.prog 29 #[.pointer (some ⟨g, 0, none⟩), .string s, .pointer (some ⟨E.bo, 0, none⟩), .pointer (some ⟨E.bf, 0, none⟩)] w (TakeP .b g c s w) :=
  (takeB_any g E.bo E.bf c s w h he.bo he.bf).mono fun e w' ⟨h1, h2, h3⟩ => by
    refine ⟨?_, ⟨_, fun y hy => ?_, h2⟩, h3⟩
    · rw [h1]; unfold takeK; cases fineB s <;> rfl
    · unfold takeK at hy
      dsimp only at hy
      split at hy
      · exact (Option.some.inj hy).symm
      · cases hy
theorem takeNP (h : CmdAt w g c) (hs : s.size ≤ 281474976710656) (hv : Vars w) : Calls Tryd.prog 32 #[.pointer (some ⟨g, 0, none⟩), .string s] w (TakeP .n g c s w) :=
  (takeN_any g c s hs w h hv).mono fun e w' ⟨h1, ⟨n, hn, h2⟩, h3⟩ => by
    refine ⟨?_, ⟨_, fun y hy => ?_, h2⟩, h3⟩
    · rw [h1]; unfold takeK; simp
    · unfold takeK at hy
      dsimp only at hy
      simp only [Option.map_eq_some_iff] at hy
      obtain ⟨m, hm, rfl⟩ := hy
      rw [hn m hm]
theorem takeVP (h : CmdAt w g c) (hs : s.size ≤ 281474976710656) (hv : Vars w) : Calls Tryd.prog 37 #[.pointer (some ⟨g, 0, none⟩), .string s] w (TakeP .v g c s w) :=
  (takeV_any g c s hs w h hv).mono fun e w' ⟨h1, ⟨t, n, x, hn, h2⟩, h3⟩ => by
    refine ⟨?_, ⟨_, fun y hy => ?_, h2⟩, h3⟩
    · rw [h1]; unfold takeK; simp
    · unfold takeK at hy
      dsimp only at hy
      simp only [Option.map_eq_some_iff] at hy
      obtain ⟨m, hm, rfl⟩ := hy
      rw [hn m hm]
end
/-- While a line is read: the result's block, the words, the shape, what is read so far. -/
structure RS (w0 w : World) (res sp g : Nat) (ps : List ByteArray) (v : Value) (ks : List Wk) (E : Env) (c : CmdM) : Prop where
  fr : Fr nob w0 w
  vars : VarsM w
  resb : Blk w res 28 (cmdC (zeroC ⟨#[]⟩))
  spb : Blk w sp 9 (ps.map Value.string).toArray
  shape : Own w 47 2 v ks.length (cellsOf E ks)
  env : EnvOk w E
  cmd : CmdAt w g c
  ne : res ≠ g
  new : w0.heap.size ≤ g
section
variable {w0 w w' : World} {res sp g : Nat} {ps : List ByteArray} {v : Value} {ks : List Wk} {E : Env} {c c' : CmdM}
theorem RS.no (h : RS w0 w res sp g ps v ks E c) (f : Fr nob w w') : RS w0 w' res sp g ps v ks E c :=
  ⟨h.fr.tr f, h.vars.fr f, h.resb.fr f (fun x => x), h.spb.fr f (fun x => x), h.shape.fr f (fun _ _ x => x), h.env.fr f (fun _ _ _ _ _ x => x), h.cmd.fr f (fun x => x), h.ne, h.new⟩
theorem VarsM.one (h : VarsM w0) (h2 : VarsM w) (f0 : Fr nob w0 w) (f : Fr (oneb g) w w') (hg : w0.heap.size ≤ g) : VarsM w' := by
  have ff : Fr nob w0 w' := f0.trans f (fun _ _ x => x) (fun k hk hm => by have : k = g := hm; omega)
  exact h.fr ff
theorem RS.take (h : RS w0 w res sp g ps v ks E c) (h0 : VarsM w0) (f : Fr (oneb g) w w') (hc : CmdAt w' g c') : RS w0 w' res sp g ps v ks E c' := by
  have hnew := h.new
  refine ⟨h.fr.trans f (fun _ _ x => x) (fun k hk hm => by have : k = g := hm; omega), h0.one h.vars h.fr f h.new, h.resb.fr f (fun e => h.ne e), h.spb.fr f (fun e => h.spb.ne h.cmd (by decide) e), h.shape.fr f (fun k hk hm => ?_), h.env.one h.cmd f, hc, h.ne, h.new⟩
  exact h.shape.blk_ne h.cmd (by decide) (by rw [hk, show k = g from hm])
end
theorem cellsOf_get (E : Env) : ∀ (ks : List Wk) (j : Nat) (k : Wk), ks[j]? = some k → (cellsOf E ks)[j * 2]? = some (E.put k) ∧ (cellsOf E ks)[j * 2 + 1]? = some (E.take k)
  | [], j, k, h => by simp at h
  | x :: ks, 0, k, h => by
    simp at h; subst h
    exact ⟨rfl, rfl⟩
  | x :: ks, j + 1, k, h => by
    have ih := cellsOf_get E ks j k (by simpa using h)
    have e : cellsOf E (x :: ks) = E.put x :: E.take x :: cellsOf E ks := rfl
    rw [e, show (j + 1) * 2 = j * 2 + 1 + 1 by omega, List.getElem?_cons_succ, List.getElem?_cons_succ, List.getElem?_cons_succ, List.getElem?_cons_succ]
    exact ih
end Go.Proofs.YtngnipjfjhackaaDoor
