/- Words: how what is asked for is written: the model, and what is borne along. -/
import Derived.Test.YtngnipjfjhackaaDoorWdU
import Derived.Lib.ItoaLen
namespace Go.Proofs.YtngnipjfjhackaaDoor
open Go.RowKit Go.MapKept
set_option linter.unusedVariables false
set_option linter.unusedSimpArgs false
/-- A word is put. -/
def putK (k : Wk) (c : CmdM) : ByteArray × Bool := match k with
  | .a => (c.a, fineB c.a)
  | .b => (c.b, fineB c.b)
  | .n => (⟨(Lib.itoa c.n).toArray⟩, true)
  | .v => (⟨(quotedL c.t c.vn c.vs).toArray⟩, mayW c.t c.vn c.vs)
def goesL (c : CmdM) : List Wk → CmdM → Option CmdM
  | [], o => some o
  | k :: ks, o => if (putK k c).2 = true then (takeK k o (putK k c).1).bind (goesL c ks) else none
def partsL (c : CmdM) (ks : List Wk) : List ByteArray := c.verb :: ks.map fun k => (putK k c).1
def joinB (l : List ByteArray) : ByteArray := ⟨(Lib.join (l.map (·.data.toList)) [32]).toArray⟩
instance : DecidableEq CmdM := fun x y => by
  obtain ⟨a1, a2, a3, a4, a5, a6, a7⟩ := x
  obtain ⟨b1, b2, b3, b4, b5, b6, b7⟩ := y
  exact if h : a1 = b1 ∧ a2 = b2 ∧ a3 = b3 ∧ a4 = b4 ∧ a5 = b5 ∧ a6 = b6 ∧ a7 = b7 then
    .isTrue (by obtain ⟨rfl, rfl, rfl, rfl, rfl, rfl, rfl⟩ := h; rfl)
  else .isFalse (fun e => h (by cases e; exact ⟨rfl, rfl, rfl, rfl, rfl, rfl, rfl⟩))
/-- What is asked for, as a line. -/
def lineM (c : CmdM) : Option ByteArray := match findS c.verb shapesL with
  | none => none
  | some ks => match goesL c ks (zeroC c.verb) with
    | none => none
    | some o => if o = c ∧ (joinB (partsL c ks)).size ≤ 80 then some (joinB (partsL c ks)) else none
def lineR (c : CmdM) : ByteArray × Nat := match lineM c with
  | some l => (l, 0)
  | none => (⟨#[]⟩, 1)
/-- What a law asks for is not long. -/
structure SmallC (c : CmdM) : Prop where
  rng : RngC c
  v : c.verb.size ≤ 1000
  a : c.a.size ≤ 1000
  b : c.b.size ≤ 1000
  s : c.vs.size ≤ 1000
theorem bsz (l : List UInt8) : (⟨l.toArray⟩ : ByteArray).size = l.length := by
  show l.toArray.size = l.length
  simp
theorem putK_size {c : CmdM} (h : SmallC c) (k : Wk) : (putK k c).1.size ≤ 1100 := by
  cases k
  · have := h.a; show c.a.size ≤ 1100; omega
  · have := h.b; show c.b.size ≤ 1100; omega
  · have := Lib.itoa_length_le c.n h.rng.1 h.rng.2.1
    show (⟨(Lib.itoa c.n).toArray⟩ : ByteArray).size ≤ 1100
    rw [bsz]; omega
  · have hi := Lib.itoa_length_le c.vn h.rng.2.2.1 h.rng.2.2.2
    have hs := h.s
    have hl : c.vs.data.toList.length = c.vs.size := by simp
    show (⟨(quotedL c.t c.vn c.vs).toArray⟩ : ByteArray).size ≤ 1100
    rw [bsz]
    unfold quotedL wordL Lib.formatBool
    (repeat' split) <;> first | omega | decide | (simp; omega)
def PutP (k : Wk) (c : CmdM) (w : World) (e : Ending) (w' : World) : Prop := e = .returned (.tuple #[.string (putK k c).1, .bool (putK k c).2]) ∧ Fr nob w w'
section
variable {E : Env} {w w' : World} {g : Nat} {c : CmdM}
theorem putAP (h : CmdAt w g c) (he : EnvOk w E) : Calls Tryd.prog 28 #[.pointer (some ⟨g, 0, none⟩), .pointer (some ⟨E.ao, 0, none⟩), .pointer (some ⟨E.af, 0, none⟩)] w (PutP .a c w) := putA_any g E.ao E.af c w h he.ao he.af
theorem putBP (h : CmdAt w g c) (he : EnvOk w E) : Calls Tryd.prog 28 #[.pointer (some ⟨g, 0, none⟩), .pointer (some ⟨E.bo, 0, none⟩), .pointer (some ⟨E.bf, 0, none⟩)] w (PutP .b c w) := putB_any g E.bo E.bf c w h he.bo he.bf
theorem putNP (h : CmdAt w g c) (hc : SmallC c) (hv : Vars w) : Calls Tryd.prog 30 #[.pointer (some ⟨g, 0, none⟩)] w (PutP .n c w) := putN_any g c hc.rng w h hv
theorem putVP (h : CmdAt w g c) (hc : SmallC c) (hv : Vars w) : Calls Tryd.prog 34 #[.pointer (some ⟨g, 0, none⟩)] w (PutP .v c w) := putV_any g c hc.rng (by have := hc.s; omega) w h hv
end
theorem TyStrs : SlTy Tryd.prog 23 9 1 16 (.string ⟨#[]⟩) := SlTy.mk' (by kernel_rfl) (by kernel_rfl) rfl (by decide)
/-- While a line is made. -/
structure LS (w0 w : World) (B g : Nat) (av : Value) (n : Nat) (xs : List Value) (v : Value) (ks : List Wk) (E : Env) (c o : CmdM) : Prop where
  fr : Fr nob w0 w
  vars : VarsM w
  box : CmdAt w B c
  cmd : CmdAt w g o
  ne : B ≠ g
  all : Own w 9 1 av n xs
  anew : ∀ k, blk av = some k → w0.heap.size ≤ k
  shape : Own w 47 2 v ks.length (cellsOf E ks)
  env : EnvOk w E
  gnew : w0.heap.size ≤ g
section
variable {w0 w w' : World} {B g n n' : Nat} {av av' v : Value} {xs xs' : List Value} {ks : List Wk} {E : Env} {c o o' : CmdM}
theorem LS.no (h : LS w0 w B g av n xs v ks E c o) (f : Fr nob w w') : LS w0 w' B g av n xs v ks E c o :=
  ⟨h.fr.tr f, h.vars.fr f, h.box.fr f (fun x => x), h.cmd.fr f (fun x => x), h.ne, h.all.fr f (fun _ _ x => x), h.anew, h.shape.fr f (fun _ _ x => x), h.env.fr f (fun _ _ _ _ _ x => x), h.gnew⟩
theorem LS.take (h : LS w0 w B g av n xs v ks E c o) (h0 : VarsM w0) (f : Fr (oneb g) w w') (hc : CmdAt w' g o') : LS w0 w' B g av n xs v ks E c o' := by
  have hnew := h.gnew
  refine ⟨h.fr.trans f (fun _ _ x => x) (fun k hk hm => by have : k = g := hm; omega), h0.one h.vars h.fr f h.gnew, h.box.fr f (fun e => h.ne e), hc, h.ne, h.all.fr f (fun k hk hm => ?_), h.anew, h.shape.fr f (fun k hk hm => ?_), h.env.one h.cmd f, h.gnew⟩
  · exact h.all.blk_ne h.cmd (by decide) (by rw [hk, show k = g from hm])
  · exact h.shape.blk_ne h.cmd (by decide) (by rw [hk, show k = g from hm])
theorem LS.app (h : LS w0 w B g av n xs v ks E c o) (h0 : VarsM w0) (f : Fr (obl (blk av)) w w') (ho : Own w' 9 1 av' n' xs') (hb : blk av' = blk av ∨ blk av' = some w.heap.size) : LS w0 w' B g av' n' xs' v ks E c o := by
  have hold : ∀ k, k < w0.heap.size → ¬ obl (blk av) k := fun k hk hm => by have := h.anew k hm; omega
  have f0 : Fr nob w0 w' := h.fr.trans f (fun _ _ x => x) (fun k hk hm => absurd hm (hold k hk))
  refine ⟨f0, h0.fr f0, h.box.fr f (fun hm => ?_), h.cmd.fr f (fun hm => ?_), h.ne, ho, fun k hk => ?_, h.shape.fr f (fun k hk hm => ?_), h.env.fr f (fun k t cs hk ht hm => ?_), h.gnew⟩
  · exact h.all.blk_ne h.box (by decide) hm
  · exact h.all.blk_ne h.cmd (by decide) hm
  · rcases hb with e | e
    · exact h.anew k (by rw [← e]; exact hk)
    · rw [e] at hk; injection hk with hk; have := h.fr.size; omega
  · exact h.all.blk_ne' h.shape (by decide) hk hm
  · rcases ht with rfl | rfl
    · exact h.all.blk_ne hk (by decide) hm
    · exact h.all.blk_ne hk (by decide) hm
end
end Go.Proofs.YtngnipjfjhackaaDoor
