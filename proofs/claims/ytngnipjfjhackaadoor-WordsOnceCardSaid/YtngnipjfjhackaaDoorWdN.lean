/- Words: words made. -/
import Derived.Test.YtngnipjfjhackaaDoorWdM
import Derived.Laws.EntriesVeiled
namespace Go.Proofs.YtngnipjfjhackaaDoor
open Go.RowKit
set_option linter.unusedVariables false
set_option linter.unusedSimpArgs false
def fnV (k : Nat) : Value := .func (.func k) #[] #[]
def ptrV (b : Nat) : Value := .pointer (some ⟨b, 0, none⟩)
/-- A name's two functions. -/
def NameOk (w : World) (k : Nat) (P T : Value) : Prop := ∃ bo bf, P = .func (.func 28) #[] #[ptrV bo, ptrV bf] ∧ T = .func (.func 29) #[] #[ptrV bo, ptrV bf] ∧
  Blk w bo 54 #[fnV k] ∧ Blk w bf 33 #[fnV 26]
theorem NameOk.fr {w w' : World} {k : Nat} {P T : Value} {M : Nat → Prop} (h : NameOk w k P T) (f : Fr M w w') (hM : ∀ g t cs, Blk w g t cs → (t = 54 ∨ t = 33) → ¬ M g) : NameOk w' k P T := by
  obtain ⟨bo, bf, h1, h2, h3, h4⟩ := h
  exact ⟨bo, bf, h1, h2, h3.fr f (hM _ _ _ h3 (.inl rfl)), h4.fr f (hM _ _ _ h4 (.inr rfl))⟩
set_option maxRecDepth 100000 in
theorem name_any (k : Nat) (w : World) : Calls Tryd.prog 15 #[fnV k] w fun e w' => ∃ P T, e = .returned (.agg #[P, T]) ∧ NameOk w' k P T ∧ Fr nob w w' := by
  have hmf : ∀ (fn : Fn) (first cap : Array Value) (w : World), (Instr.makeFunc fn first cap).run Tryd.prog w = .ok (.func fn first cap) w := fun _ _ _ _ => rfl
  unfold fnV
  go_enter Tryd.func15, Tryd.ntmps15
  go_wp2_with fail
  obtain ⟨P, hP⟩ : ∃ P : Value, P = .func (.func 28) #[] #[.pointer (some ⟨w.heap.size, 0, none⟩), .pointer (some ⟨w.heap.size + 1 + 1, 0, none⟩)] := ⟨_, rfl⟩
  obtain ⟨T, hT⟩ : ∃ T : Value, T = .func (.func 29) #[] #[.pointer (some ⟨w.heap.size, 0, none⟩), .pointer (some ⟨w.heap.size + 1 + 1, 0, none⟩)] := ⟨_, rfl⟩
  rw [← hP, ← hT]
  obtain ⟨wf, hwf⟩ : ∃ wf, wf = ((w.alloc (.cells #[.func (.func k) #[] #[]] 54)).alloc (.cells #[P, T] 47)).alloc (.cells #[.func (.func 26) #[] #[]] 33) := ⟨_, rfl⟩
  have b1 : Blk wf w.heap.size 54 #[fnV k] := by rw [hwf]; exact ((Blk.new w _ _).alloc _).alloc _
  have b2 : Blk wf (w.heap.size + 1) 47 #[P, T] := by
    rw [hwf]
    have := (Blk.new (w.alloc (.cells #[.func (.func k) #[] #[]] 54)) 47 #[P, T]).alloc (.cells #[.func (.func 26) #[] #[]] 33)
    simpa using this
  have b3 : Blk wf (w.heap.size + 1 + 1) 33 #[fnV 26] := by
    rw [hwf]
    have := Blk.new ((w.alloc (.cells #[.func (.func k) #[] #[]] 54)).alloc (.cells #[P, T] 47)) 33 #[fnV 26]
    simpa [fnV] using this
  have FF : Fr nob w wf := by rw [hwf]; exact (((Fr.refl nob w).alloc _).alloc _).alloc _
  have B1 := hid b1
  have B3 := hid b3
  have F := hid FF
  have HP := hid hP
  have HT := hid hT
  rw [← hwf]
  have c0 : wf.cell? ⟨w.heap.size + 1, 0, none⟩ = some P := by simpa using b2.cell 0
  have c1 : wf.cell? ⟨w.heap.size + 1, 1, none⟩ = some T := by simpa using b2.cell 1
  clear hwf b1 b2 b3 FF hP hT
  refine bodyPost_ret (v := .agg #[P, T]) (by simp [results, Tryd.results15, go_sem, c0, c1]; try rfl) rfl ⟨P, T, rfl, ⟨_, _, HP.out, HT.out, B1.out, B3.out⟩, F.out⟩
def numP : Value := .func (.func 30) #[] #[]
def numT : Value := .func (.func 32) #[] #[]
def valP : Value := .func (.func 34) #[] #[]
def valT : Value := .func (.func 37) #[] #[]
set_option maxRecDepth 100000 in
theorem number_any (w : World) : Calls Tryd.prog 18 #[] w fun e w' => e = .returned (.agg #[numP, numT]) ∧ Fr nob w w' := by
  unfold numP numT
  go_enter Tryd.func18, Tryd.ntmps18
  go_wp2_with fail
  refine bodyPost_ret (v := .agg #[numP, numT]) (by simp [results, Tryd.results18, go_sem, numP, numT]; try rfl) rfl ⟨rfl, ?_⟩
  exact (Fr.refl nob w).alloc _
set_option maxRecDepth 100000 in
theorem quotedW_any (w : World) : Calls Tryd.prog 19 #[] w fun e w' => e = .returned (.agg #[valP, valT]) ∧ Fr nob w w' := by
  unfold valP valT
  go_enter Tryd.func19, Tryd.ntmps19
  go_wp2_with fail
  refine bodyPost_ret (v := .agg #[valP, valT]) (by simp [results, Tryd.results19, go_sem, valP, valT]; try rfl) rfl ⟨rfl, ?_⟩
  exact (Fr.refl nob w).alloc _
end Go.Proofs.YtngnipjfjhackaaDoor
