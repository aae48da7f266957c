/- Words: the map of shapes, in memory. -/
import Derived.Test.YtngnipjfjhackaaDoorWdN
import Derived.Test.YtngnipjfjhackaaDoorMapLit
namespace Go.Proofs.YtngnipjfjhackaaDoor
open Go.RowKit Go.MapKept
set_option linter.unusedVariables false
set_option linter.unusedSimpArgs false
/-- What a word is: a name, another one, a number, a value. -/
inductive Wk where
  | a | b | n | v
  deriving DecidableEq
def nameP (bo bf : Nat) : Value := .func (.func 28) #[] #[.pointer (some ⟨bo, 0, none⟩), .pointer (some ⟨bf, 0, none⟩)]
def nameT (bo bf : Nat) : Value := .func (.func 29) #[] #[.pointer (some ⟨bo, 0, none⟩), .pointer (some ⟨bf, 0, none⟩)]
/-- Where the functions' own variables lie. -/
structure Env where
  ao : Nat
  af : Nat
  bo : Nat
  bf : Nat
def Env.put (E : Env) : Wk → Value
  | .a => nameP E.ao E.af
  | .b => nameP E.bo E.bf
  | .n => numP
  | .v => valP
def Env.take (E : Env) : Wk → Value
  | .a => nameT E.ao E.af
  | .b => nameT E.bo E.bf
  | .n => numT
  | .v => valT
structure EnvOk (w : World) (E : Env) : Prop where
  ao : Blk w E.ao 54 #[fnV 16]
  af : Blk w E.af 33 #[fnV 26]
  bo : Blk w E.bo 54 #[fnV 17]
  bf : Blk w E.bf 33 #[fnV 26]
def cellsOf (E : Env) (ks : List Wk) : List Value := ks.flatMap fun k => [E.put k, E.take k]
theorem cellsOf_len (E : Env) : ∀ ks : List Wk, (cellsOf E ks).length = ks.length * 2
  | [] => rfl
  | k :: ks => by
    have := cellsOf_len E ks
    unfold cellsOf at this ⊢
    rw [List.flatMap_cons, List.length_append, this]
    simp; omega
def Ents (E : Env) (w : World) : List MapEntry → List (ByteArray × List Wk) → Prop
  | [], [] => True
  | e :: es, p :: ps => (e.key = .string p.1 ∧ Own w 47 2 e.val p.2.length (cellsOf E p.2)) ∧ Ents E w es ps
  | _, _ => False
section
variable {E : Env} {w w' : World}
theorem Ents.fr {M : Nat → Prop} (f : Fr M w w') (hM : ∀ g t cs, Blk w g t cs → ¬ M g) : ∀ {es : List MapEntry} {ps : List (ByteArray × List Wk)}, Ents E w es ps → Ents E w' es ps
  | [], [], _ => trivial
  | [], _ :: _, h => h.elim
  | _ :: _, [], h => h.elim
  | e :: es, p :: ps, h => ⟨⟨h.1.1, h.1.2.fr f (fun g hg hm => by
      obtain ⟨_, A, c, hv, h0 | ⟨g', cur, rfl, h0, hb, _⟩⟩ := h.1.2
      · rw [hv] at hg; obtain ⟨rfl, _⟩ := h0; cases A <;> simp [blk] at hg
      · rw [hv] at hg
        have : g' = g := by simp [blk] at hg; omega
        subst this
        exact hM _ _ _ hb hm)⟩, Ents.fr f hM h.2⟩
theorem Ents.snoc {e : MapEntry} {p : ByteArray × List Wk} (he : e.key = .string p.1 ∧ Own w 47 2 e.val p.2.length (cellsOf E p.2)) : ∀ {es : List MapEntry} {ps : List (ByteArray × List Wk)}, Ents E w es ps → Ents E w (es ++ [e]) (ps ++ [p])
  | [], [], _ => ⟨he, trivial⟩
  | [], _ :: _, h => h.elim
  | _ :: _, [], h => h.elim
  | e :: es, q :: ps, h => ⟨h.1, Ents.snoc he h.2⟩
theorem sameNow_str (a b : ByteArray) : Instr.sameNow .string (.string a) (.string b) = some (decide (a = b)) := by
  obtain ⟨r, h1, h2⟩ := sameNow_of_keys (d := .string) (a := .string a) (b := .string b) trivial trivial
  rw [h1]
  congr 1
  cases r
  · symm; apply decide_eq_false; intro e; subst e; exact absurd (h2.2 rfl) (by decide)
  · symm; apply decide_eq_true; have := h2.1 rfl; injection this
/-- What is found under a key. -/
def findS (key : ByteArray) : List (ByteArray × List Wk) → Option (List Wk)
  | [] => none
  | p :: ps => if p.1 = key then some p.2 else findS key ps
theorem Ents.find (key : ByteArray) : ∀ {es : List MapEntry} {ps : List (ByteArray × List Wk)} (i : Nat), Ents E w es ps →
    (findS key ps = none ∧ Instr.findNow .string (.string key) es i = some none) ∨ ∃ ks j v, findS key ps = some ks ∧ Instr.findNow .string (.string key) es i = some (some (j, v)) ∧ Own w 47 2 v ks.length (cellsOf E ks)
  | [], [], i, _ => .inl ⟨rfl, rfl⟩
  | [], _ :: _, _, h => h.elim
  | _ :: _, [], _, h => h.elim
  | e :: es, p :: ps, i, h => by
    have hs : ∀ a b, Instr.sameNow .string (.string a) (.string b) = some (decide (a = b)) := sameNow_str
    by_cases hk : p.1 = key
    · right
      refine ⟨p.2, i, e.val, by unfold findS; rw [if_pos hk], ?_, h.1.2⟩
      simp [Instr.findNow, h.1.1, hs, hk]
    · have hk2 : ¬ key = p.1 := fun e => hk e.symm
      rcases Ents.find key (i + 1) h.2 with ⟨h1, h2⟩ | ⟨ks, j, v, h1, h2, h3⟩
      · left
        refine ⟨by unfold findS; rw [if_neg hk]; exact h1, ?_⟩
        simp [Instr.findNow, h.1.1, hs, hk, hk2, h2]
      · right
        refine ⟨ks, j, v, by unfold findS; rw [if_neg hk]; exact h1, ?_, h3⟩
        simp [Instr.findNow, h.1.1, hs, hk, hk2, h2]
end
def MapAt (E : Env) (w : World) (r : Nat) (l : List (ByteArray × List Wk)) : Prop := ∃ es c, w.heap[r]? = some (.map es c) ∧ Ents E w es.toList l
/-- As it is while the map is made. -/
structure SW (w0 w : World) (b1 b2 b3 b4 r : Nat) (E : Env) (l : List (ByteArray × List Wk)) : Prop where
  fr : Fr nob w0 w
  k1 : Blk w b1 47 #[nameP E.ao E.af, nameT E.ao E.af]
  k2 : Blk w b2 47 #[nameP E.bo E.bf, nameT E.bo E.bf]
  k3 : Blk w b3 47 #[numP, numT]
  k4 : Blk w b4 47 #[valP, valT]
  env : EnvOk w E
  map : MapAt E w r l
  new : w0.heap.size ≤ r
theorem u_map : Tryd.prog.underlying 42 = some (.map 9 40) := by kernel_rfl
theorem u_strW : Tryd.prog.underlying 9 = some .string := by kernel_rfl
section
variable {w0 w : World} {b1 b2 b3 b4 r : Nat} {E : Env} {l : List (ByteArray × List Wk)}
theorem blk_nomap {g : Nat} {t : TypeId} {cs : Array Value} {es : Array MapEntry} {c : Nat} (h : Blk w g t cs) (hm : w.heap[r]? = some (.map es c)) : ¬ oneb r g := by
  intro e
  have : g = r := e
  subst this
  unfold Blk at h
  rw [h] at hm
  cases hm
theorem SW.alloc (h : SW w0 w b1 b2 b3 b4 r E l) (o : Obj) : SW w0 (w.alloc o) b1 b2 b3 b4 r E l := by
  obtain ⟨es, c, hm, he⟩ := h.map
  have f : Fr nob w (w.alloc o) := (Fr.refl nob w).alloc o
  exact ⟨h.fr.tr f, h.k1.alloc o, h.k2.alloc o, h.k3.alloc o, h.k4.alloc o, ⟨h.env.ao.alloc o, h.env.af.alloc o, h.env.bo.alloc o, h.env.bf.alloc o⟩,
    ⟨es, c, by rw [f.block r (Array.getElem?_eq_some_iff.1 hm).1 (fun x => x)]; exact hm, he.fr f (fun _ _ _ _ x => x)⟩, h.new⟩
theorem SW.insv (h : SW w0 w b1 b2 b3 b4 r E l) (key : ByteArray) (ks : List Wk) (hk : findS key l = none) {v : Value} (hv : Own w 47 2 v ks.length (cellsOf E ks)) :
    ∃ w', (Instr.mapUpdate 42 (.map (some r)) (.string key) v).run Tryd.prog w = .ok () w' ∧ SW w0 w' b1 b2 b3 b4 r E (l ++ [(key, ks)]) ∧ (∀ g t cs, Blk w g t cs → Blk w' g t cs) ∧ w'.heap.size = w.heap.size := by
  obtain ⟨es, c, hm, he⟩ := h.map
  have hf : Instr.findNow .string (.string key) es.toList 0 = some none := by
    rcases he.find key 0 with ⟨_, h2⟩ | ⟨ks, j, v, h1, _, _⟩
    · exact h2
    · rw [hk] at h1; cases h1
  have i := run_insert_new u_map u_strW hm (key := .string key) trivial hf (value := v)
  have f := mapTo_fr w r (es.push ⟨.string key, v, c⟩) (c + 1)
  have nb : ∀ g t cs, Blk w g t cs → ¬ oneb r g := fun g t cs hb => blk_nomap hb hm
  have fb : ∀ g t cs, Blk w g t cs → Blk (mapTo w r (es.push ⟨.string key, v, c⟩) (c + 1)) g t cs := fun g t cs hb => hb.fr f (nb g t cs hb)
  have hv2 : Ents E w [(⟨.string key, v, c⟩ : MapEntry)] [(key, ks)] := ⟨⟨rfl, hv⟩, trivial⟩
  refine ⟨_, i, ⟨?_, fb _ _ _ h.k1, fb _ _ _ h.k2, fb _ _ _ h.k3, fb _ _ _ h.k4, ⟨fb _ _ _ h.env.ao, fb _ _ _ h.env.af, fb _ _ _ h.env.bo, fb _ _ _ h.env.bf⟩, ⟨_, _, mapTo_heap hm _ _, ?_⟩, h.new⟩, fb, by simp [mapTo]⟩
  · have hnew := h.new
    exact h.fr.trans f (fun _ _ x => x) (fun k hk hm => by have : k = r := hm; omega)
  · rw [Array.toList_push]
    exact Ents.snoc (hv2.fr f nb).1 (he.fr f nb)
theorem SW.ins0 (h : SW w0 w b1 b2 b3 b4 r E l) (key : ByteArray) (hk : findS key l = none) :
    ∃ w', (Instr.mapUpdate 42 (.map (some r)) (.string key) (.slice none 0 0)).run Tryd.prog w = .ok () w' ∧ SW w0 w' b1 b2 b3 b4 r E (l ++ [(key, [])]) ∧ (∀ g t cs, Blk w g t cs → Blk w' g t cs) ∧ w'.heap.size = w.heap.size :=
  h.insv key [] hk (Own.nil _ _ _)
theorem SW.ins (h : SW w0 w b1 b2 b3 b4 r E l) (key : ByteArray) (ks : List Wk) (hk : findS key l = none) (hks : ks ≠ []) (hks4 : ks.length ≤ 4) :
    ∃ w', (Instr.mapUpdate 42 (.map (some r)) (.string key) (.slice (some ⟨w.heap.size, 0, none⟩) ks.length ks.length)).run Tryd.prog (w.alloc (.cells (cellsOf E ks).toArray 47)) = .ok () w' ∧ SW w0 w' b1 b2 b3 b4 r E (l ++ [(key, ks)]) ∧ (∀ g t cs, Blk w g t cs → Blk w' g t cs) ∧ w'.heap.size = w.heap.size + 1 := by
  have hpos : 0 < ks.length := List.length_pos_iff.2 hks
  have hl := cellsOf_len E ks
  obtain ⟨w', h1, h2, h3, h4⟩ := (h.alloc (.cells (cellsOf E ks).toArray 47)).insv key ks hk (v := .slice (some ⟨w.heap.size, 0, none⟩) ks.length ks.length)
    ⟨hl, _, _, rfl, .inr ⟨w.heap.size, _, rfl, hpos, Blk.new w _ _, Nat.le_refl _, by unfold maxLen; omega, by simpa using hl, by rw [← hl]; simp⟩⟩
  exact ⟨w', h1, h2, fun g t cs hb => h3 g t cs (hb.alloc _), by rw [h4]; simp⟩
/-- The words' cells. -/
theorem SW.cells (h : SW w0 w b1 b2 b3 b4 r E l) : w.cell? ⟨b1, 0, none⟩ = some (nameP E.ao E.af) ∧ w.cell? ⟨b1, 1, none⟩ = some (nameT E.ao E.af) ∧ w.cell? ⟨b2, 0, none⟩ = some (nameP E.bo E.bf) ∧ w.cell? ⟨b2, 1, none⟩ = some (nameT E.bo E.bf) ∧
    w.cell? ⟨b3, 0, none⟩ = some numP ∧ w.cell? ⟨b3, 1, none⟩ = some numT ∧ w.cell? ⟨b4, 0, none⟩ = some valP ∧ w.cell? ⟨b4, 1, none⟩ = some valT :=
  ⟨by simpa using h.k1.cell 0, by simpa using h.k1.cell 1, by simpa using h.k2.cell 0, by simpa using h.k2.cell 1, by simpa using h.k3.cell 0, by simpa using h.k3.cell 1, by simpa using h.k4.cell 0, by simpa using h.k4.cell 1⟩
/-- The map, new. -/
theorem SW.start {W : World} (hf : Fr nob w0 W) (h1 : Blk W b1 47 #[nameP E.ao E.af, nameT E.ao E.af]) (h2 : Blk W b2 47 #[nameP E.bo E.bf, nameT E.bo E.bf]) (h3 : Blk W b3 47 #[numP, numT]) (h4 : Blk W b4 47 #[valP, valT]) (he : EnvOk W E) :
    ∃ r w', (Instr.makeMap 42 none).run Tryd.prog W = .ok (.map (some r)) w' ∧ SW w0 w' b1 b2 b3 b4 r E [] :=
  ⟨W.heap.size, _, run_makeMap .., ⟨hf.alloc _, h1.alloc _, h2.alloc _, h3.alloc _, h4.alloc _, ⟨he.ao.alloc _, he.af.alloc _, he.bo.alloc _, he.bf.alloc _⟩, ⟨#[], 0, heap_alloc_new W _, trivial⟩, hf.size⟩⟩
end
/-- What verbs have. -/
def shapesL : List (ByteArray × List Wk) :=
  [(⟨#[116, 97, 107, 101]⟩, [.a, .n]), (⟨#[115, 101, 116]⟩, [.a, .v]), (⟨#[102, 111, 114, 107]⟩, [.a, .b, .v]),
   (⟨#[115, 116, 101, 112]⟩, []), (⟨#[98, 97, 99, 107]⟩, []), (⟨#[115, 104, 111, 119]⟩, []), (⟨#[108, 105, 115, 116]⟩, []),
   (⟨#[103, 111]⟩, [.n]), (⟨#[105, 110, 112, 117, 116]⟩, [.n]), (⟨#[108, 105, 110, 101]⟩, [.n]),
   (⟨#[115, 119, 105, 116, 99, 104]⟩, [.a]), (⟨#[100, 105, 102, 102]⟩, [.a]), (⟨#[102, 105, 114, 115, 116]⟩, [.a]), (⟨#[112, 114, 117, 110, 101]⟩, [.a]), (⟨#[119, 97, 116, 99, 104]⟩, [.a]),
   (⟨#[114, 101, 110, 97, 109, 101]⟩, [.a, .b]), (⟨#[114, 101, 98, 97, 115, 101]⟩, [.a, .b])]
end Go.Proofs.YtngnipjfjhackaaDoor
