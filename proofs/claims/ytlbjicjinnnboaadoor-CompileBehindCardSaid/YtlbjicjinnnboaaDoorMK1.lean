/- MK1: TrT, CkMem, CkProg, CkSt, CkA, CkB, CkBin, CkC. -/
import Derived.Test.YtlbjicjinnnboaaDoorME
import Derived.Test.YtlbjicjinnnboaaDoorMSg
set_option linter.unusedVariables false
set_option linter.unusedSimpArgs false
/- Trees in memory: nodes, what is below them. -/
namespace Go.Proofs.YtlbjicjinnnboaaDoor
open Go.RowKit
theorem fnCells_all : ∀ {fs : List FuncM} {vs : List Value} {j : Nat} {f : FuncM} {v : Value}, fs[j]? = some f → vs[j]? = some v → ∀ i u, (fnCell f v)[i]? = some u → (fnCells fs vs)[j * 5 + i]? = some u
 | [], _, _, _, _, h, _ => by simp at h
 | _ :: _, [], _, _, _, _, h => by simp at h
 | a :: fs, b :: vs, 0, f, v, h, h2 => by
  simp at h h2; subst h; subst h2
  intro i u hu
  rw [fnCells, List.getElem?_append_left (by have := (List.getElem?_eq_some_iff.1 hu).1; omega), Nat.zero_mul, Nat.zero_add]
  exact hu
 | a :: fs, b :: vs, j + 1, f, v, h, h2 => by
  intro i u hu
  have := fnCells_all (fs := fs) (vs := vs) (j := j) (by simpa using h) (by simpa using h2) i u hu
  rw [fnCells, List.getElem?_append_right (by simp [fnCell]; omega), show (fnCell a b).length = 5 from rfl, show (j + 1) * 5 + i - 5 = j * 5 + i by omega]
  exact this
theorem paramCells_get : ∀ {l : List (List UInt8 × Nat)} {i : Nat} {q : List UInt8 × Nat}, l[i]? = some q → (paramCells l)[i * 2]? = some (.string (bs q.1)) ∧ (paramCells l)[i * 2 + 1]? = some (.int .i64 (q.2 : Nat))
 | [], _, _, h => by simp at h
 | a :: l, 0, q, h => by simp at h; subst h; exact ⟨rfl, rfl⟩
 | a :: l, i + 1, q, h => by
  have ih := paramCells_get (l := l) (i := i) (by simpa using h)
  have e : paramCells (a :: l) = .string (bs a.1) :: .int .i64 (a.2 : Nat) :: paramCells l := rfl
  rw [e, show (i + 1) * 2 = i * 2 + 1 + 1 by omega, List.getElem?_cons_succ, List.getElem?_cons_succ, show i * 2 + 1 + 1 + 1 = (i * 2 + 1) + 1 + 1 by omega, List.getElem?_cons_succ, List.getElem?_cons_succ]
  exact ih
theorem nodesCells_get : ∀ {ns : List NodeM} {vs : List Value} {j : Nat} {nd : NodeM} {v : Value}, ns[j]? = some nd → vs[j]? = some v → ∀ i u, (nodeCells nd v)[i]? = some u → (nodesCells ns vs)[j * 5 + i]? = some u
 | [], _, _, _, _, h, _ => by simp at h
 | _ :: _, [], _, _, _, _, h => by simp at h
 | a :: ns, b :: vs, 0, nd, v, h, h2 => by
  simp at h h2; subst h; subst h2
  intro i u hu
  rw [nodesCells, List.getElem?_append_left (by have := (List.getElem?_eq_some_iff.1 hu).1; omega), Nat.zero_mul, Nat.zero_add]
  exact hu
 | a :: ns, b :: vs, j + 1, nd, v, h, h2 => by
  intro i u hu
  have := nodesCells_get (ns := ns) (vs := vs) (j := j) (by simpa using h) (by simpa using h2) i u hu
  rw [nodesCells, List.getElem?_append_right (by simp [nodeCells]; omega), show (nodeCells a b).length = 5 from rfl, show (j + 1) * 5 + i - 5 = j * 5 + i by omega]
  exact this
theorem Below2.get {w : World} : ∀ {ns : List NodeM} {vs : List Value} {j : Nat} {nd : NodeM} {v : Value}, Below2 w ns vs → ns[j]? = some nd → vs[j]? = some v → Own w 3 1 v nd.l.length (ints nd.l)
 | [], _, _, _, _, _, h, _ => by simp at h
 | _ :: _, [], _, _, _, _, _, h => by simp at h
 | a :: ns, b :: vs, 0, nd, v, hp, h, h2 => by simp at h h2; subst h; subst h2; exact hp.1
 | a :: ns, b :: vs, j + 1, nd, v, hp, h, h2 => Below2.get hp.2 (by simpa using h) (by simpa using h2)
section
variable {g : Nat} {lvs pvs : List Value} {ns : List NodeM} {fs : List FuncM} {w0 w w' : World} {out : List UInt8} {NA FA : Option Addr} {NC FC : Nat}
theorem TreeAt.node {B : Nat} {nv fv : Value} (h : TreeAt B w nv fv lvs pvs ns fs) {x : Nat} {nd : NodeM} (hx : ns[x]? = some nd) : ∃ nb c lv, nv = .slice (some ⟨nb, 0, none⟩) ns.length c ∧ ns.length ≤ c ∧ Own w 3 1 lv nd.l.length (ints nd.l) ∧
  w.cell? ⟨nb, x * 5, none⟩ = some (.int .i64 nd.kind) ∧ w.cell? ⟨nb, x * 5 + 1, none⟩ = some (.int .i64 nd.line) ∧ w.cell? ⟨nb, x * 5 + 2, none⟩ = some (.int .i64 nd.n) ∧ w.cell? ⟨nb, x * 5 + 3, none⟩ = some (.string (bs nd.name)) ∧ w.cell? ⟨nb, x * 5 + 4, none⟩ = some lv := by
 have hlt := (List.getElem?_eq_some_iff.1 hx).1
 obtain ⟨A, c, rfl, hc, _⟩ := h.nodes.cap
 obtain ⟨nb, rfl, hcell⟩ := h.nodes.some (by omega)
 obtain ⟨lv, hlv⟩ : ∃ lv, lvs[x]? = some lv := ⟨_, List.getElem?_eq_getElem (by have := h.same; omega)⟩
 have key := nodesCells_get hx hlv
 exact ⟨nb, c, lv, rfl, hc, h.below.get hx hlv, hcell _ _ (key 0 _ rfl), hcell _ _ (key 1 _ rfl), hcell _ _ (key 2 _ rfl), hcell _ _ (key 3 _ rfl), hcell _ _ (key 4 _ rfl)⟩
theorem kids_get {v : Value} {l : List Nat} (h : Own w 3 1 v l.length (ints l)) (h0 : 0 < l.length) : ∃ kb c, v = .slice (some ⟨kb, 0, none⟩) l.length c ∧ l.length ≤ c ∧ ∀ j a, l[j]? = some a → w.cell? ⟨kb, j, none⟩ = some (.int .i64 (a : Nat)) := by
 obtain ⟨A, c, rfl, hc, _⟩ := h.cap
 obtain ⟨kb, rfl, hcell⟩ := h.some h0
 exact ⟨kb, c, rfl, hc, fun j a ha => hcell _ _ (by simp [ints, ha])⟩
end
section
variable {nv fv : Value} {lvs pvs : List Value} {ns : List NodeM} {fs : List FuncM} {w w' : World}
theorem TreeAt.no (h : TreeAt 0 w nv fv lvs pvs ns fs) (f : Fr nob w w') : TreeAt 0 w' nv fv lvs pvs ns fs :=
 ⟨h.nodes.fr f (fun _ _ x => x), h.below.no f, h.same, h.fns.fr f (fun _ _ x => x), h.pars.to f (fun _ _ _ x => x), h.samef, h.newn, h.newf⟩
theorem TreeAt.node3 {B nb c : Nat} {fv : Value} (h : TreeAt B w (.slice (some ⟨nb, 0, none⟩) ns.length c) fv lvs pvs ns fs) {x : Nat} {nd : NodeM} (hx : ns[x]? = some nd) {lv : Value} (hlv : lvs[x]? = some lv) : Own w 3 1 lv nd.l.length (ints nd.l) ∧
  w.cell? ⟨nb, x * 5, none⟩ = some (.int .i64 nd.kind) ∧ w.cell? ⟨nb, x * 5 + 1, none⟩ = some (.int .i64 nd.line) ∧ w.cell? ⟨nb, x * 5 + 2, none⟩ = some (.int .i64 nd.n) ∧ w.cell? ⟨nb, x * 5 + 3, none⟩ = some (.string (bs nd.name)) ∧ w.cell? ⟨nb, x * 5 + 4, none⟩ = some lv := by
 have hlt := (List.getElem?_eq_some_iff.1 hx).1
 obtain ⟨nb', e, hcell⟩ := h.nodes.some (by omega)
 injection e with e
 injection e with e
 subst e
 have key := nodesCells_get hx hlv
 exact ⟨h.below.get hx hlv, hcell _ _ (key 0 _ rfl), hcell _ _ (key 1 _ rfl), hcell _ _ (key 2 _ rfl), hcell _ _ (key 3 _ rfl), hcell _ _ (key 4 _ rfl)⟩
theorem TreeAt.fn {B fb c : Nat} {w : World} (h : TreeAt B w nv (.slice (some ⟨fb, 0, none⟩) fs.length c) lvs pvs ns fs) {j : Nat} {f : FuncM} (hf : fs[j]? = some f) : ∃ pv, Own w 80 2 pv f.params.length (paramCells f.params) ∧
  w.cell? ⟨fb, j * 5, none⟩ = some (.string (bs f.name)) ∧ w.cell? ⟨fb, j * 5 + 1, none⟩ = some (.int .i64 f.line) ∧ w.cell? ⟨fb, j * 5 + 2, none⟩ = some pv ∧ w.cell? ⟨fb, j * 5 + 3, none⟩ = some (.int .i64 f.ret) ∧ w.cell? ⟨fb, j * 5 + 4, none⟩ = some (.int .i64 f.body) := by
 have hlt := (List.getElem?_eq_some_iff.1 hf).1
 obtain ⟨fb', e, hcell⟩ := h.fns.some (by omega)
 injection e with e
 injection e with e
 subst e
 obtain ⟨pv, hpv⟩ : ∃ pv, pvs[j]? = some pv := ⟨_, List.getElem?_eq_getElem (by have := h.samef; omega)⟩
 have key := fnCells_all hf hpv
 exact ⟨pv, h.pars.get hf hpv, hcell _ _ (key 0 _ rfl), hcell _ _ (key 1 _ rfl), hcell _ _ (key 2 _ rfl), hcell _ _ (key 3 _ rfl), hcell _ _ (key 4 _ rfl)⟩
end
theorem TreeAt.zero {B : Nat} {w : World} {nv fv : Value} {lvs pvs : List Value} {ns : List NodeM} {fs : List FuncM} (h : TreeAt B w nv fv lvs pvs ns fs) : TreeAt 0 w nv fv lvs pvs ns fs :=
 ⟨h.nodes, h.below, h.same, h.fns, h.pars, h.samef, fun _ _ => Nat.zero_le _, fun _ _ => Nat.zero_le _⟩
open Pw
theorem TyVar : SlTy Tryd.prog 65 84 3 32 (.agg #[.string ⟨#[]⟩, .int .i64 0, .int .i64 0]) := SlTy.mk' (by kernel_rfl) (by kernel_rfl) rfl (by decide)
def intsI (l : List Int) : List Value := l.map fun x => Value.int .i64 x
def varCells (l : List VarM) : List Value := l.flatMap fun v => [.string (bs v.name), .int .i64 (v.ty : Nat), .int .i64 (v.slot : Nat)]
theorem varCells_snoc (l : List VarM) (v : VarM) : varCells (l ++ [v]) = varCells l ++ [.string (bs v.name), .int .i64 (v.ty : Nat), .int .i64 (v.slot : Nat)] := by
 unfold varCells; rw [List.flatMap_append]; simp
theorem varCells_get : ∀ {l : List VarM} {j : Nat} {v : VarM}, l[j]? = some v → (varCells l)[j * 3]? = some (.string (bs v.name)) ∧ (varCells l)[j * 3 + 1]? = some (.int .i64 (v.ty : Nat)) ∧ (varCells l)[j * 3 + 2]? = some (.int .i64 (v.slot : Nat))
 | [], _, _, h => by simp at h
 | a :: l, 0, v, h => by simp at h; subst h; exact ⟨rfl, rfl, rfl⟩
 | a :: l, j + 1, v, h => by
  have := varCells_get (l := l) (j := j) (v := v) (by simpa using h)
  have e : varCells (a :: l) = [.string (bs a.name), .int .i64 (a.ty : Nat), .int .i64 (a.slot : Nat)] ++ varCells l := rfl
  rw [e, List.getElem?_append_right (by simp; omega), List.getElem?_append_right (by simp; omega), List.getElem?_append_right (by simp; omega)]
  simp only [List.length_cons, List.length_nil]
  rw [show (j + 1) * 3 - (0 + 1 + 1 + 1) = j * 3 by omega, show (j + 1) * 3 + 1 - (0 + 1 + 1 + 1) = j * 3 + 1 by omega, show (j + 1) * 3 + 2 - (0 + 1 + 1 + 1) = j * 3 + 2 by omega]
  exact this
theorem varCells_take (l : List VarM) (n : Nat) : (varCells l).take (n * 3) = varCells (l.take n) := by
 induction l generalizing n with
 | nil => simp [varCells]
 | cons a l ih =>
  cases n with
  | zero => simp [varCells]
  | succ n =>
   have e : ∀ m, varCells (a :: m) = [.string (bs a.name), .int .i64 (a.ty : Nat), .int .i64 (a.slot : Nat)] ++ varCells m := fun _ => rfl
   rw [List.take_succ_cons, e, e, ← ih n, List.take_append]
   simp only [List.length_cons, List.length_nil]
   rw [show (n + 1) * 3 - (0 + 1 + 1 + 1) = n * 3 by omega, List.take_of_length_le (by simp; omega)]
structure Geo where
 M : Nat
 B : Nat
 Z : Nat
 g : Nat
 bt : Nat
 bs : Nat
 bf : Nat
 ct : Nat
 cs : Nat
 cf : Nat
 nv : Value
 fv : Value
 lvs : List Value
 pvs : List Value
 ns : List NodeM
 fs : List FuncM
def VarTy (w : World) (k : Nat) : Prop := ∃ cs f, w.heap[k]? = some (.cells cs 84 f)
def FrK (G : Geo) (w w' : World) : Prop := Fr (fun k => k = G.g ∨ k = G.bt ∨ k = G.bs ∨ k = G.bf ∨ (G.B ≤ k ∧ VarTy w k)) w w'
section
variable {G : Geo} {w w1 w2 w' : World}
theorem FrK.refl (G : Geo) (w : World) : FrK G w w := Fr.refl _ w
theorem FrK.no (h : Fr nob w w1) : FrK G w w1 := Fr.ofNo h
theorem FrK.trans (h : FrK G w w1) (h2 : FrK G w1 w2) : FrK G w w2 := by
 refine Fr.trans h h2 (fun _ _ x => x) (fun k hk hM => ?_)
 rcases hM with e | e | e | e | ⟨hb, cs, f, hc⟩
 · exact .inl e
 · exact .inr (.inl e)
 · exact .inr (.inr (.inl e))
 · exact .inr (.inr (.inr (.inl e)))
 · by_cases hn : k = G.g ∨ k = G.bt ∨ k = G.bs ∨ k = G.bf ∨ (G.B ≤ k ∧ VarTy w k)
   · exact hn
   · have := h.block k hk hn
     exact .inr (.inr (.inr (.inr ⟨hb, cs, f, by rw [← this]; exact hc⟩)))
theorem FrK.far (h : FrK G w w') {b t : Nat} {cs : Array Value} (hb : Blk w b t cs) (h0 : b ≠ G.g) (h1 : b ≠ G.bt) (h2 : b ≠ G.bs) (h3 : b ≠ G.bf) (h4 : t ≠ 84) : Blk w' b t cs := by
 refine hb.fr h ?_
 rintro (e | e | e | e | ⟨_, cs', f, hc⟩)
 · exact h0 e
 · exact h1 e
 · exact h2 e
 · exact h3 e
 · unfold Blk at hb
   rw [hb] at hc
   injection hc with hc
   injection hc with _ ht
   exact h4 ht
theorem FrK.low (h : FrK G w w') {b : Nat} (hl : b < w.heap.size) (hB : b < G.B) (h0 : G.B ≤ G.g) (h1 : G.B ≤ G.bt) (h2 : G.B ≤ G.bs) (h3 : G.B ≤ G.bf) : w'.heap[b]? = w.heap[b]? := by
 refine h.block b hl ?_
 rintro (e | e | e | e | ⟨e, _⟩) <;> omega
end
theorem Own.keep {w w' : World} {e size n : Nat} {v : Value} {xs : List Value} (h : Own w e size v n xs) (hk : ∀ b, blk v = Option.some b → w'.heap[b]? = w.heap[b]?) : Own w' e size v n xs := by
 obtain ⟨hl, A, c, rfl, h | ⟨g, cur, rfl, h0, hb, r⟩⟩ := h
 · exact ⟨hl, A, c, rfl, .inl h⟩
 · refine ⟨hl, _, c, rfl, .inr ⟨g, cur, rfl, h0, ?_, r⟩⟩
   unfold Blk at hb ⊢
   rw [hk g (by simp [blk]; omega)]; exact hb
theorem Below2.keep {w w' : World} {K : Nat → Prop} (hk : ∀ b, K b → w'.heap[b]? = w.heap[b]?) : ∀ {ns : List NodeM} {vs : List Value}, Below2 w ns vs → (∀ v ∈ vs, ∀ b, blk v = some b → K b) → Below2 w' ns vs
 | [], [], _, _ => trivial
 | [], _ :: _, h, _ => h.elim
 | _ :: _, [], h, _ => h.elim
 | _ :: _, v :: _, h, hv => ⟨h.1.keep fun b hb => hk b (hv v List.mem_cons_self b hb), Below2.keep hk h.2 fun u hu => hv u (List.mem_cons_of_mem _ hu)⟩
theorem ParAll.keep {w w' : World} {K : Nat → Prop} (hk : ∀ b, K b → w'.heap[b]? = w.heap[b]?) : ∀ {fs : List FuncM} {vs : List Value}, ParAll w fs vs → (∀ v ∈ vs, ∀ b, blk v = some b → K b) → ParAll w' fs vs
 | [], [], _, _ => trivial
 | [], _ :: _, h, _ => h.elim
 | _ :: _, [], h, _ => h.elim
 | _ :: _, v :: _, h, hv => ⟨h.1.keep fun b hb => hk b (hv v List.mem_cons_self b hb), ParAll.keep hk h.2 fun u hu => hv u (List.mem_cons_of_mem _ hu)⟩
theorem Below2.lt {w : World} : ∀ {ns : List NodeM} {vs : List Value}, Below2 w ns vs → ∀ v ∈ vs, ∀ b, blk v = some b → b < w.heap.size
 | [], [], _, v, hv, _, _ => by cases hv
 | [], _ :: _, h, _, _, _, _ => h.elim
 | _ :: _, [], h, _, _, _, _ => h.elim
 | _ :: _, u :: us, h, v, hv, b, hb => by
  rcases List.mem_cons.1 hv with e | hv
  · subst e; exact h.1.blk_lt hb
  · exact Below2.lt h.2 v hv b hb
theorem ParAll.lt {w : World} : ∀ {fs : List FuncM} {vs : List Value}, ParAll w fs vs → ∀ v ∈ vs, ∀ b, blk v = some b → b < w.heap.size
 | [], [], _, v, hv, _, _ => by cases hv
 | [], _ :: _, h, _, _, _, _ => h.elim
 | _ :: _, [], h, _, _, _, _ => h.elim
 | _ :: _, u :: us, h, v, hv, b, hb => by
  rcases List.mem_cons.1 hv with e | hv
  · subst e; exact h.1.blk_lt hb
  · exact ParAll.lt h.2 v hv b hb
structure TreeLow (B : Nat) (w : World) (nv fv : Value) (lvs pvs : List Value) (ns : List NodeM) (fs : List FuncM) : Prop where
 tree : TreeAt 0 w nv fv lvs pvs ns fs
 hn : ∀ b, blk nv = some b → b < B
 hf : ∀ b, blk fv = some b → b < B
 hl : ∀ v ∈ lvs, ∀ b, blk v = some b → b < B
 hp : ∀ v ∈ pvs, ∀ b, blk v = some b → b < B
 le : B ≤ w.heap.size
section
variable {B : Nat} {w w' : World} {nv fv : Value} {lvs pvs : List Value} {ns : List NodeM} {fs : List FuncM}
theorem TreeLow.of (h : TreeAt 0 w nv fv lvs pvs ns fs) : TreeLow w.heap.size w nv fv lvs pvs ns fs :=
 ⟨h, fun b hb => h.nodes.blk_lt hb, fun b hb => h.fns.blk_lt hb, fun v hv b hb => h.below.lt v hv b hb, fun v hv b hb => h.pars.lt v hv b hb, Nat.le_refl _⟩
theorem TreeLow.keep (h : TreeLow B w nv fv lvs pvs ns fs) (hk : ∀ b, b < B → w'.heap[b]? = w.heap[b]?) (hs : w.heap.size ≤ w'.heap.size) : TreeLow B w' nv fv lvs pvs ns fs :=
 ⟨⟨h.tree.nodes.keep fun b hb => hk b (h.hn b hb), h.tree.below.keep hk h.hl, h.tree.same, h.tree.fns.keep fun b hb => hk b (h.hf b hb), h.tree.pars.keep hk h.hp, h.tree.samef, h.tree.newn, h.tree.newf⟩, h.hn, h.hf, h.hl, h.hp, Nat.le_trans h.le hs⟩
end
structure ProgAt (w : World) (nv fv tv sv uv zv : Value) (lvs pvs : List Value) (p : ProgM) : Prop where
 tree : TreeAt 0 w nv fv lvs pvs p.ns p.fs
 types : Own w 3 1 tv p.types.length (ints p.types)
 slots : Own w 3 1 sv p.slots.length (intsI p.slots)
 fn : Own w 3 1 uv p.fn.length (ints p.fn)
 sizes : Own w 3 1 zv p.sizes.length (ints p.sizes)
def noneP : Value := .agg #[.slice none 0 0, .slice none 0 0, .slice none 0 0, .slice none 0 0, .slice none 0 0, .slice none 0 0]
def CheckAt (w : World) (en : Ending) (nv fv : Value) (lvs pvs : List Value) : CkR ProgM → Prop
 | .bad e p => en = .returned (.tuple #[noneP, .int .i64 (p : Nat), .int .i64 (e : Nat)]) ∧ e ≠ 0 ∧ e ≤ 99
 | .good p => ∃ tv sv uv zv, en = .returned (.tuple #[.agg #[nv, fv, tv, sv, uv, zv], .int .i64 0, .int .i64 0]) ∧ ProgAt w nv fv tv sv uv zv lvs pvs p
theorem ProgAt.no {w w' : World} {nv fv tv sv uv zv : Value} {lvs pvs : List Value} {p : ProgM} (h : ProgAt w nv fv tv sv uv zv lvs pvs p) (f : Fr nob w w') : ProgAt w' nv fv tv sv uv zv lvs pvs p :=
 ⟨h.tree.no f, h.types.fr f (fun _ _ x => x), h.slots.fr f (fun _ _ x => x), h.fn.fr f (fun _ _ x => x), h.sizes.fr f (fun _ _ x => x)⟩
theorem CheckAt.no {w w' : World} {en : Ending} {nv fv : Value} {lvs pvs : List Value} {r : CkR ProgM} (h : CheckAt w en nv fv lvs pvs r) (f : Fr nob w w') : CheckAt w' en nv fv lvs pvs r := by
 cases r with
 | bad e p => exact h
 | good p => obtain ⟨tv, sv, uv, zv, he, hp⟩ := h; exact ⟨tv, sv, uv, zv, he, hp.no f⟩
section
variable {g : Nat} {nv fv : Value} {lvs pvs : List Value} {ns : List NodeM} {fs : List FuncM}
theorem TreeAt.farG {w w' : World} (h : TreeAt 0 w nv fv lvs pvs ns fs) {t : TypeId} {cs : Array Value} (hb : Blk w g t cs) (h1 : t ≠ 49) (h2 : t ≠ 3) (h3 : t ≠ 43) (h4 : t ≠ 80) (f : Fr (oneb g) w w') : TreeAt 0 w' nv fv lvs pvs ns fs := by
 have own : ∀ {e size n : Nat} {v : Value} {xs : List Value}, Own w e size v n xs → e ≠ t → ∀ b, blk v = some b → ¬ oneb g b := fun ho hne b hb' hm => by
  have hm : b = g := hm
  subst hm
  exact ho.blk_ne hb hne hb'
 have below : ∀ {ns : List NodeM} {vs : List Value}, Below2 w ns vs → Below2 w' ns vs := by
  intro ns
  induction ns with
  | nil => intro vs hb; cases vs with
   | nil => trivial
   | cons _ _ => exact hb.elim
  | cons n ns ih => intro vs hb; cases vs with
   | nil => exact hb.elim
   | cons u vs => exact ⟨hb.1.fr f (own hb.1 (fun e => h2 e.symm)), ih hb.2⟩
 exact ⟨h.nodes.fr f (own h.nodes (fun e => h1 e.symm)), below h.below, h.same, h.fns.fr f (own h.fns (fun e => h3 e.symm)), h.pars.to f (fun b cs' hc hm => by
  have hm : b = g := hm
  subst hm
  exact hc.ne hb (fun e => h4 e.symm) rfl), h.samef, h.newn, h.newf⟩
end
def ckCells (G : Geo) (zv vv : Value) (k size e p : Nat) : Array Value :=
 #[G.nv, G.fv, .slice (some ⟨G.bt, 0, none⟩) G.ns.length G.ct, .slice (some ⟨G.bs, 0, none⟩) G.ns.length G.cs, .slice (some ⟨G.bf, 0, none⟩) G.ns.length G.cf, zv, .int .i64 (k : Nat), vv, .int .i64 (size : Nat), .int .i64 (e : Nat), .int .i64 (p : Nat)]
structure GeoOk (G : Geo) : Prop where
 hM : G.M ≤ 1000
 hg : G.B ≤ G.g
 ht : G.B ≤ G.bt
 hs : G.B ≤ G.bs
 hf : G.B ≤ G.bf
 lg : G.g < G.Z
 lt : G.bt < G.Z
 ls : G.bs < G.Z
 lf : G.bf < G.Z
 ts : G.bt ≠ G.bs
 tf : G.bt ≠ G.bf
 sf : G.bs ≠ G.bf
 pos : 0 < G.ns.length
 few : G.ns.length ≤ 300
 fewf : G.fs.length ≤ 6
 fewp : ∀ f ∈ G.fs, f.params.length ≤ 3
 fewk : ∀ nd ∈ G.ns, nd.l.length ≤ 300
 ok : TreeOk G.ns G.fs
structure Ck (G : Geo) (w : World) (s : CkS) (zs : List Nat) (k e p : Nat) : Prop where
 geo : GeoOk G
 tree : TreeLow G.B w G.nv G.fv G.lvs G.pvs G.ns G.fs
 ex : ∃ zv vv, Blk w G.g 67 (ckCells G zv vv k s.size e p) ∧
  Own w 3 1 zv zs.length (ints zs) ∧ (∀ b, blk zv = some b → G.B ≤ b ∧ b ≠ G.bt ∧ b ≠ G.bs ∧ b ≠ G.bf ∧ b < G.Z) ∧
  Own w 84 3 vv s.vars.length (varCells s.vars) ∧ (∀ b, blk vv = some b → G.B ≤ b)
 types : Own w 3 1 (.slice (some ⟨G.bt, 0, none⟩) G.ns.length G.ct) G.ns.length (ints s.types)
 slots : Own w 3 1 (.slice (some ⟨G.bs, 0, none⟩) G.ns.length G.cs) G.ns.length (intsI s.slots)
 fn : Own w 3 1 (.slice (some ⟨G.bf, 0, none⟩) G.ns.length G.cf) G.ns.length (ints s.fn)
 kk : k < G.fs.length
 size : s.size ≤ G.M
 fine : e = 0 → s.size ≤ 24
 vars : s.vars.length ≤ s.size
 zs : zs.length ≤ 1000
 zle : G.Z ≤ w.heap.size
theorem blk_rowP {b n c : Nat} (hn : 0 < n) (hc : n ≤ c) : blk (.slice (some ⟨b, 0, none⟩) n c) = some b := by simp [blk]; omega
section
variable {G : Geo} {w w1 w2 w' : World} {s : CkS} {zs : List Nat} {k e p : Nat}
theorem Own.capn {w : World} {e size n m c : Nat} {A : Option Addr} {xs : List Value} (h : Own w e size (.slice A n c) m xs) : n ≤ c ∧ c ≤ maxLen ∧ n = m := by
 obtain ⟨A', c', hv, h1, h2⟩ := h.cap
 injection hv with _ e2 e3
 subst e2; subst e3
 exact ⟨h1, h2, rfl⟩
theorem Ck.blkT (h : Ck G w s zs k e p) : blk (.slice (some ⟨G.bt, 0, none⟩) G.ns.length G.ct) = some G.bt := blk_rowP h.geo.pos h.types.capn.1
theorem Ck.blkS (h : Ck G w s zs k e p) : blk (.slice (some ⟨G.bs, 0, none⟩) G.ns.length G.cs) = some G.bs := blk_rowP h.geo.pos h.slots.capn.1
theorem Ck.blkF (h : Ck G w s zs k e p) : blk (.slice (some ⟨G.bf, 0, none⟩) G.ns.length G.cf) = some G.bf := blk_rowP h.geo.pos h.fn.capn.1
theorem Ck.gne (h : Ck G w s zs k e p) : G.g ≠ G.bt ∧ G.g ≠ G.bs ∧ G.g ≠ G.bf := by
 obtain ⟨zv, vv, hb, _⟩ := h.ex
 refine ⟨fun e1 => ?_, fun e1 => ?_, fun e1 => ?_⟩
 · exact h.types.blk_ne hb (by decide) (by rw [h.blkT, e1])
 · exact h.slots.blk_ne hb (by decide) (by rw [h.blkS, e1])
 · exact h.fn.blk_ne hb (by decide) (by rw [h.blkF, e1])
theorem Ck.g_lt (h : Ck G w s zs k e p) : G.g < w.heap.size := by
 obtain ⟨zv, vv, hb, _⟩ := h.ex
 exact hb.lt
theorem Ck.keep (h : Ck G w s zs k e p) (hs : w.heap.size ≤ w'.heap.size) (hk : ∀ b, b < w.heap.size → (b < G.B ∨ b = G.g ∨ b = G.bt ∨ b = G.bs ∨ b = G.bf ∨ (G.B ≤ b ∧ VarTy w b) ∨ (∃ zv vv, w.cell? ⟨G.g, 5, none⟩ = some zv ∧ blk zv = some b ∧ vv = zv)) → w'.heap[b]? = w.heap[b]?) : Ck G w' s zs k e p := by
 obtain ⟨zv, vv, hb, hz, hz2, hv, hv2⟩ := h.ex
 have c5 : w.cell? ⟨G.g, 5, none⟩ = some zv := by simpa [ckCells] using hb.cell 5
 refine ⟨h.geo, h.tree.keep (fun b hb => hk b (Nat.lt_of_lt_of_le hb h.tree.le) (.inl hb)) hs, ⟨zv, vv, ?_, hz.keep (fun b hb => hk b (hz.blk_lt hb) (.inr (.inr (.inr (.inr (.inr (.inr ⟨zv, zv, c5, hb, rfl⟩))))))), hz2, hv.keep (fun b hb => hk b (hv.blk_lt hb) ?_), hv2⟩, h.types.keep (fun b hb => ?_), h.slots.keep (fun b hb => ?_), h.fn.keep (fun b hb => ?_), h.kk, h.size, h.fine, h.vars, h.zs, Nat.le_trans h.zle hs⟩
 · unfold Blk at hb ⊢
   rw [hk _ (Array.getElem?_eq_some_iff.1 hb).1 (.inr (.inl rfl))]; exact hb
 · obtain ⟨cs, hc⟩ := hv.ty hb
   exact .inr (.inr (.inr (.inr (.inr (.inl ⟨hv2 b hb, cs, _, hc⟩)))))
 · have := h.types.blk_lt hb
   rw [h.blkT] at hb; injection hb with hb; subst hb
   exact hk _ this (.inr (.inr (.inl rfl)))
 · have := h.slots.blk_lt hb
   rw [h.blkS] at hb; injection hb with hb; subst hb
   exact hk _ this (.inr (.inr (.inr (.inl rfl))))
 · have := h.fn.blk_lt hb
   rw [h.blkF] at hb; injection hb with hb; subst hb
   exact hk _ this (.inr (.inr (.inr (.inr (.inl rfl)))))
theorem not_var {t size n : Nat} {v : Value} {xs : List Value} (ho : Own w t size v n xs) (ht : t ≠ 84) {b : Nat} (hb : blk v = some b) : ¬ VarTy w b := by
 rintro ⟨cs, f, hc⟩
 obtain ⟨cs2, hc2⟩ := ho.ty hb
 unfold Blk at hc2
 rw [hc2] at hc
 injection hc with hc
 injection hc with _ h2
 exact ht h2
theorem Ck.no (h : Ck G w s zs k e p) (f : Fr nob w w') : Ck G w' s zs k e p := h.keep f.size fun b hb _ => f.block b hb (fun x => x)
theorem Ck.other (h : Ck G w s zs k e p) {M : Nat → Prop} (f : Fr M w w') (hM : ∀ b, M b → b < w.heap.size → G.Z ≤ b ∧ ¬ VarTy w b) : Ck G w' s zs k e p := by
 refine h.keep f.size fun b hb hk => f.block b hb fun hm => ?_
 obtain ⟨h1, h2⟩ := hM b hm hb
 obtain ⟨zv, vv, hbl, _, hz2, _⟩ := h.ex
 have c5 : w.cell? ⟨G.g, 5, none⟩ = some zv := by simpa [ckCells] using hbl.cell 5
 have g1 := h.geo.lg
 have g2 := h.geo.lt
 have g3 := h.geo.ls
 have g4 := h.geo.lf
 have g5 := h.geo.hg
 rcases hk with x | x | x | x | x | ⟨_, x⟩ | ⟨zv', vv', x, y, _⟩
 · omega
 · omega
 · omega
 · omega
 · omega
 · exact h2 x
 · rw [c5] at x; injection x with x; subst x
   have := (hz2 b y).2.2.2.2
   omega
theorem Ck.cells (h : Ck G w s zs k e p) : ∃ zv vv, w.cell? ⟨G.g, 0, none⟩ = some G.nv ∧ w.cell? ⟨G.g, 1, none⟩ = some G.fv ∧
  w.cell? ⟨G.g, 2, none⟩ = some (.slice (some ⟨G.bt, 0, none⟩) G.ns.length G.ct) ∧ w.cell? ⟨G.g, 3, none⟩ = some (.slice (some ⟨G.bs, 0, none⟩) G.ns.length G.cs) ∧ w.cell? ⟨G.g, 4, none⟩ = some (.slice (some ⟨G.bf, 0, none⟩) G.ns.length G.cf) ∧
  w.cell? ⟨G.g, 5, none⟩ = some zv ∧ w.cell? ⟨G.g, 6, none⟩ = some (.int .i64 (k : Nat)) ∧ w.cell? ⟨G.g, 7, none⟩ = some vv ∧ w.cell? ⟨G.g, 8, none⟩ = some (.int .i64 (s.size : Nat)) ∧ w.cell? ⟨G.g, 9, none⟩ = some (.int .i64 (e : Nat)) ∧ w.cell? ⟨G.g, 10, none⟩ = some (.int .i64 (p : Nat)) ∧
  (∀ i, w.frozen? ⟨G.g, i, none⟩ = false) ∧ Own w 84 3 vv s.vars.length (varCells s.vars) ∧ (∀ b, blk vv = some b → G.B ≤ b) := by
 obtain ⟨zv, vv, hb, hz, hz2, hv, hv2⟩ := h.ex
 refine ⟨zv, vv, ?_, ?_, ?_, ?_, ?_, ?_, ?_, ?_, ?_, ?_, ?_, fun i => hb.frozen i, hv, hv2⟩ <;> rw [hb.cell] <;> rfl
theorem Ck.setG (h : Ck G w s zs k e p) (j : Nat) (u : Value) {s' : CkS} {k' e' p' : Nat} (hc : ∀ zv vv, (ckCells G zv vv k s.size e p).setIfInBounds j u = ckCells G zv vv k' s'.size e' p') (h1 : s'.types = s.types) (h2 : s'.slots = s.slots) (h3 : s'.fn = s.fn) (h4 : s'.vars = s.vars)
  (hk : k' < G.fs.length) (hz : s'.size ≤ G.M) (hf : e' = 0 → s'.size ≤ 24) (hv : s'.vars.length ≤ s'.size) : Ck G (w.setCell ⟨G.g, j, none⟩ u) s' zs k' e' p' ∧ FrK G w (w.setCell ⟨G.g, j, none⟩ u) := by
 obtain ⟨zv, vv, hb, hz0, hz2, hv0, hv2⟩ := h.ex
 obtain ⟨n1, n2, n3⟩ := h.gne
 have hB := h.geo.hg
 refine ⟨⟨h.geo, h.tree.keep (fun b hb => ?_) (by simp), ⟨zv, vv, by rw [← hc]; exact hb.setCell j u, hz0.far (p := ⟨G.g, j, none⟩) (hz0.blk_ne hb (by decide)) u, hz2, by rw [h4]; exact hv0.far (p := ⟨G.g, j, none⟩) (hv0.blk_ne hb (by decide)) u, hv2⟩,
  by rw [h1]; exact h.types.far (p := ⟨G.g, j, none⟩) (h.types.blk_ne hb (by decide)) u, by rw [h2]; exact h.slots.far (p := ⟨G.g, j, none⟩) (h.slots.blk_ne hb (by decide)) u, by rw [h3]; exact h.fn.far (p := ⟨G.g, j, none⟩) (h.fn.blk_ne hb (by decide)) u, hk, hz, hf, hv, h.zs, by simpa using h.zle⟩,
  ((Fr.refl (oneb G.g) w).setCell ⟨G.g, j, none⟩ _ (fun _ => rfl)).mono (fun k _ e => .inl e)⟩
 exact Below.heap_setCell w ⟨G.g, j, none⟩ u b (by show b ≠ G.g; omega)
theorem Ck.setT (h : Ck G w s zs k e p) (j t : Nat) : Ck G (w.setCell ⟨G.bt, j, none⟩ (.int .i64 (t : Nat))) { s with types := s.types.set j t } zs k e p ∧ FrK G w (w.setCell ⟨G.bt, j, none⟩ (.int .i64 (t : Nat))) := by
 obtain ⟨zv, vv, hb, hz0, hz2, hv0, hv2⟩ := h.ex
 obtain ⟨n1, n2, n3⟩ := h.gne
 have hB := h.geo.ht
 refine ⟨⟨h.geo, h.tree.keep (fun b hb => ?_) (by simp), ⟨zv, vv, hb.far (p := ⟨G.bt, j, none⟩) n1 _, hz0.far (p := ⟨G.bt, j, none⟩) (fun e => (hz2 _ e).2.1 rfl) _, hz2, hv0.far (p := ⟨G.bt, j, none⟩) (fun e => h.types.blk_ne' hv0 (by decide) e h.blkT) _, hv2⟩,
  by have := h.types.store h.blkT j (.int .i64 (t : Nat)); rw [show (ints s.types).set j (.int .i64 (t : Nat)) = ints (s.types.set j t) by unfold ints; rw [List.map_set]] at this; exact this,
  h.slots.far (p := ⟨G.bt, j, none⟩) (by rw [h.blkS]; intro e; injection e with e; exact h.geo.ts e.symm) _, h.fn.far (p := ⟨G.bt, j, none⟩) (by rw [h.blkF]; intro e; injection e with e; exact h.geo.tf e.symm) _, h.kk, h.size, h.fine, h.vars, h.zs, by simpa using h.zle⟩,
  ((Fr.refl (oneb G.bt) w).setCell ⟨G.bt, j, none⟩ _ (fun _ => rfl)).mono (fun k _ e => .inr (.inl e))⟩
 exact Below.heap_setCell w ⟨G.bt, j, none⟩ _ b (by show b ≠ G.bt; omega)
theorem Ck.setS (h : Ck G w s zs k e p) (j : Nat) (t : Int) : Ck G (w.setCell ⟨G.bs, j, none⟩ (.int .i64 t)) { s with slots := s.slots.set j t } zs k e p ∧ FrK G w (w.setCell ⟨G.bs, j, none⟩ (.int .i64 t)) := by
 obtain ⟨zv, vv, hb, hz0, hz2, hv0, hv2⟩ := h.ex
 obtain ⟨n1, n2, n3⟩ := h.gne
 have hB := h.geo.hs
 refine ⟨⟨h.geo, h.tree.keep (fun b hb => ?_) (by simp), ⟨zv, vv, hb.far (p := ⟨G.bs, j, none⟩) n2 _, hz0.far (p := ⟨G.bs, j, none⟩) (fun e => (hz2 _ e).2.2.1 rfl) _, hz2, hv0.far (p := ⟨G.bs, j, none⟩) (fun e => h.slots.blk_ne' hv0 (by decide) e h.blkS) _, hv2⟩,
  h.types.far (p := ⟨G.bs, j, none⟩) (by rw [h.blkT]; intro e; injection e with e; exact h.geo.ts e) _,
  by have := h.slots.store h.blkS j (.int .i64 t); rw [show (intsI s.slots).set j (.int .i64 t) = intsI (s.slots.set j t) by unfold intsI; rw [List.map_set]] at this; exact this,
  h.fn.far (p := ⟨G.bs, j, none⟩) (by rw [h.blkF]; intro e; injection e with e; exact h.geo.sf e.symm) _, h.kk, h.size, h.fine, h.vars, h.zs, by simpa using h.zle⟩,
  ((Fr.refl (oneb G.bs) w).setCell ⟨G.bs, j, none⟩ _ (fun _ => rfl)).mono (fun k _ e => .inr (.inr (.inl e)))⟩
 exact Below.heap_setCell w ⟨G.bs, j, none⟩ _ b (by show b ≠ G.bs; omega)
theorem Ck.setF (h : Ck G w s zs k e p) (j t : Nat) : Ck G (w.setCell ⟨G.bf, j, none⟩ (.int .i64 (t : Nat))) { s with fn := s.fn.set j t } zs k e p ∧ FrK G w (w.setCell ⟨G.bf, j, none⟩ (.int .i64 (t : Nat))) := by
 obtain ⟨zv, vv, hb, hz0, hz2, hv0, hv2⟩ := h.ex
 obtain ⟨n1, n2, n3⟩ := h.gne
 have hB := h.geo.hf
 refine ⟨⟨h.geo, h.tree.keep (fun b hb => ?_) (by simp), ⟨zv, vv, hb.far (p := ⟨G.bf, j, none⟩) n3 _, hz0.far (p := ⟨G.bf, j, none⟩) (fun e => (hz2 _ e).2.2.2.1 rfl) _, hz2, hv0.far (p := ⟨G.bf, j, none⟩) (fun e => h.fn.blk_ne' hv0 (by decide) e h.blkF) _, hv2⟩,
  h.types.far (p := ⟨G.bf, j, none⟩) (by rw [h.blkT]; intro e; injection e with e; exact h.geo.tf e) _,
  h.slots.far (p := ⟨G.bf, j, none⟩) (by rw [h.blkS]; intro e; injection e with e; exact h.geo.sf e) _,
  by have := h.fn.store h.blkF j (.int .i64 (t : Nat)); rw [show (ints s.fn).set j (.int .i64 (t : Nat)) = ints (s.fn.set j t) by unfold ints; rw [List.map_set]] at this; exact this, h.kk, h.size, h.fine, h.vars, h.zs, by simpa using h.zle⟩,
  ((Fr.refl (oneb G.bf) w).setCell ⟨G.bf, j, none⟩ _ (fun _ => rfl)).mono (fun k _ e => .inr (.inr (.inr (.inl e))))⟩
 exact Below.heap_setCell w ⟨G.bf, j, none⟩ _ b (by show b ≠ G.bf; omega)
def Geo.more (G : Geo) : Geo := { G with M := G.M + 1 }
theorem GeoOk.more (h : GeoOk G) (hM : G.M ≤ 999) : GeoOk G.more := ⟨by show G.M + 1 ≤ 1000; omega, h.hg, h.ht, h.hs, h.hf, h.lg, h.lt, h.ls, h.lf, h.ts, h.tf, h.sf, h.pos, h.few, h.fewf, h.fewp, h.fewk, h.ok⟩
theorem Ck.more (h : Ck G w s zs k e p) (hM : G.M ≤ 999) : Ck G.more w s zs k e p := ⟨h.geo.more hM, h.tree, h.ex, h.types, h.slots, h.fn, h.kk, Nat.le_succ_of_le h.size, h.fine, h.vars, h.zs, h.zle⟩
theorem Ck.appV (h : Ck G w s zs k e p) {vv : Value} (hvv : w.cell? ⟨G.g, 7, none⟩ = some vv) {nm : List UInt8} {t : Nat} {o : Obj} {A : Option Addr} {c : Nat}
   (ho : Own w' 84 3 (.slice A (s.vars.length + 1) c) (s.vars.length + 1) (varCells s.vars ++ [.string (bs nm), .int .i64 (t : Nat), .int .i64 (s.size : Nat)]))
   (hf : Fr (obl (blk vv)) (w.alloc o) w') (hv : blk (.slice A (s.vars.length + 1) c) = blk vv ∨ blk (.slice A (s.vars.length + 1) c) = some (w.alloc o).heap.size) (hM : G.M ≤ 999) (hfine : e = 0 → s.size ≤ 23) :
   (w'.setCell ⟨G.g, 7, none⟩ (.slice A (s.vars.length + 1) c)).cell? ⟨G.g, 8, none⟩ = some (.int .i64 (s.size : Nat)) ∧ (∀ i, (w'.setCell ⟨G.g, 7, none⟩ (.slice A (s.vars.length + 1) c)).frozen? ⟨G.g, i, none⟩ = false) ∧
   Ck G.more ((w'.setCell ⟨G.g, 7, none⟩ (.slice A (s.vars.length + 1) c)).setCell ⟨G.g, 8, none⟩ (.int .i64 ((s.size : Int) + 1))) { s with vars := s.vars ++ [⟨nm, t, s.size⟩], size := s.size + 1 } zs k e p ∧
   FrK G w ((w'.setCell ⟨G.g, 7, none⟩ (.slice A (s.vars.length + 1) c)).setCell ⟨G.g, 8, none⟩ (.int .i64 ((s.size : Int) + 1))) := by
 obtain ⟨zv, vv', hb, hz0, hz2, hv0, hv2⟩ := h.ex
 have e7 : w.cell? ⟨G.g, 7, none⟩ = some vv' := by rw [hb.cell]; rfl
 rw [e7] at hvv
 injection hvv with hvv
 subst hvv
 have hBg := h.geo.hg
 have hBt := h.geo.ht
 have hBs := h.geo.hs
 have hBf := h.geo.hf
 have hle : G.B ≤ w.heap.size := h.tree.le
 have f0 : Fr nob w (w.alloc o) := (Fr.refl nob w).alloc o
 have far : ∀ {e' size n : Nat} {v : Value} {xs : List Value}, Own w e' size v n xs → e' ≠ 84 → ∀ b, blk v = some b → ¬ obl (blk vv') b := fun ho' hne b hb' hm => by
   have h1 : blk vv' = some b := hm
   exact ho'.blk_ne' hv0 hne h1 hb'
 have hb1 : Blk w' G.g 67 (ckCells G zv vv' k s.size e p) := (hb.fr f0 (fun x => x)).fr hf (fun hm => hv0.blk_ne hb (by decide) hm)
 have hb2 := hb1.setCell 7 (.slice A (s.vars.length + 1) c)
 have hb3 := hb2.setCell 8 (.int .i64 ((s.size : Int) + 1))
 have keep : ∀ b, b < G.B → ((w'.setCell ⟨G.g, 7, none⟩ (.slice A (s.vars.length + 1) c)).setCell ⟨G.g, 8, none⟩ (.int .i64 ((s.size : Int) + 1))).heap[b]? = w.heap[b]? := fun b hb' => by
   rw [Below.heap_setCell _ _ _ _ (by show b ≠ G.g; omega), Below.heap_setCell _ _ _ _ (by show b ≠ G.g; omega)]
   rw [hf.block b (by simp; omega) (fun hm => by have := hv2 b hm; omega)]
   exact Below.heap_alloc _ _ _ (by omega)
 have own2 : ∀ {e' n : Nat} {v : Value} {xs : List Value}, Own w e' 1 v n xs → e' ≠ 84 → blk v ≠ some G.g → Own ((w'.setCell ⟨G.g, 7, none⟩ (.slice A (s.vars.length + 1) c)).setCell ⟨G.g, 8, none⟩ (.int .i64 ((s.size : Int) + 1))) e' 1 v n xs := fun ho' hne hg =>
   (((ho'.fr f0 (fun _ _ x => x)).fr hf (far ho' hne)).far (p := ⟨G.g, 7, none⟩) hg _).far (p := ⟨G.g, 8, none⟩) hg _
 have hov : Own ((w'.setCell ⟨G.g, 7, none⟩ (.slice A (s.vars.length + 1) c)).setCell ⟨G.g, 8, none⟩ (.int .i64 ((s.size : Int) + 1))) 84 3 (.slice A (s.vars.length + 1) c) (s.vars.length + 1) (varCells (s.vars ++ [⟨nm, t, s.size⟩])) := by
   rw [varCells_snoc]
   exact (ho.far (p := ⟨G.g, 7, none⟩) (ho.blk_ne hb1 (by decide)) _).far (p := ⟨G.g, 8, none⟩) (ho.blk_ne hb1 (by decide)) _
 refine ⟨?_, fun i => hb2.frozen i, ⟨h.geo.more hM, h.tree.keep keep ?_, ⟨zv, .slice A (s.vars.length + 1) c, ?_, own2 hz0 (by decide) (hz0.blk_ne hb (by decide)), hz2, ?_, ?_⟩, own2 h.types (by decide) (h.types.blk_ne hb (by decide)), own2 h.slots (by decide) (h.slots.blk_ne hb (by decide)), own2 h.fn (by decide) (h.fn.blk_ne hb (by decide)), h.kk, ?_, fun h0 => ?_, ?_, h.zs, ?_⟩, ?_⟩
 · rw [hb2.cell]; rfl
 · have := hf.size; simp at this ⊢; omega
 · exact hb3
 · show Own _ _ _ _ (s.vars ++ [(⟨nm, t, s.size⟩ : VarM)]).length _
   rw [List.length_append]; exact hov
 · intro b hb'
   rcases hv with h9 | h9
   · exact hv2 b (h9 ▸ hb')
   · rw [hb'] at h9; injection h9 with h9; simp at h9; show G.B ≤ b; omega
 · show s.size + 1 ≤ G.M + 1; have := h.size; omega
 · show s.size + 1 ≤ 24; have := hfine h0; omega
 · show (s.vars ++ [(⟨nm, t, s.size⟩ : VarM)]).length ≤ s.size + 1; rw [List.length_append]; have := h.vars; simp; exact this
 · have := hf.size; have := h.zle; simp at this ⊢; show G.Z ≤ _; simp at *; omega
 · refine FrK.trans (FrK.no f0) (FrK.trans (w1 := w') (Fr.mono hf fun b hb' hm => ?_) ?_)
   · obtain ⟨cs, hc⟩ := hv0.ty (k := b) hm
     exact .inr (.inr (.inr (.inr ⟨hv2 b hm, cs, _, (hc.alloc o)⟩)))
   · exact (((Fr.refl (oneb G.g) w').setCell ⟨G.g, 7, none⟩ _ (fun _ => rfl)).setCell ⟨G.g, 8, none⟩ _ (fun _ => rfl)).mono (fun k _ e => .inl e)
theorem FrK.own (f : FrK G w w') {t size n : Nat} {v : Value} {xs : List Value} (ho : Own w t size v n xs) (h1 : t ≠ 84) (h2 : ∀ b, blk v = some b → b ≠ G.g ∧ b ≠ G.bt ∧ b ≠ G.bs ∧ b ≠ G.bf) : Own w' t size v n xs :=
 ho.keep fun b hb => f.block b (ho.blk_lt hb) (by
  obtain ⟨a1, a2, a3, a4⟩ := h2 b hb
  rintro (x | x | x | x | ⟨_, cs, f', hc⟩)
  · exact a1 x
  · exact a2 x
  · exact a3 x
  · exact a4 x
  · obtain ⟨cs2, hc2⟩ := ho.ty hb
    unfold Blk at hc2
    rw [hc2] at hc
    injection hc with hc
    injection hc with _ ht
    exact h1 ht)
end
def CkM (G : Geo) (w : World) (r : CkR CkS) (zs : List Nat) (k : Nat) : Prop := match r with
 | .good s => Ck G w s zs k 0 0
 | .bad e p => e ≠ 0 ∧ e ≤ 99 ∧ ∃ s, Ck G w s zs k e p
section
variable {G : Geo} {w w' : World} {r : CkR CkS} {zs : List Nat} {k : Nat}
theorem CkM.open_ (h : CkM G w r zs k) : ∃ s e p, Ck G w s zs k e p ∧ ((e = 0 ∧ p = 0 ∧ r = .good s) ∨ (e ≠ 0 ∧ e ≤ 99 ∧ r = .bad e p)) := by
 cases r with
 | good s => exact ⟨s, 0, 0, h, .inl ⟨rfl, rfl, rfl⟩⟩
 | bad e p => obtain ⟨h1, h2, s, h3⟩ := h; exact ⟨s, e, p, h3, .inr ⟨h1, h2, rfl⟩⟩
theorem CkM.no (h : CkM G w r zs k) (f : Fr nob w w') : CkM G w' r zs k := by
 cases r with
 | good s => exact Ck.no h f
 | bad e p => obtain ⟨h1, h2, s, h3⟩ := h; exact ⟨h1, h2, s, h3.no f⟩
theorem CkM.other (h : CkM G w r zs k) {M : Nat → Prop} (f : Fr M w w') (hM : ∀ b, M b → b < w.heap.size → G.Z ≤ b ∧ ¬ VarTy w b) : CkM G w' r zs k := by
 cases r with
 | good s => exact Ck.other h f hM
 | bad e p => obtain ⟨h1, h2, s, h3⟩ := h; exact ⟨h1, h2, s, h3.other f hM⟩
theorem CkM.geo (h : CkM G w r zs k) : GeoOk G := by
 obtain ⟨s, e, p, h, _⟩ := h.open_
 exact h.geo
theorem CkM.tree (h : CkM G w r zs k) : TreeLow G.B w G.nv G.fv G.lvs G.pvs G.ns G.fs := by
 obtain ⟨s, e, p, h, _⟩ := h.open_
 exact h.tree
end
section
variable {G : Geo} {w w' : World} {s : CkS} {r : CkR CkS} {zs : List Nat} {k e p : Nat}
set_option maxHeartbeats 1600000 in
set_option maxRecDepth 100000 in
theorem cfails_any (h : Ck G w s zs k e p) (e' x : Nat) (he' : e' ≠ 0) :
   Calls Tryd.prog 31 #[.pointer (some ⟨G.g, 0, none⟩), .int .i64 e', .int .i64 x] w fun en w' => en = .returned (.tuple #[]) ∧ Ck G w' s zs k (if e = 0 then e' else e) (if e = 0 then x else p) ∧ FrK G w w' := by
 obtain ⟨zv, vv, c0, c1, c2, c3, c4, c5, c6, c7, c8, c9, c10, hfz, _⟩ := h.cells
 have f9 := hfz 9
 have f10 := hfz 10
 have hg := h.g_lt
 have H := hid h
 by_cases he : e = 0
 · have heb : ((e : Int) == 0) = true := by rw [he]; rfl
   rw [if_pos he, if_pos he]
   have S1 := hid (h.setG 9 (.int .i64 (e' : Nat)) (s' := s) (k' := k) (e' := e') (p' := p) (fun _ _ => rfl) rfl rfl rfl rfl h.kk h.size (fun x => absurd x he') h.vars)
   clear h he c0 c1 c2 c3 c4 c5 c6 c7 c8 hfz
   go_enter Tryd.func31, Tryd.ntmps31
   go_wp2_with fail
   generalize w.setCell ⟨G.g, 9, none⟩ (.int .i64 (e' : Nat)) = w1 at *
   have S2 := hid (S1.out.1.setG 10 (.int .i64 (x : Nat)) (s' := s) (k' := k) (e' := e') (p' := x) (fun _ _ => rfl) rfl rfl rfl rfl S1.out.1.kk S1.out.1.size (fun x => absurd x he') S1.out.1.vars)
   have f10' : w1.frozen? ⟨G.g, 10, none⟩ = false := by
    obtain ⟨_, _, _, _, _, _, _, _, _, _, _, _, _, hfz, _⟩ := S1.out.1.cells
    exact hfz 10
   have c10' : w1.cell? ⟨G.g, 10, none⟩ = some (.int .i64 (p : Nat)) := by
    obtain ⟨_, _, _, _, _, _, _, _, _, _, _, _, c, _⟩ := S1.out.1.cells
    exact c
   clear c9 c10 f9 f10 heb
   go_wp2_with fail
   exact bodyPost_end (results_none rfl _ _ _) rfl ⟨rfl, S2.out.1, S1.out.2.trans S2.out.2⟩
 · have heb : ((e : Int) == 0) = false := beq_eq_false_iff_ne.2 (by omega)
   rw [if_neg he, if_neg he]
   clear h he c0 c1 c2 c3 c4 c5 c6 c7 c8 hfz
   go_enter Tryd.func31, Tryd.ntmps31
   go_wp2_with fail
   exact bodyPost_end (results_none rfl _ _ _) rfl ⟨rfl, H.out, FrK.refl _ _⟩
theorem CkM.fails (h : CkM G w r zs k) (e' x : Nat) (he' : e' ≠ 0) (h99 : e' ≤ 99) :
   Calls Tryd.prog 31 #[.pointer (some ⟨G.g, 0, none⟩), .int .i64 e', .int .i64 x] w fun en w' => en = .returned (.tuple #[]) ∧ CkM G w' (r.bind fun _ => .bad e' x) zs k ∧ FrK G w w' := by
 obtain ⟨s, e, p, h, hm⟩ := h.open_
 refine (cfails_any h e' x he').mono fun en w' ⟨h1, h2, h3⟩ => ⟨h1, ?_, h3⟩
 rcases hm with ⟨rfl, rfl, rfl⟩ | ⟨h0, h9, rfl⟩
 · exact ⟨he', h99, s, h2⟩
 · rw [if_neg h0, if_neg h0] at h2
   exact ⟨h0, h9, s, h2⟩
set_option maxHeartbeats 1600000 in
set_option maxRecDepth 100000 in
theorem CkM.must (h : CkM G w r zs k) (b : Bool) (x : Nat) :
  Calls Tryd.prog 60 #[.pointer (some ⟨G.g, 0, none⟩), .bool b, .int .i64 x] w fun en w' => en = .returned (.tuple #[]) ∧ CkM G w' (r.bind fun s => if b = true then .good s else .bad 42 x) zs k ∧ FrK G w w' := by
 have H := hid h
 clear h
 cases b with
 | true =>
  go_enter Tryd.func60, Tryd.ntmps60
  go_wp2_with fail
  refine bodyPost_end (results_none rfl _ _ _) rfl ⟨rfl, ?_, FrK.refl _ _⟩
  have := H.out
  cases r <;> exact this
 | false =>
  go_enter Tryd.func60, Tryd.ntmps60
  go_wp2_with fail
  refine (H.out.fails 42 x (by decide) (by decide)).mono ?_
  rintro en w1 ⟨rfl, h1, h2⟩
  have S1 := hid h1
  have F1 := hid h2
  clear h1 h2
  go_wp2_with fail
  refine bodyPost_end (results_none rfl _ _ _) rfl ⟨rfl, ?_, F1.out⟩
  have := S1.out
  cases r <;> exact this
def placeV (vars : List VarM) (name : List UInt8) : Option Nat := vars.findIdx? fun v => decide (v.name = name)
def placeI (o : Option Nat) : Int := match o with | some j => (j : Int) | none => -1
theorem placeV_at {vars : List VarM} {name : List UInt8} {j : Nat} {v : VarM} (hv : vars[j]? = some v) (he : v.name = name) (hb : ∀ i u, i < j → vars[i]? = some u → u.name ≠ name) : placeV vars name = some j := by
 obtain ⟨hl, e⟩ := List.getElem?_eq_some_iff.1 hv
 unfold placeV
 rw [List.findIdx?_eq_some_iff_getElem]
 refine ⟨hl, by rw [e]; exact decide_eq_true he, fun i hi => ?_⟩
 simpa using hb i _ hi (List.getElem?_eq_getElem (by omega))
theorem placeV_none {vars : List VarM} {name : List UInt8} (hb : ∀ i u, i < vars.length → vars[i]? = some u → u.name ≠ name) : placeV vars name = none := by
 unfold placeV
 rw [List.findIdx?_eq_none_iff]
 intro v hv
 obtain ⟨i, hi, e⟩ := List.getElem_of_mem hv
 exact decide_eq_false (hb i v hi (by rw [List.getElem?_eq_getElem hi, e]))
theorem placeV_find (vars : List VarM) (name : List UInt8) : findV vars name = (placeV vars name).bind fun j => vars[j]? := by
 unfold findV placeV
 induction vars with
 | nil => rfl
 | cons a l ih =>
  rw [List.find?_cons, List.findIdx?_cons]
  by_cases h : decide (a.name = name) = true
  · rw [h]; rfl
  · have h : decide (a.name = name) = false := by simpa using h
    rw [h, ih]
    cases List.findIdx? (fun v => decide (v.name = name)) l <;> rfl
theorem placeV_lt {vars : List VarM} {name : List UInt8} {j : Nat} (h : placeV vars name = some j) : j < vars.length := by
 unfold placeV at h
 exact (List.findIdx?_eq_some_iff_getElem.1 h).1
theorem bs_toList (a : List UInt8) : (bs a).toList = a := by rw [ByteArray.toList_eq]; rfl
theorem bs_eq {a b : List UInt8} : ((bs a).toList == (bs b).toList) = true ↔ a = b := by
 rw [bs_toList, bs_toList]; exact beq_iff_eq
set_option maxHeartbeats 1600000 in
set_option maxRecDepth 100000 in
theorem cfind_any (h : Ck G w s zs k e p) (name : List UInt8) :
  Calls Tryd.prog 32 #[.pointer (some ⟨G.g, 0, none⟩), .string (bs name)] w fun en w' => en = .returned (.int .i64 (placeI (placeV s.vars name))) ∧ Fr nob w w' := by
 obtain ⟨zv, vv, c0, c1, c2, c3, c4, c5, c6, c7, c8, c9, c10, hfz, hv, _⟩ := h.cells
 have hn : (s.vars.length : Int) ≤ 1000 := by have := h.vars; have := h.size; have := h.geo.hM; omega
 have hg := h.g_lt
 obtain ⟨VA, VC, rfl, _, _⟩ := hv.cap
 have HV := hid hv
 have C7 := hid c7
 obtain ⟨R, hR⟩ : ∃ R, placeI (placeV s.vars name) = R := ⟨_, rfl⟩
 rw [hR]
 generalize s.vars = vars at *
 have HR := hid hR
 clear hR
 clear h c0 c1 c2 c3 c4 c5 c6 c8 c9 c10 hfz hv c7
 go_enter Tryd.func32, Tryd.ntmps32
 go_wp2_with fail
 go_loopw [5] (fun i wr => ∃ j : Nat, j ≤ vars.length ∧ i = .int .i64 j ∧ Hid (∀ i u, i < j → vars[i]? = some u → u.name ≠ name) ∧ Hid (Fr nob w wr)) (fun i _ => vars.length - (intOf i).toNat)
 case atStart => exact ⟨0, Nat.zero_le _, rfl, hid (fun i u hi => absurd hi (Nat.not_lt_zero _)), hid (Fr.refl nob w)⟩
 case round =>
  obtain ⟨j, hj, rfl, HB, FR⟩ := hrel
  have c7 := (FR.out.cell (World.block_lt_of_cell? _ _ C7.out) (fun x => x)).trans C7.out
  by_cases hlt : j < vars.length
  · have hlt2 : (j : Int) < (vars.length : Int) := by omega
    obtain ⟨v, hv⟩ : ∃ v, vars[j]? = some v := ⟨_, List.getElem?_eq_getElem hlt⟩
    obtain ⟨vb, e, hc1⟩ := (HV.out.fr FR.out (fun _ _ x => x)).some (by omega)
    subst e
    have p0 := hc1 _ _ (varCells_get hv).1
    have HN := hid hv
    clear hc1 hv
    by_cases he : v.name = name
    · have q0 : ((bs v.name).toList == (bs name).toList) = true := bs_eq.2 he
      go_wp2_with fail
      go_ret
      refine ⟨?_, FR.out⟩
      rw [← HR.out, placeV_at HN.out he HB.out]; rfl
    · have q0 : ((bs v.name).toList == (bs name).toList) = false := by
       rw [Bool.eq_false_iff]; intro x; exact he (bs_eq.1 x)
      go_wp2_with fail
      go_roundw
      case rel =>
       refine ⟨j + 1, by omega, by go_num, hid (fun i u hi hu => ?_), FR⟩
       by_cases hij : i = j
       · subst hij
         rw [HN.out] at hu; injection hu with hu; subst hu; exact he
       · exact HB.out i u (by omega) hu
      case measure => simp [intOf]; omega
  · have hle : (vars.length : Int) ≤ (j : Int) := by omega
    go_wp2_with fail
    go_ret
    refine ⟨?_, FR.out⟩
    rw [← HR.out, placeV_none (fun i u hi => HB.out i u (by omega))]; rfl
end
section
variable {G : Geo} {w w' : World} {s : CkS} {r : CkR CkS} {zs : List Nat} {k e p : Nat}
def TellsK (G : Geo) (zs : List Nat) (k : Nat) (r : CkR (Nat × CkS)) (w : World) (en : Ending) (w' : World) : Prop :=
 ∃ t : Nat, en = .returned (.int .i64 t) ∧ CkM G w' (r.map (·.2)) zs k ∧ FrK G w w' ∧ ∀ q, r = .good q → q.1 = t
theorem CkM.slot_lt (h : CkM G w r zs k) : G.bs < w.heap.size ∧ G.bt < w.heap.size ∧ G.bf < w.heap.size ∧ G.g < w.heap.size := by
 obtain ⟨s, e, p, h, _⟩ := h.open_
 exact ⟨h.slots.blk_lt h.blkS, h.types.blk_lt h.blkT, h.fn.blk_lt h.blkF, h.g_lt⟩
set_option maxHeartbeats 4000000 in
set_option maxRecDepth 100000 in
theorem cnamed_any (h : Ck G w s zs k 0 0) {x : Nat} {nd : NodeM} (hx : G.ns[x]? = some nd) :
  Calls Tryd.prog 58 #[.pointer (some ⟨G.g, 0, none⟩), .int .i64 x] w (TellsK G zs k (namedC x nd.name s) w) := by
 obtain ⟨nb, nc, lv, hnv, _, _, _, _, _, x3, _⟩ := h.tree.tree.node hx
 obtain ⟨zv, vv, c0, _⟩ := h.cells
 rw [hnv] at c0
 have hx3 : (x : Int) < (G.ns.length : Int) := by have := (List.getElem?_eq_some_iff.1 hx).1; omega
 have hx4 : (G.ns.length : Int) ≤ 300 := by have := h.geo.few; omega
 have hg := h.g_lt
 have H := hid h
 cases hpl : placeV s.vars nd.name with
 | none =>
  have HF := hid (show Calls Tryd.prog 32 #[.pointer (some ⟨G.g, 0, none⟩), .string (bs nd.name)] w (fun en w' => en = .returned (.int .i64 (-1)) ∧ Fr nob w w') from by have := cfind_any h nd.name; rw [hpl] at this; exact this)
  have em : namedC x nd.name s = .bad 40 x := by unfold namedC; rw [placeV_find, hpl]; rfl
  rw [em]
  clear h hpl em hx
  go_enter Tryd.func58, Tryd.ntmps58
  go_wp2_with fail
  refine HF.out.mono ?_
  rintro en w1 ⟨rfl, hf⟩
  have S1 := hid (show CkM G w1 (.good s) zs k from H.out.no hf)
  have F1 := hid hf
  clear hf c0 x3 hg
  go_wp2_with fail
  refine (S1.out.fails 40 x (by decide) (by decide)).mono ?_
  rintro en w2 ⟨rfl, h2, f2⟩
  have S2 := hid h2
  have F2 := hid f2
  clear h2 f2
  go_wp2_with fail
  go_ret
  exact ⟨0, rfl, S2.out, (FrK.no F1.out).trans F2.out, fun q hq => by cases hq⟩
 | some j =>
  have HF := hid (show Calls Tryd.prog 32 #[.pointer (some ⟨G.g, 0, none⟩), .string (bs nd.name)] w (fun en w' => en = .returned (.int .i64 (j : Nat)) ∧ Fr nob w w') from by have := cfind_any h nd.name; rw [hpl] at this; exact this)
  have hj := placeV_lt hpl
  obtain ⟨v, hv⟩ : ∃ v, s.vars[j]? = some v := ⟨_, List.getElem?_eq_getElem hj⟩
  have em : namedC x nd.name s = .good (v.ty, { s with slots := s.slots.set x v.slot }) := by unfold namedC; rw [placeV_find, hpl]; simp only [Option.bind, hv]
  rw [em]
  have hj2 : (j : Int) < (s.vars.length : Int) := by omega
  have hj3 : (s.vars.length : Int) ≤ 1000 := by have := h.vars; have := h.size; have := h.geo.hM; omega
  have HV := hid hv
  clear h hpl em hx hj hv
  go_enter Tryd.func58, Tryd.ntmps58
  go_wp2_with fail
  refine HF.out.mono ?_
  rintro en w1 ⟨rfl, hf⟩
  have S1 := hid (H.out.no hf)
  have F1 := hid hf
  clear hf c0 x3 hg
  obtain ⟨zv, vv, _, _, _, c3, _, _, _, c7, _, _, _, hfz, hvv, _⟩ := S1.out.cells
  obtain ⟨VA, VC, rfl, _, _⟩ := hvv.cap
  obtain ⟨vb, e, hc1⟩ := hvv.some (by omega)
  subst e
  have p1 := hc1 _ _ (varCells_get HV.out).2.1
  have p2 := hc1 _ _ (varCells_get HV.out).2.2
  have hne : vb ≠ G.bs := fun e => S1.out.slots.blk_ne' hvv (by decide) (g := vb) (by simp [blk]; have := hvv.capn.1; omega) (by rw [S1.out.blkS, e])
  have hneg : G.g ≠ G.bs := S1.out.gne.2.1
  have fzs : w1.frozen? ⟨G.bs, x, none⟩ = false := by
   obtain ⟨_, A', c', hv', ⟨_, h2⟩ | ⟨g', cur, h1, _, hb, _⟩⟩ := S1.out.slots
   · have := S1.out.geo.pos; omega
   · injection hv' with e1 _ _
     rw [← e1] at h1
     injection h1 with h1
     injection h1 with h1
     subst h1
     exact hb.frozen x
  have czs : ∃ u, w1.cell? ⟨G.bs, x, none⟩ = some u := by
   obtain ⟨g', e, hcc⟩ := S1.out.slots.some S1.out.geo.pos
   injection e with e
   injection e with e
   subst e
   have hl : (intsI s.slots).length = G.ns.length * 1 := S1.out.slots.len
   exact ⟨_, hcc x _ (List.getElem?_eq_getElem (by omega))⟩
  obtain ⟨u, czs⟩ := czs
  have F0 := hid (show FrK G w w1 from FrK.no F1.out)
  have S2 := hid (S1.out.setS x (v.slot : Nat))
  have n3 : (⟨G.bs, x, none⟩ : Addr) ≠ ⟨G.g, 3, none⟩ := by intro e; injection e with e; exact hneg e.symm
  have n7 : (⟨G.bs, x, none⟩ : Addr) ≠ ⟨G.g, 7, none⟩ := by intro e; injection e with e; exact hneg e.symm
  have np : (⟨G.bs, x, none⟩ : Addr) ≠ ⟨vb, j * 3 + 2, none⟩ := by intro e; injection e with e; exact hne e.symm
  have D3 := hid c3
  have D7 := hid c7
  have DP := hid p2
  have e3 := hid ((World.cell?_setCell_other w1.drew ⟨G.bs, x, none⟩ ⟨G.g, 3, none⟩ (.int .i64 (v.slot : Nat)) n3).trans c3)
  have e7 := hid ((World.cell?_setCell_other w1.drew ⟨G.bs, x, none⟩ ⟨G.g, 7, none⟩ (.int .i64 (v.slot : Nat)) n7).trans c7)
  have ep := hid ((World.cell?_setCell_other w1.drew ⟨G.bs, x, none⟩ ⟨vb, j * 3 + 2, none⟩ (.int .i64 (v.slot : Nat)) np).trans p2)
  have eq1 := hid ((World.cell?_setCell_other w1.drew ⟨G.bs, x, none⟩ ⟨vb, j * 3 + 1, none⟩ (.int .i64 (v.slot : Nat)) (by intro e; injection e with e; exact hne e.symm)).trans p1)
  clear n3 n7 np hfz hc1 hvv hne hneg p1
  go_wp2_with fail
  go_region_held3 (fun wx => wx.cell? ⟨G.g, 3, none⟩ = some (.slice (some ⟨G.bs, 0, none⟩) G.ns.length G.cs) ∧ wx.cell? ⟨G.g, 7, none⟩ = some (.slice (some ⟨vb, 0, none⟩) s.vars.length VC) ∧ wx.cell? ⟨vb, j * 3 + 2, none⟩ = some (.int .i64 (v.slot : Nat))) (first | exact ⟨D3.out, D7.out, DP.out⟩ | exact ⟨e3.out, e7.out, ep.out⟩) (first | fail)
  clear c3 c7 p2 fzs czs
  have c7 : (w1.setCell ⟨G.bs, x, none⟩ (.int .i64 (v.slot : Nat))).cell? ⟨G.g, 7, none⟩ = some (.slice (some ⟨vb, 0, none⟩) s.vars.length VC) := e7.out
  have p1 : (w1.setCell ⟨G.bs, x, none⟩ (.int .i64 (v.slot : Nat))).cell? ⟨vb, j * 3 + 1, none⟩ = some (.int .i64 (v.ty : Nat)) := eq1.out
  clear D3 D7 DP e3 e7 ep eq1
  generalize w1.setCell ⟨G.bs, x, none⟩ (.int .i64 (v.slot : Nat)) = w2 at *
  go_wp2_with fail
  go_ret
  exact ⟨v.ty, rfl, S2.out.1.no ((Fr.refl nob w2).drew), (F0.out.trans S2.out.2).trans (FrK.no ((Fr.refl nob w2).drew)), fun q hq => by injection hq with hq; subst hq; rfl⟩
end
set_option maxHeartbeats 4000000 in
set_option maxRecDepth 100000 in
theorem cbin_0 (a b : Nat) (w : World) : Calls Tryd.prog 70 #[.string (bs [124, 124]), .int .i64 a, .int .i64 b] w fun en w' => en = .returned (.int .i64 (binT [124, 124] a b : Nat)) ∧ Fr nob w w' := by
 have q0 : ((bs [124, 124]).toList == [124, 124]) = true := by kernel_rfl
 by_cases hab : a = b
 · subst hab
   have e0 : ((a : Int) != (a : Int)) = false := by simp
   by_cases h2 : a = 2
   · subst h2
     rw [show binT [124, 124] 2 2 = 2 from rfl]
     generalize bs [124, 124] = nmv at *
     clear e0
     go_enter Tryd.func70, Tryd.ntmps70
     go_wp2_with fail
     go_ret
     exact ⟨rfl, Fr.refl nob w⟩
   · have e2 : ((a : Int) == 2) = false := beq_eq_false_iff_ne.2 (by omega)
     rw [show binT [124, 124] a a = 0 by simp [binT, h2]]
     generalize bs [124, 124] = nmv at *
     clear h2
     go_enter Tryd.func70, Tryd.ntmps70
     go_wp2_with fail
     go_ret
     exact ⟨rfl, Fr.refl nob w⟩
 · have e0 : ((a : Int) != (b : Int)) = true := by rw [bne, beq_eq_false_iff_ne.2 (by omega)]; rfl
   rw [show binT [124, 124] a b = 0 by simp [binT, hab]]
   generalize bs [124, 124] = nmv at *
   clear hab
   go_enter Tryd.func70, Tryd.ntmps70
   go_wp2_with fail
   go_ret
   exact ⟨rfl, Fr.refl nob w⟩
set_option maxHeartbeats 4000000 in
set_option maxRecDepth 100000 in
theorem cbin_1 (a b : Nat) (w : World) : Calls Tryd.prog 70 #[.string (bs [38, 38]), .int .i64 a, .int .i64 b] w fun en w' => en = .returned (.int .i64 (binT [38, 38] a b : Nat)) ∧ Fr nob w w' := by
 have q0 : ((bs [38, 38]).toList == [124, 124]) = false := by kernel_rfl
 have q1 : ((bs [38, 38]).toList == [38, 38]) = true := by kernel_rfl
 by_cases hab : a = b
 · subst hab
   have e0 : ((a : Int) != (a : Int)) = false := by simp
   by_cases h2 : a = 2
   · subst h2
     rw [show binT [38, 38] 2 2 = 2 from rfl]
     generalize bs [38, 38] = nmv at *
     clear e0
     go_enter Tryd.func70, Tryd.ntmps70
     go_wp2_with fail
     go_ret
     exact ⟨rfl, Fr.refl nob w⟩
   · have e2 : ((a : Int) == 2) = false := beq_eq_false_iff_ne.2 (by omega)
     rw [show binT [38, 38] a a = 0 by simp [binT, h2]]
     generalize bs [38, 38] = nmv at *
     clear h2
     go_enter Tryd.func70, Tryd.ntmps70
     go_wp2_with fail
     go_ret
     exact ⟨rfl, Fr.refl nob w⟩
 · have e0 : ((a : Int) != (b : Int)) = true := by rw [bne, beq_eq_false_iff_ne.2 (by omega)]; rfl
   rw [show binT [38, 38] a b = 0 by simp [binT, hab]]
   generalize bs [38, 38] = nmv at *
   clear hab
   go_enter Tryd.func70, Tryd.ntmps70
   go_wp2_with fail
   go_ret
   exact ⟨rfl, Fr.refl nob w⟩
set_option maxHeartbeats 4000000 in
set_option maxRecDepth 100000 in
theorem cbin_2 (a b : Nat) (w : World) : Calls Tryd.prog 70 #[.string (bs [60]), .int .i64 a, .int .i64 b] w fun en w' => en = .returned (.int .i64 (binT [60] a b : Nat)) ∧ Fr nob w w' := by
 have q0 : ((bs [60]).toList == [124, 124]) = false := by kernel_rfl
 have q1 : ((bs [60]).toList == [38, 38]) = false := by kernel_rfl
 have q2 : ((bs [60]).toList == [60]) = true := by kernel_rfl
 by_cases hab : a = b
 · subst hab
   have e0 : ((a : Int) != (a : Int)) = false := by simp
   by_cases h1 : a = 1
   · subst h1
     rw [show binT [60] 1 1 = 2 from rfl]
     generalize bs [60] = nmv at *
     clear e0
     go_enter Tryd.func70, Tryd.ntmps70
     go_wp2_with fail
     go_ret
     exact ⟨rfl, Fr.refl nob w⟩
   · have e1 : ((a : Int) == 1) = false := beq_eq_false_iff_ne.2 (by omega)
     rw [show binT [60] a a = 0 by simp [binT, h1]]
     generalize bs [60] = nmv at *
     clear h1
     go_enter Tryd.func70, Tryd.ntmps70
     go_wp2_with fail
     go_ret
     exact ⟨rfl, Fr.refl nob w⟩
 · have e0 : ((a : Int) != (b : Int)) = true := by rw [bne, beq_eq_false_iff_ne.2 (by omega)]; rfl
   rw [show binT [60] a b = 0 by simp [binT, hab]]
   generalize bs [60] = nmv at *
   clear hab
   go_enter Tryd.func70, Tryd.ntmps70
   go_wp2_with fail
   go_ret
   exact ⟨rfl, Fr.refl nob w⟩
set_option maxHeartbeats 4000000 in
set_option maxRecDepth 100000 in
theorem cbin_3 (a b : Nat) (w : World) : Calls Tryd.prog 70 #[.string (bs [60, 61]), .int .i64 a, .int .i64 b] w fun en w' => en = .returned (.int .i64 (binT [60, 61] a b : Nat)) ∧ Fr nob w w' := by
 have q0 : ((bs [60, 61]).toList == [124, 124]) = false := by kernel_rfl
 have q1 : ((bs [60, 61]).toList == [38, 38]) = false := by kernel_rfl
 have q2 : ((bs [60, 61]).toList == [60]) = false := by kernel_rfl
 have q3 : ((bs [60, 61]).toList == [60, 61]) = true := by kernel_rfl
 by_cases hab : a = b
 · subst hab
   have e0 : ((a : Int) != (a : Int)) = false := by simp
   by_cases h1 : a = 1
   · subst h1
     rw [show binT [60, 61] 1 1 = 2 from rfl]
     generalize bs [60, 61] = nmv at *
     clear e0
     go_enter Tryd.func70, Tryd.ntmps70
     go_wp2_with fail
     go_ret
     exact ⟨rfl, Fr.refl nob w⟩
   · have e1 : ((a : Int) == 1) = false := beq_eq_false_iff_ne.2 (by omega)
     rw [show binT [60, 61] a a = 0 by simp [binT, h1]]
     generalize bs [60, 61] = nmv at *
     clear h1
     go_enter Tryd.func70, Tryd.ntmps70
     go_wp2_with fail
     go_ret
     exact ⟨rfl, Fr.refl nob w⟩
 · have e0 : ((a : Int) != (b : Int)) = true := by rw [bne, beq_eq_false_iff_ne.2 (by omega)]; rfl
   rw [show binT [60, 61] a b = 0 by simp [binT, hab]]
   generalize bs [60, 61] = nmv at *
   clear hab
   go_enter Tryd.func70, Tryd.ntmps70
   go_wp2_with fail
   go_ret
   exact ⟨rfl, Fr.refl nob w⟩
set_option maxHeartbeats 4000000 in
set_option maxRecDepth 100000 in
theorem cbin_4 (a b : Nat) (w : World) : Calls Tryd.prog 70 #[.string (bs [61, 61]), .int .i64 a, .int .i64 b] w fun en w' => en = .returned (.int .i64 (binT [61, 61] a b : Nat)) ∧ Fr nob w w' := by
 have q0 : ((bs [61, 61]).toList == [124, 124]) = false := by kernel_rfl
 have q1 : ((bs [61, 61]).toList == [38, 38]) = false := by kernel_rfl
 have q2 : ((bs [61, 61]).toList == [60]) = false := by kernel_rfl
 have q3 : ((bs [61, 61]).toList == [60, 61]) = false := by kernel_rfl
 have q4 : ((bs [61, 61]).toList == [61, 61]) = true := by kernel_rfl
 by_cases hab : a = b
 · subst hab
   have e0 : ((a : Int) != (a : Int)) = false := by simp
   by_cases h1 : a = 1
   · subst h1
     rw [show binT [61, 61] 1 1 = 2 from rfl]
     generalize bs [61, 61] = nmv at *
     clear e0
     go_enter Tryd.func70, Tryd.ntmps70
     go_wp2_with fail
     go_ret
     exact ⟨rfl, Fr.refl nob w⟩
   · have e1 : ((a : Int) == 1) = false := beq_eq_false_iff_ne.2 (by omega)
     by_cases h2 : a = 2
     · subst h2
       rw [show binT [61, 61] 2 2 = 2 from rfl]
       generalize bs [61, 61] = nmv at *
       clear e0
       go_enter Tryd.func70, Tryd.ntmps70
       go_wp2_with fail
       go_ret
       exact ⟨rfl, Fr.refl nob w⟩
     · have e2 : ((a : Int) == 2) = false := beq_eq_false_iff_ne.2 (by omega)
       by_cases h3 : a = 3
       · subst h3
         rw [show binT [61, 61] 3 3 = 2 from rfl]
         generalize bs [61, 61] = nmv at *
         clear e0
         go_enter Tryd.func70, Tryd.ntmps70
         go_wp2_with fail
         go_ret
         exact ⟨rfl, Fr.refl nob w⟩
       · have e3 : ((a : Int) == 3) = false := beq_eq_false_iff_ne.2 (by omega)
         rw [show binT [61, 61] a a = 0 by simp [binT, h1, h2, h3]]
         generalize bs [61, 61] = nmv at *
         clear h1
         clear h2
         clear h3
         go_enter Tryd.func70, Tryd.ntmps70
         go_wp2_with fail
         go_ret
         exact ⟨rfl, Fr.refl nob w⟩
 · have e0 : ((a : Int) != (b : Int)) = true := by rw [bne, beq_eq_false_iff_ne.2 (by omega)]; rfl
   rw [show binT [61, 61] a b = 0 by simp [binT, hab]]
   generalize bs [61, 61] = nmv at *
   clear hab
   go_enter Tryd.func70, Tryd.ntmps70
   go_wp2_with fail
   go_ret
   exact ⟨rfl, Fr.refl nob w⟩
set_option maxHeartbeats 4000000 in
set_option maxRecDepth 100000 in
theorem cbin_5 (a b : Nat) (w : World) : Calls Tryd.prog 70 #[.string (bs [33, 61]), .int .i64 a, .int .i64 b] w fun en w' => en = .returned (.int .i64 (binT [33, 61] a b : Nat)) ∧ Fr nob w w' := by
 have q0 : ((bs [33, 61]).toList == [124, 124]) = false := by kernel_rfl
 have q1 : ((bs [33, 61]).toList == [38, 38]) = false := by kernel_rfl
 have q2 : ((bs [33, 61]).toList == [60]) = false := by kernel_rfl
 have q3 : ((bs [33, 61]).toList == [60, 61]) = false := by kernel_rfl
 have q4 : ((bs [33, 61]).toList == [61, 61]) = false := by kernel_rfl
 have q5 : ((bs [33, 61]).toList == [33, 61]) = true := by kernel_rfl
 by_cases hab : a = b
 · subst hab
   have e0 : ((a : Int) != (a : Int)) = false := by simp
   by_cases h1 : a = 1
   · subst h1
     rw [show binT [33, 61] 1 1 = 2 from rfl]
     generalize bs [33, 61] = nmv at *
     clear e0
     go_enter Tryd.func70, Tryd.ntmps70
     go_wp2_with fail
     go_ret
     exact ⟨rfl, Fr.refl nob w⟩
   · have e1 : ((a : Int) == 1) = false := beq_eq_false_iff_ne.2 (by omega)
     by_cases h2 : a = 2
     · subst h2
       rw [show binT [33, 61] 2 2 = 2 from rfl]
       generalize bs [33, 61] = nmv at *
       clear e0
       go_enter Tryd.func70, Tryd.ntmps70
       go_wp2_with fail
       go_ret
       exact ⟨rfl, Fr.refl nob w⟩
     · have e2 : ((a : Int) == 2) = false := beq_eq_false_iff_ne.2 (by omega)
       by_cases h3 : a = 3
       · subst h3
         rw [show binT [33, 61] 3 3 = 2 from rfl]
         generalize bs [33, 61] = nmv at *
         clear e0
         go_enter Tryd.func70, Tryd.ntmps70
         go_wp2_with fail
         go_ret
         exact ⟨rfl, Fr.refl nob w⟩
       · have e3 : ((a : Int) == 3) = false := beq_eq_false_iff_ne.2 (by omega)
         rw [show binT [33, 61] a a = 0 by simp [binT, h1, h2, h3]]
         generalize bs [33, 61] = nmv at *
         clear h1
         clear h2
         clear h3
         go_enter Tryd.func70, Tryd.ntmps70
         go_wp2_with fail
         go_ret
         exact ⟨rfl, Fr.refl nob w⟩
 · have e0 : ((a : Int) != (b : Int)) = true := by rw [bne, beq_eq_false_iff_ne.2 (by omega)]; rfl
   rw [show binT [33, 61] a b = 0 by simp [binT, hab]]
   generalize bs [33, 61] = nmv at *
   clear hab
   go_enter Tryd.func70, Tryd.ntmps70
   go_wp2_with fail
   go_ret
   exact ⟨rfl, Fr.refl nob w⟩
set_option maxHeartbeats 4000000 in
set_option maxRecDepth 100000 in
theorem cbin_6 (a b : Nat) (w : World) : Calls Tryd.prog 70 #[.string (bs [43]), .int .i64 a, .int .i64 b] w fun en w' => en = .returned (.int .i64 (binT [43] a b : Nat)) ∧ Fr nob w w' := by
 have q0 : ((bs [43]).toList == [124, 124]) = false := by kernel_rfl
 have q1 : ((bs [43]).toList == [38, 38]) = false := by kernel_rfl
 have q2 : ((bs [43]).toList == [60]) = false := by kernel_rfl
 have q3 : ((bs [43]).toList == [60, 61]) = false := by kernel_rfl
 have q4 : ((bs [43]).toList == [61, 61]) = false := by kernel_rfl
 have q5 : ((bs [43]).toList == [33, 61]) = false := by kernel_rfl
 have q6 : ((bs [43]).toList == [43]) = true := by kernel_rfl
 by_cases hab : a = b
 · subst hab
   have e0 : ((a : Int) != (a : Int)) = false := by simp
   by_cases h1 : a = 1
   · subst h1
     rw [show binT [43] 1 1 = 1 from rfl]
     generalize bs [43] = nmv at *
     clear e0
     go_enter Tryd.func70, Tryd.ntmps70
     go_wp2_with fail
     go_ret
     exact ⟨rfl, Fr.refl nob w⟩
   · have e1 : ((a : Int) == 1) = false := beq_eq_false_iff_ne.2 (by omega)
     by_cases h3 : a = 3
     · subst h3
       rw [show binT [43] 3 3 = 3 from rfl]
       generalize bs [43] = nmv at *
       clear e0
       go_enter Tryd.func70, Tryd.ntmps70
       go_wp2_with fail
       go_ret
       exact ⟨rfl, Fr.refl nob w⟩
     · have e3 : ((a : Int) == 3) = false := beq_eq_false_iff_ne.2 (by omega)
       rw [show binT [43] a a = 0 by simp [binT, h1, h3]]
       generalize bs [43] = nmv at *
       clear h1
       clear h3
       go_enter Tryd.func70, Tryd.ntmps70
       go_wp2_with fail
       go_ret
       exact ⟨rfl, Fr.refl nob w⟩
 · have e0 : ((a : Int) != (b : Int)) = true := by rw [bne, beq_eq_false_iff_ne.2 (by omega)]; rfl
   rw [show binT [43] a b = 0 by simp [binT, hab]]
   generalize bs [43] = nmv at *
   clear hab
   go_enter Tryd.func70, Tryd.ntmps70
   go_wp2_with fail
   go_ret
   exact ⟨rfl, Fr.refl nob w⟩
set_option maxHeartbeats 4000000 in
set_option maxRecDepth 100000 in
theorem cbin_7 (a b : Nat) (w : World) : Calls Tryd.prog 70 #[.string (bs [45]), .int .i64 a, .int .i64 b] w fun en w' => en = .returned (.int .i64 (binT [45] a b : Nat)) ∧ Fr nob w w' := by
 have q0 : ((bs [45]).toList == [124, 124]) = false := by kernel_rfl
 have q1 : ((bs [45]).toList == [38, 38]) = false := by kernel_rfl
 have q2 : ((bs [45]).toList == [60]) = false := by kernel_rfl
 have q3 : ((bs [45]).toList == [60, 61]) = false := by kernel_rfl
 have q4 : ((bs [45]).toList == [61, 61]) = false := by kernel_rfl
 have q5 : ((bs [45]).toList == [33, 61]) = false := by kernel_rfl
 have q6 : ((bs [45]).toList == [43]) = false := by kernel_rfl
 by_cases hab : a = b
 · subst hab
   have e0 : ((a : Int) != (a : Int)) = false := by simp
   by_cases h1 : a = 1
   · subst h1
     rw [show binT [45] 1 1 = 1 from rfl]
     generalize bs [45] = nmv at *
     clear e0
     go_enter Tryd.func70, Tryd.ntmps70
     go_wp2_with fail
     go_ret
     exact ⟨rfl, Fr.refl nob w⟩
   · have e1 : ((a : Int) == 1) = false := beq_eq_false_iff_ne.2 (by omega)
     rw [show binT [45] a a = 0 by simp [binT, h1]]
     generalize bs [45] = nmv at *
     clear h1
     go_enter Tryd.func70, Tryd.ntmps70
     go_wp2_with fail
     go_ret
     exact ⟨rfl, Fr.refl nob w⟩
 · have e0 : ((a : Int) != (b : Int)) = true := by rw [bne, beq_eq_false_iff_ne.2 (by omega)]; rfl
   rw [show binT [45] a b = 0 by simp [binT, hab]]
   generalize bs [45] = nmv at *
   clear hab
   go_enter Tryd.func70, Tryd.ntmps70
   go_wp2_with fail
   go_ret
   exact ⟨rfl, Fr.refl nob w⟩
set_option maxHeartbeats 4000000 in
set_option maxRecDepth 100000 in
theorem cbin_8 (a b : Nat) (w : World) : Calls Tryd.prog 70 #[.string (bs [42]), .int .i64 a, .int .i64 b] w fun en w' => en = .returned (.int .i64 (binT [42] a b : Nat)) ∧ Fr nob w w' := by
 have q0 : ((bs [42]).toList == [124, 124]) = false := by kernel_rfl
 have q1 : ((bs [42]).toList == [38, 38]) = false := by kernel_rfl
 have q2 : ((bs [42]).toList == [60]) = false := by kernel_rfl
 have q3 : ((bs [42]).toList == [60, 61]) = false := by kernel_rfl
 have q4 : ((bs [42]).toList == [61, 61]) = false := by kernel_rfl
 have q5 : ((bs [42]).toList == [33, 61]) = false := by kernel_rfl
 have q6 : ((bs [42]).toList == [43]) = false := by kernel_rfl
 by_cases hab : a = b
 · subst hab
   have e0 : ((a : Int) != (a : Int)) = false := by simp
   by_cases h1 : a = 1
   · subst h1
     rw [show binT [42] 1 1 = 1 from rfl]
     generalize bs [42] = nmv at *
     clear e0
     go_enter Tryd.func70, Tryd.ntmps70
     go_wp2_with fail
     go_ret
     exact ⟨rfl, Fr.refl nob w⟩
   · have e1 : ((a : Int) == 1) = false := beq_eq_false_iff_ne.2 (by omega)
     rw [show binT [42] a a = 0 by simp [binT, h1]]
     generalize bs [42] = nmv at *
     clear h1
     go_enter Tryd.func70, Tryd.ntmps70
     go_wp2_with fail
     go_ret
     exact ⟨rfl, Fr.refl nob w⟩
 · have e0 : ((a : Int) != (b : Int)) = true := by rw [bne, beq_eq_false_iff_ne.2 (by omega)]; rfl
   rw [show binT [42] a b = 0 by simp [binT, hab]]
   generalize bs [42] = nmv at *
   clear hab
   go_enter Tryd.func70, Tryd.ntmps70
   go_wp2_with fail
   go_ret
   exact ⟨rfl, Fr.refl nob w⟩
set_option maxHeartbeats 4000000 in
set_option maxRecDepth 100000 in
theorem cbin_9 (a b : Nat) (w : World) : Calls Tryd.prog 70 #[.string (bs [47]), .int .i64 a, .int .i64 b] w fun en w' => en = .returned (.int .i64 (binT [47] a b : Nat)) ∧ Fr nob w w' := by
 have q0 : ((bs [47]).toList == [124, 124]) = false := by kernel_rfl
 have q1 : ((bs [47]).toList == [38, 38]) = false := by kernel_rfl
 have q2 : ((bs [47]).toList == [60]) = false := by kernel_rfl
 have q3 : ((bs [47]).toList == [60, 61]) = false := by kernel_rfl
 have q4 : ((bs [47]).toList == [61, 61]) = false := by kernel_rfl
 have q5 : ((bs [47]).toList == [33, 61]) = false := by kernel_rfl
 have q6 : ((bs [47]).toList == [43]) = false := by kernel_rfl
 by_cases hab : a = b
 · subst hab
   have e0 : ((a : Int) != (a : Int)) = false := by simp
   by_cases h1 : a = 1
   · subst h1
     rw [show binT [47] 1 1 = 1 from rfl]
     generalize bs [47] = nmv at *
     clear e0
     go_enter Tryd.func70, Tryd.ntmps70
     go_wp2_with fail
     go_ret
     exact ⟨rfl, Fr.refl nob w⟩
   · have e1 : ((a : Int) == 1) = false := beq_eq_false_iff_ne.2 (by omega)
     rw [show binT [47] a a = 0 by simp [binT, h1]]
     generalize bs [47] = nmv at *
     clear h1
     go_enter Tryd.func70, Tryd.ntmps70
     go_wp2_with fail
     go_ret
     exact ⟨rfl, Fr.refl nob w⟩
 · have e0 : ((a : Int) != (b : Int)) = true := by rw [bne, beq_eq_false_iff_ne.2 (by omega)]; rfl
   rw [show binT [47] a b = 0 by simp [binT, hab]]
   generalize bs [47] = nmv at *
   clear hab
   go_enter Tryd.func70, Tryd.ntmps70
   go_wp2_with fail
   go_ret
   exact ⟨rfl, Fr.refl nob w⟩
set_option maxHeartbeats 4000000 in
set_option maxRecDepth 100000 in
theorem cbin_10 (a b : Nat) (w : World) : Calls Tryd.prog 70 #[.string (bs [37]), .int .i64 a, .int .i64 b] w fun en w' => en = .returned (.int .i64 (binT [37] a b : Nat)) ∧ Fr nob w w' := by
 have q0 : ((bs [37]).toList == [124, 124]) = false := by kernel_rfl
 have q1 : ((bs [37]).toList == [38, 38]) = false := by kernel_rfl
 have q2 : ((bs [37]).toList == [60]) = false := by kernel_rfl
 have q3 : ((bs [37]).toList == [60, 61]) = false := by kernel_rfl
 have q4 : ((bs [37]).toList == [61, 61]) = false := by kernel_rfl
 have q5 : ((bs [37]).toList == [33, 61]) = false := by kernel_rfl
 have q6 : ((bs [37]).toList == [43]) = false := by kernel_rfl
 by_cases hab : a = b
 · subst hab
   have e0 : ((a : Int) != (a : Int)) = false := by simp
   by_cases h1 : a = 1
   · subst h1
     rw [show binT [37] 1 1 = 1 from rfl]
     generalize bs [37] = nmv at *
     clear e0
     go_enter Tryd.func70, Tryd.ntmps70
     go_wp2_with fail
     go_ret
     exact ⟨rfl, Fr.refl nob w⟩
   · have e1 : ((a : Int) == 1) = false := beq_eq_false_iff_ne.2 (by omega)
     rw [show binT [37] a a = 0 by simp [binT, h1]]
     generalize bs [37] = nmv at *
     clear h1
     go_enter Tryd.func70, Tryd.ntmps70
     go_wp2_with fail
     go_ret
     exact ⟨rfl, Fr.refl nob w⟩
 · have e0 : ((a : Int) != (b : Int)) = true := by rw [bne, beq_eq_false_iff_ne.2 (by omega)]; rfl
   rw [show binT [37] a b = 0 by simp [binT, hab]]
   generalize bs [37] = nmv at *
   clear hab
   go_enter Tryd.func70, Tryd.ntmps70
   go_wp2_with fail
   go_ret
   exact ⟨rfl, Fr.refl nob w⟩
theorem cbin_any {sg : List UInt8} (hs : sg ∈ allSigns) (a b : Nat) (w : World) : Calls Tryd.prog 70 #[.string (bs sg), .int .i64 a, .int .i64 b] w fun en w' => en = .returned (.int .i64 (binT sg a b : Nat)) ∧ Fr nob w w' := by
 simp only [allSigns, List.mem_cons, List.not_mem_nil, or_false] at hs
 rcases hs with rfl | rfl | rfl | rfl | rfl | rfl | rfl | rfl | rfl | rfl | rfl
 · exact cbin_0 a b w
 · exact cbin_1 a b w
 · exact cbin_2 a b w
 · exact cbin_3 a b w
 · exact cbin_4 a b w
 · exact cbin_5 a b w
 · exact cbin_6 a b w
 · exact cbin_7 a b w
 · exact cbin_8 a b w
 · exact cbin_9 a b w
 · exact cbin_10 a b w
structure CkC (G : Geo) (w : World) (r : CkR CkS) (zs : List Nat) (k C : Nat) (t : TypeId) (cs : Array Value) : Prop where
 m : CkM G w r zs k
 b : Blk w C t cs
 n0 : C ≠ G.g
 n1 : C ≠ G.bt
 n2 : C ≠ G.bs
 n3 : C ≠ G.bf
 nv : t ≠ 84
section
variable {G : Geo} {w w' : World} {s : CkS} {r r' : CkR CkS} {zs : List Nat} {k e p C : Nat} {t : TypeId} {cs : Array Value}
theorem CkC.new (h : CkM G w r zs k) (t : TypeId) (cs : Array Value) (hv : t ≠ 84) : CkC G (w.alloc (.cells cs t)) r zs k w.heap.size t cs := by
 obtain ⟨h1, h2, h3, h4⟩ := h.slot_lt
 exact ⟨h.no ((Fr.refl nob w).alloc _), Blk.new w _ _, by omega, by omega, by omega, by omega, hv⟩
theorem CkC.to (h : CkC G w r zs k C t cs) (h' : CkM G w' r' zs k) (f : FrK G w w') : CkC G w' r' zs k C t cs :=
 ⟨h', f.far h.b h.n0 h.n1 h.n2 h.n3 h.nv, h.n0, h.n1, h.n2, h.n3, h.nv⟩
theorem CkC.no (h : CkC G w r zs k C t cs) (f : Fr nob w w') : CkC G w' r zs k C t cs := ⟨h.m.no f, h.b.fr f (fun x => x), h.n0, h.n1, h.n2, h.n3, h.nv⟩
theorem CkM.kid (h : CkM G w r zs k) {x : Nat} {nd : NodeM} (hx : G.ns[x]? = some nd) {kb n c : Nat} (hlv : G.lvs[x]? = some (.slice (some ⟨kb, 0, none⟩) n c)) {j a : Nat} (ha : nd.l[j]? = some a) : w.cell? ⟨kb, j, none⟩ = some (.int .i64 (a : Nat)) := by
 obtain ⟨_, _, _, hnv, _⟩ := h.tree.tree.node hx
 have ho : Own w 3 1 (.slice (some ⟨kb, 0, none⟩) n c) nd.l.length (ints nd.l) := h.tree.tree.below.get hx hlv
 obtain ⟨kb', c', e, _, hc⟩ := kids_get ho (by have := (List.getElem?_eq_some_iff.1 ha).1; omega)
 injection e with e
 injection e with e
 injection e with e
 subst e
 exact hc j a ha
theorem CkM.node (h : CkM G w r zs k) {x : Nat} {nd : NodeM} (hx : G.ns[x]? = some nd) : ∃ nb nc kv, G.nv = .slice (some ⟨nb, 0, none⟩) G.ns.length nc ∧ G.lvs[x]? = some kv ∧ Own w 3 1 kv nd.l.length (ints nd.l) ∧ nb < w.heap.size ∧ (x : Int) < (G.ns.length : Int) ∧
  w.cell? ⟨G.g, 0, none⟩ = some (.slice (some ⟨nb, 0, none⟩) G.ns.length nc) ∧
  w.cell? ⟨nb, x * 5, none⟩ = some (.int .i64 nd.kind) ∧ w.cell? ⟨nb, x * 5 + 1, none⟩ = some (.int .i64 nd.line) ∧ w.cell? ⟨nb, x * 5 + 2, none⟩ = some (.int .i64 nd.n) ∧ w.cell? ⟨nb, x * 5 + 3, none⟩ = some (.string (bs nd.name)) ∧ w.cell? ⟨nb, x * 5 + 4, none⟩ = some kv := by
 have hlt := (List.getElem?_eq_some_iff.1 hx).1
 have htr := h.tree.tree
 obtain ⟨s, e, p, h0, _⟩ := h.open_
 obtain ⟨zv, vv, c0, _⟩ := h0.cells
 obtain ⟨A, c, e, hc, _⟩ := htr.nodes.cap
 have hno := htr.nodes
 rw [e] at hno
 obtain ⟨nb, e2, hcell⟩ := hno.some (by omega)
 subst e2
 obtain ⟨lv, hlv⟩ : ∃ lv, G.lvs[x]? = some lv := ⟨_, List.getElem?_eq_getElem (by have := htr.same; omega)⟩
 have key := nodesCells_get hx hlv
 exact ⟨nb, c, lv, e, hlv, htr.below.get hx hlv, hno.blk_lt (by simp [blk]; omega), by omega, by rw [← e]; exact c0, hcell _ _ (key 0 _ rfl), hcell _ _ (key 1 _ rfl), hcell _ _ (key 2 _ rfl), hcell _ _ (key 3 _ rfl), hcell _ _ (key 4 _ rfl)⟩
def CexOk (G : Geo) (zs : List Nat) (k : Nat) (ex : Nat → CkS → CkR (Nat × CkS)) (x : Nat) : Prop :=
 ∀ (w : World) (r : CkR CkS), CkM G w r zs k → Calls Tryd.prog 59 #[.pointer (some ⟨G.g, 0, none⟩), .int .i64 x] w (TellsK G zs k (r.bind (ex x)) w)
theorem fin_eq {α : Type} {q : CkR (α × CkS)} {x : Nat} {T : α → Nat} {P : α → Prop} [DecidablePred P] {b : Bool} (hb : ∀ a, q = .good a → b = decide (P a.1)) :
  ((q.map (·.2)).bind fun s => if b = true then CkR.good s else .bad 42 x) = (q.bind fun r => if P r.1 then CkR.good (T r.1, r.2) else .bad 42 x).map (·.2) := by
 cases q with
 | bad e p => rfl
 | good a =>
  have := hb a rfl
  simp only [CkR.map_good, CkR.bind_good, this, decide_eq_true_eq]
  split <;> rfl
theorem fin_val {α : Type} {q : CkR (α × CkS)} {x : Nat} {T : α → Nat} {P : α → Prop} [DecidablePred P] {u : Nat × CkS} {v : Nat} (h : (q.bind fun r => if P r.1 then CkR.good (T r.1, r.2) else .bad 42 x) = .good u) (hT : ∀ a, q = .good a → T a.1 = v) : u.1 = v := by
 cases q with
 | bad e p => cases h
 | good a =>
  simp only [CkR.bind_good] at h
  split at h
  · injection h with h; subst h; exact hT a rfl
  · cases h
end
end Go.Proofs.YtlbjicjinnnboaaDoor
