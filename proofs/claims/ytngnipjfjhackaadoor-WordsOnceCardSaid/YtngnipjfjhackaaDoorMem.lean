/- A library of this claim's own: frames between worlds, rows of cells that are read, rows that are owned, and append and make on them. No program is named here. -/
import Derived.WalkKit
import Derived.WalkSpells
import Derived.WalkLawsBesides
import Derived.Deep.AppendLies
import Derived.Deep.QuietTactic
import Derived.BigQuiet
import Derived.Deep.RegionHeld3
import Derived.Deep.RegionLaw
import Derived.Deep.DeepCutAuto
namespace Go.Proofs.YtngnipjfjhackaaDoor
open Go.RowKit
set_option linter.unusedVariables false
set_option linter.unusedSimpArgs false

theorem hid {p : Prop} (h : p) : Hid p := h
/-- What may have turned from w to w': only blocks of M, and new ones. -/
structure Fr (M : Nat → Prop) (w w' : World) : Prop where
  os : w'.os = w.os
  tape : w'.tape = w.tape
  output : w'.output = w.output
  size : w.heap.size ≤ w'.heap.size
  block : ∀ k, k < w.heap.size → ¬ M k → w'.heap[k]? = w.heap[k]?

def nob : Nat → Prop := fun _ => False
def oneb (g : Nat) : Nat → Prop := fun k => k = g
def obl (o : Option Nat) : Nat → Prop := fun k => o = some k

section
variable {M M1 M2 : Nat → Prop} {w w1 w2 w' : World}
theorem Fr.refl (M : Nat → Prop) (w : World) : Fr M w w := ⟨rfl, rfl, rfl, Nat.le_refl _, fun _ _ _ => rfl⟩
theorem Fr.trans (h1 : Fr M1 w w1) (h2 : Fr M2 w1 w2) (a : ∀ k, k < w.heap.size → M1 k → M k) (b : ∀ k, k < w.heap.size → M2 k → M k) : Fr M w w2 :=
  ⟨h2.os.trans h1.os, h2.tape.trans h1.tape, h2.output.trans h1.output, Nat.le_trans h1.size h2.size, fun k hk hM =>
    (h2.block k (Nat.lt_of_lt_of_le hk h1.size) (fun h => hM (b k hk h))).trans (h1.block k hk (fun h => hM (a k hk h)))⟩
theorem Fr.tr (h1 : Fr M w w1) (h2 : Fr M w1 w2) : Fr M w w2 := h1.trans h2 (fun _ _ h => h) (fun _ _ h => h)
theorem Fr.mono (h : Fr M1 w w') (a : ∀ k, k < w.heap.size → M1 k → M k) : Fr M w w' :=
  ⟨h.os, h.tape, h.output, h.size, fun k hk hM => h.block k hk (fun x => hM (a k hk x))⟩
theorem Fr.ofNo (h : Fr nob w w') : Fr M w w' := h.mono fun _ _ x => x.elim
theorem Fr.drewN (h : Fr M w w') (n : Nat) : Fr M w (w'.drewN n) := ⟨h.os, h.tape, h.output, h.size, h.block⟩
theorem Fr.drew (h : Fr M w w') : Fr M w w'.drew := ⟨h.os, h.tape, h.output, h.size, h.block⟩
theorem Fr.alloc (h : Fr M w w') (o : Obj) : Fr M w (w'.alloc o) :=
  h.trans (M2 := nob) ⟨rfl, rfl, rfl, by simp, fun k hk _ => Below.heap_alloc _ _ _ hk⟩ (fun _ _ h => h) (fun _ _ h => h.elim)
theorem Fr.setCell (h : Fr M w w') (a : Addr) (u : Value) (ha : a.block < w.heap.size → M a.block) : Fr M w (w'.setCell a u) :=
  h.trans (M2 := fun k => k = a.block) ⟨rfl, rfl, rfl, by simp [World.setCell], fun k _ hM => Below.heap_setCell _ _ _ _ hM⟩ (fun _ _ h => h) (fun k hk e => by subst e; exact ha hk)
theorem Fr.grown {row : Option Nat} (h : w.grownBy w' row) : Fr (obl row) w w' :=
  ⟨h.os, h.tape, h.output, h.size, fun k hk hM => h.block k hk (fun e => hM e.symm)⟩
theorem Fr.below (h : Fr nob w w') : Below w.heap.size w w' := ⟨h.os, h.tape, h.output, h.size, fun k hk => h.block k hk (fun x => x)⟩
theorem Fr.below' {B : Nat} (h : Fr M w w') (hB : B ≤ w.heap.size) (hM : ∀ k, M k → B ≤ k) : Below B w w' :=
  ⟨h.os, h.tape, h.output, h.size, fun k hk => h.block k (by omega) (fun x => by have := hM k x; omega)⟩
theorem Fr.of_below {B : Nat} (h : Below B w w') : Fr (fun k => B ≤ k) w w' := ⟨h.os, h.tape, h.output, h.size, fun k _ hM => h.block k (by omega)⟩
theorem Fr.cell (h : Fr M w w') {p : Addr} (hp : p.block < w.heap.size) (hM : ¬ M p.block) : w'.cell? p = w.cell? p := World.cell?_of_block (w := w) (h.block _ hp hM)
theorem Fr.frozen (h : Fr M w w') {p : Addr} (hp : p.block < w.heap.size) (hM : ¬ M p.block) : w'.frozen? p = w.frozen? p := World.frozen?_of_block (w := w) (h.block _ hp hM)
end

/-- Block g is just the cells cs, of element type t. -/
def Blk (w : World) (g : Nat) (t : TypeId) (cs : Array Value) : Prop := w.heap[g]? = some (.cells cs t (0, 0))
section
variable {M : Nat → Prop} {w w' : World} {g : Nat} {t : TypeId} {cs : Array Value}
theorem Blk.lt (h : Blk w g t cs) : g < w.heap.size := (Array.getElem?_eq_some_iff.1 h).1
theorem Blk.cell (h : Blk w g t cs) (i : Nat) : w.cell? ⟨g, i, none⟩ = cs[i]? := cell_of_row w g i cs t (0, 0) h
theorem Blk.frozen (h : Blk w g t cs) (i : Nat) : w.frozen? ⟨g, i, none⟩ = false := frozen_of_row w g i cs t h
theorem Blk.new (w : World) (t : TypeId) (cs : Array Value) : Blk (w.alloc (.cells cs t)) w.heap.size t cs := heap_alloc_new w _
theorem Blk.fr (h : Blk w g t cs) (f : Fr M w w') (hM : ¬ M g) : Blk w' g t cs := (f.block g h.lt hM).trans h
theorem Blk.alloc (h : Blk w g t cs) (o : Obj) : Blk (w.alloc o) g t cs := h.fr ((Fr.refl nob w).alloc o) (fun x => x)
theorem Blk.drewN (h : Blk w g t cs) (n : Nat) : Blk (w.drewN n) g t cs := h
theorem Blk.setCell (h : Blk w g t cs) (i : Nat) (u : Value) : Blk (w.setCell ⟨g, i, none⟩ u) g t (cs.setIfInBounds i u) := by
  unfold Blk at h ⊢
  simp [World.setCell, Array.getElem?_modify, h]
theorem Blk.far (h : Blk w g t cs) {p : Addr} (hp : g ≠ p.block) (u : Value) : Blk (w.setCell p u) g t cs := (Below.heap_setCell w p u g hp).trans h
theorem Blk.ne {g' : Nat} {t' : TypeId} {cs' : Array Value} (h : Blk w g t cs) (h' : Blk w g' t' cs') (hne : t ≠ t') : g ≠ g' := by
  rintro rfl
  unfold Blk at h h'
  rw [h] at h'
  injection h' with h'
  injection h' with _ ht
  exact hne ht
end

/-- The block in which a slice lies that may be stored into. -/
def blk : Value → Option Nat
  | .slice (some a) _ c => if c = 0 then none else some a.block
  | _ => none

/-- A slice that is read: n elements of 'size' cells each, which hold xs. -/
def Rd (w : World) (size : Nat) (v : Value) (n : Nat) (xs : List Value) : Prop :=
  xs.length = n * size ∧ ∃ A c, v = .slice A n c ∧ n ≤ c ∧ c ≤ maxLen ∧ (0 < n → ∃ ad : Addr, A = some ad ∧ ad.spot = none ∧ ∀ j u, xs[j]? = some u → w.cell? ⟨ad.block, ad.off + j, none⟩ = some u)

/-- A slice that is owned: its whole row is known. -/
def Own (w : World) (e size : Nat) (v : Value) (n : Nat) (xs : List Value) : Prop :=
  xs.length = n * size ∧ ∃ A c, v = .slice A n c ∧ ((c = 0 ∧ n = 0) ∨
    ∃ g cur, A = some ⟨g, 0, none⟩ ∧ 0 < c ∧ Blk w g e cur ∧ n ≤ c ∧ c ≤ maxLen ∧ cur.size = c * size ∧ cur.toList.take (n * size) = xs)

theorem add_mk (g o n : Nat) : (⟨g, o, none⟩ : Addr).add n = ⟨g, o + n, none⟩ := by unfold Addr.add; split <;> simp_all
theorem add_of (a : Addr) (h : a.spot = none) (n : Nat) : a.add n = ⟨a.block, a.off + n, none⟩ := by
  obtain ⟨b, o, s⟩ := a; simp at h; subst h; exact add_mk _ _ _

section
variable {M : Nat → Prop} {w w' : World} {e size n m : Nat} {v : Value} {xs ys : List Value}
theorem Own.nil (w : World) (e size : Nat) : Own w e size (.slice none 0 0) 0 [] := ⟨by simp, none, 0, rfl, .inl ⟨rfl, rfl⟩⟩
theorem Own.empty (w : World) (e size : Nat) (A : Option Addr) : Own w e size (.slice A 0 0) 0 [] := ⟨by simp, A, 0, rfl, .inl ⟨rfl, rfl⟩⟩
theorem Own.len (h : Own w e size v n xs) : xs.length = n * size := h.1
theorem Own.fr (h : Own w e size v n xs) (f : Fr M w w') (hM : ∀ g, blk v = some g → ¬ M g) : Own w' e size v n xs := by
  obtain ⟨hl, A, c, rfl, h | ⟨g, cur, rfl, h0, hb, r⟩⟩ := h
  · exact ⟨hl, A, c, rfl, .inl h⟩
  · exact ⟨hl, _, c, rfl, .inr ⟨g, cur, rfl, h0, hb.fr f (hM g (by simp [blk]; omega)), r⟩⟩
theorem Own.blk_lt (h : Own w e size v n xs) {g : Nat} (hg : blk v = some g) : g < w.heap.size := by
  obtain ⟨hl, A, c, rfl, ⟨rfl, _⟩ | ⟨g', cur, rfl, h0, hb, r⟩⟩ := h
  · cases A <;> simp [blk] at hg
  · simp [blk] at hg; have := hb.lt; omega
theorem Own.blk_ne (h : Own w e size v n xs) {g t : Nat} {cs : Array Value} (hb : Blk w g t cs) (hne : e ≠ t) : blk v ≠ some g := by
  obtain ⟨hl, A, c, rfl, ⟨rfl, _⟩ | ⟨g', cur, rfl, h0, hb', r⟩⟩ := h
  · cases A <;> simp [blk]
  · intro hg
    have : g' = g := by simp [blk] at hg; omega
    subst this
    exact hb'.ne hb hne rfl
theorem Own.blk_ne' {v' : Value} {e' size' n' : Nat} {xs' : List Value} (h : Own w e size v n xs) (h' : Own w e' size' v' n' xs') (hne : e ≠ e') {g : Nat} (hg : blk v' = some g) : blk v ≠ some g := by
  obtain ⟨hl, A, c, rfl, ⟨rfl, _⟩ | ⟨g', cur, rfl, h0, hb', r⟩⟩ := h'
  · cases A <;> simp [blk] at hg
  · have : g' = g := by simp [blk] at hg; omega
    subst this
    exact h.blk_ne hb' hne
theorem Own.rd (h : Own w e size v n xs) : Rd w size v n xs := by
  obtain ⟨hl, A, c, rfl, ⟨rfl, rfl⟩ | ⟨g, cur, rfl, h0, hb, hnc, hcm, hsz, ht⟩⟩ := h
  · exact ⟨hl, A, 0, rfl, Nat.le_refl _, Nat.zero_le _, fun h => absurd h (by omega)⟩
  · refine ⟨hl, _, c, rfl, hnc, hcm, fun _ => ⟨_, rfl, rfl, fun j u hu => ?_⟩⟩
    rw [hb.cell, Nat.zero_add]
    rw [← ht, List.getElem?_take] at hu
    split at hu
    · simpa using hu
    · cases hu
theorem Own.cap (h : Own w e size v n xs) : ∃ A c, v = .slice A n c ∧ n ≤ c ∧ c ≤ maxLen := by
  obtain ⟨_, A, c, hv, h1, h2, _⟩ := h.rd; exact ⟨A, c, hv, h1, h2⟩
theorem Rd.slice (h : Rd w size v n xs) : ∃ A c, v = .slice A n c ∧ n ≤ c ∧ c ≤ maxLen := by
  obtain ⟨_, A, c, hv, h1, h2, _⟩ := h; exact ⟨A, c, hv, h1, h2⟩
theorem Rd.fr (h : Rd w size v n xs) (hs : 0 < size) (f : Fr M w w') (hM : ∀ A c, v = .slice (some A) n c → 0 < n → ¬ M A.block) : Rd w' size v n xs := by
  obtain ⟨hl, A, c, rfl, h1, h2, h3⟩ := h
  refine ⟨hl, A, c, rfl, h1, h2, fun hn => ?_⟩
  obtain ⟨ad, rfl, hsp, hc⟩ := h3 hn
  refine ⟨ad, rfl, hsp, fun j u hu => ?_⟩
  have hcell := hc j u hu
  rw [f.cell (World.block_lt_of_cell? _ _ hcell) (hM ad _ rfl hn)]
  exact hcell
theorem Rd.no (h : Rd w size v n xs) (hs : 0 < size) (f : Fr nob w w') : Rd w' size v n xs := h.fr hs f (fun _ _ _ _ x => x)
theorem Rd.nil (w : World) (size : Nat) (A : Option Addr) : Rd w size (.slice A 0 0) 0 [] := ⟨by simp, A, 0, rfl, Nat.le_refl _, Nat.zero_le _, fun h => absurd h (by omega)⟩
/-- A store into an owned row. -/
theorem Own.store (h : Own w e size v n xs) {g : Nat} (hg : blk v = some g) (j : Nat) (u : Value) : Own (w.setCell ⟨g, j, none⟩ u) e size v n (xs.set j u) := by
  obtain ⟨hl, A, c, rfl, ⟨rfl, _⟩ | ⟨g', cur, rfl, h0, hb, hnc, hcm, hsz, ht⟩⟩ := h
  · cases A <;> simp [blk] at hg
  · have : g' = g := by simp [blk] at hg; omega
    subst this
    refine ⟨by simpa using hl, _, c, rfl, .inr ⟨g', _, rfl, h0, hb.setCell j u, hnc, hcm, by simpa using hsz, ?_⟩⟩
    rw [← ht, Array.toList_setIfInBounds, List.take_set]
theorem Own.far (h : Own w e size v n xs) {p : Addr} (hg : blk v ≠ some p.block) (u : Value) : Own (w.setCell p u) e size v n xs :=
  h.fr ((Fr.refl (oneb p.block) w).setCell p u (fun _ => rfl)) (fun g hg' hM => hg (by rw [hg', hM]))
theorem Own.alloc (h : Own w e size v n xs) (o : Obj) : Own (w.alloc o) e size v n xs := h.fr ((Fr.refl nob w).alloc o) (fun _ _ x => x)
theorem Own.drewN (h : Own w e size v n xs) (k : Nat) : Own (w.drewN k) e size v n xs := h
theorem Own.row {base : Nat} (h : w.ownsRow base e size v n xs) (hn : 0 < n ∨ v = .slice none 0 0) : Own w e size v n xs := by
  obtain ⟨hl, ⟨rfl, rfl⟩ | ⟨g, cap, cur, rfl, hb, hg, h1, h2, h3, h4⟩⟩ := h
  · exact ⟨hl, none, 0, rfl, .inl ⟨rfl, rfl⟩⟩
  · rcases hn with hn | hn
    · exact ⟨hl, _, cap, rfl, .inr ⟨g, cur, rfl, by omega, hg, h1, h2, h3, h4⟩⟩
    · cases hn
end

/-- A slice type of the program: its number, its element's, cells and bytes of one, and its zero. -/
structure SlTy (P : Program) (t e size bytes : Nat) (z : Value) : Prop where
  ht : P.underlying t = some (.slice e)
  hi : ∃ i, P.info? e = some i ∧ i.zero = some z ∧ i.size = size ∧ i.bytes = bytes
  hz : z.cells.size = size
  pos : 0 < size
theorem SlTy.mk' {P : Program} {t e size bytes : Nat} {z : Value} (ht : P.underlying t = some (.slice e)) (h : (P.info? e).map (fun i => (i.zero, i.size, i.bytes)) = some (some z, size, bytes))
    (hz : z.cells.size = size) (pos : 0 < size) : SlTy P t e size bytes z := by
  obtain ⟨i, hi, h0, h1, h2⟩ := info_parts h
  exact ⟨ht, ⟨i, hi, h0, h1, h2⟩, hz, pos⟩

section
variable {P : Program} {w : World} {t ty e size bytes n m : Nat} {z v src : Value} {xs news : List Value}
theorem own_grown (W : World) (hl : (xs ++ news).length = (n + m) * size) (hz : z.cells.size = size) (cap : Nat) (hc : n + m ≤ cap) (hcm : cap ≤ maxLen) (h0 : 0 < n + m) :
    Own (W.alloc (.cells (xs.toArray ++ news.toArray ++ Builtin.zeroCells z.cells (cap - (n + m))) e)) e size (.slice (some ⟨W.heap.size, 0, none⟩) (n + m) cap) (n + m) (xs ++ news) := by
  refine ⟨hl, _, cap, rfl, .inr ⟨W.heap.size, _, rfl, by omega, heap_alloc_new W _, hc, hcm, ?_, ?_⟩⟩
  · rw [Array.size_append, Array.size_append, size_zeroCells, hz]
    simp only [List.size_toArray]
    rw [← List.length_append, hl, ← Nat.add_mul]
    congr 1; omega
  · rw [Array.toList_append, Array.toList_append, ← hl]
    exact List.take_left

/-- append(v, src...) where v is owned and src is read. -/
theorem run_append (T : SlTy P t e size bytes z) (ho : Own w e size v n xs) (hs : Rd w size src m news) (h1 : ∀ u ∈ news, u.oneCell' = true) (hb : (n + m) * bytes ≤ 140737488355328) (hm : n + m ≤ maxLen) :
    ∃ v' w', (Builtin.append_ #[t, t] ty #[v, src]).run P w = .ok v' w' ∧ Own w' e size v' (n + m) (xs ++ news) ∧ Fr (obl (blk v)) w w' ∧ (blk v' = blk v ∨ blk v' = some w.heap.size) := by
  obtain ⟨i, hi, hz0, hz1, hz2⟩ := T.hi
  subst hz1; subst hz2
  obtain ⟨hsl, A, c, rfl, hmc, hcm, hcells⟩ := hs
  have hlen : (xs ++ news).length = (n + m) * i.size := by rw [List.length_append, ho.1, hsl, Nat.add_mul]
  rcases Nat.eq_zero_or_pos m with rfl | hmp
  · have hn : news = [] := List.eq_nil_of_length_eq_zero (by simpa using hsl)
    subst hn
    refine ⟨v, w, ?_, by simpa using ho, Fr.refl _ w, .inl rfl⟩

    obtain ⟨_, A', c', rfl, ⟨rfl, rfl⟩ | ⟨g, cur, rfl, h0, hbk, hnc, _⟩⟩ := ho
    · cases A <;> cases A' <;> simp [Builtin.append_, run_underlying T.ht, sizeOf, typeInfo, hi, Builtin.lenOf, Builtin.firstCells, loadCells, loadCellsFrom, storeCells]
    · cases A <;> simp [Builtin.append_, run_underlying T.ht, sizeOf, typeInfo, hi, Builtin.lenOf, Builtin.firstCells, hnc, loadCells, loadCellsFrom, storeCells]
  · obtain ⟨ad, rfl, hsp, hc⟩ := hcells hmp
    have hnews : ∀ j u, news[j]? = some u → w.cell? (ad.add j) = some u := fun j u hu => by rw [add_of ad hsp]; exact hc j u hu
    have fin : ∀ (old : Nat) (row : Option Nat), 
        Own (w.drew.alloc (.cells (xs.toArray ++ news.toArray ++ Builtin.zeroCells z.cells (grownCap w (n + m) old e - (n + m))) e)) e i.size
          (.slice (some ⟨w.heap.size, 0, none⟩) (n + m) (grownCap w (n + m) old e)) (n + m) (xs ++ news) ∧
        Fr (obl row) w (w.drew.alloc (.cells (xs.toArray ++ news.toArray ++ Builtin.zeroCells z.cells (grownCap w (n + m) old e - (n + m))) e)) ∧
        blk (.slice (some ⟨w.heap.size, 0, none⟩) (n + m) (grownCap w (n + m) old e)) = some w.heap.size := fun old row => by
      have hge := grownCap_ge w (n + m) old e
      refine ⟨own_grown w.drew hlen T.hz _ hge (grownCap_le_maxLen w (n + m) old e hm) (by omega), ((Fr.refl _ w).drew.alloc _), ?_⟩
      simp only [blk]; rw [if_neg (by omega)]
    have hm63 : ((n + m : Nat) : Int) ≤ 9223372036854775807 := by unfold maxLen at hm; omega
    obtain ⟨hl, A', c', rfl, ⟨rfl, rfl⟩ | ⟨g, cur, rfl, h0, hbk, hnc, hc2, hcur, ht⟩⟩ := ho
    · have hx : xs = [] := List.eq_nil_of_length_eq_zero (by simpa using hl)
      subst hx
      cases A' with
      | none =>
        have hr := run_append_nil (P := P) w t ty e i z T.ht hi hz0 ad m c news hsl hnews hmp (by omega) (by have hb' := hb; simp only [Nat.zero_add] at hb'; omega)
        obtain ⟨f1, f2, f3⟩ := fin 0 (blk (.slice none 0 0))
        simp only [Nat.zero_add, Array.empty_append, List.nil_append] at f1 f2 f3 hr ⊢
        exact ⟨_, _, hr, f1, f2, .inr f3⟩
      | some b =>
        have hr := run_append_grow (P := P) w t ty e i z T.ht hi hz0 b 0 0 [] (by simp) (by simp) ad m c news hsl hnews (by omega) (by omega) (growslice_fits (by omega) hb)
        obtain ⟨f1, f2, f3⟩ := fin 0 (blk (.slice (some b) 0 0))
        exact ⟨_, _, hr, f1, f2, .inr f3⟩
    · by_cases hroom : n + m ≤ c'
      · have hfit : n * i.size + news.length ≤ cur.size := by rw [hsl, hcur, ← Nat.add_mul]; exact Nat.mul_le_mul_right _ hroom
        have hr := run_append_room (P := P) w t ty e i T.ht hi g n c' cur hbk ad m c news hsl hnews h1 hroom hfit
        refine ⟨_, _, hr, ⟨hlen, _, c', rfl, .inr ⟨g, _, rfl, h0, setRow_heap w g cur _ e _ hbk, hroom, hc2, ?_, ?_⟩⟩, ⟨rfl, rfl, rfl, by simp, fun k _ hk => setRow_other w g k _ (fun e => hk ?_)⟩, .inl ?_⟩
        · simp only [List.size_toArray, List.length_append, List.length_take, List.length_drop, Array.length_toList]
          omega
        · rw [ht, ← hlen]
          exact List.take_left
        · simp only [obl, blk]; rw [if_neg (by omega), e]
        · simp only [blk]
      · have holds : ∀ j u, xs[j]? = some u → w.cell? ((⟨g, 0, none⟩ : Addr).add j) = some u := fun j u hu => by
          rw [add_mk, hbk.cell, Nat.zero_add]
          rw [← ht, List.getElem?_take] at hu
          split at hu
          · simpa using hu
          · cases hu
        have hr := run_append_grow (P := P) w t ty e i z T.ht hi hz0 ⟨g, 0, none⟩ n c' xs hl holds ad m c news hsl hnews (by omega) (by omega) (growslice_fits (by omega) hb)
        obtain ⟨f1, f2, f3⟩ := fin c' (blk (.slice (some ⟨g, 0, none⟩) n c'))
        exact ⟨_, _, hr, f1, f2, .inr f3⟩

theorem toList_zeroCells_int (k : IntKind) (m : Nat) : (Builtin.zeroCells #[.int k 0] m).toList = List.replicate m (.int k 0) := by
  apply List.ext_getElem
  · simp [Builtin.zeroCells]
  · intro j h1 h2
    simp [Builtin.zeroCells, Nat.mod_one]

/-- append(v, make([]int, m)...): the translation hands the number over. -/
theorem run_append_made {ti : TypeId} {k : IntKind} (hti : P.underlying ti = some (.int k)) (T : SlTy P t e 1 bytes (.int .i64 0)) (ho : Own w e 1 v n xs) (hb : (n + m) * bytes ≤ 140737488355328) (hm : n + m ≤ 9223372036854775807) :
    ∃ v' w', (Builtin.append_ #[t, ti] ty #[v, .int .i64 (m : Int)]).run P w = .ok v' w' ∧ Own w' e 1 v' (n + m) (xs ++ List.replicate m (.int .i64 0)) ∧ Fr (obl (blk v)) w w' ∧ (blk v' = blk v ∨ blk v' = some w.heap.size) := by
  obtain ⟨i, hi, hz0, hz1, hz2⟩ := T.hi
  subst hz2
  have hlen : (xs ++ List.replicate m (Value.int .i64 0)).length = (n + m) * 1 := by rw [List.length_append, ho.1, List.length_replicate]; omega
  have hzero := toList_zeroCells_int .i64 m
  have hwrap : IntKind.i64.wrap (m : Int) = m := IntWalk.i64_in _ (by omega)
  have hai : ∀ w : World, (asInt (.int .i64 (m : Int))).run P w = .ok (m : Int) w := fun w => rfl
  have hbm : m * i.bytes ≤ 140737488355328 := Nat.le_trans (Nat.mul_le_mul_right _ (by omega)) hb
  have hbi : ¬ (281474976710656 < (m : Int) * (i.bytes : Int)) := by
    have : ((m * i.bytes : Nat) : Int) ≤ 140737488355328 := by omega
    rw [Int.natCast_mul] at this; omega
  have hneg : ¬ ((m : Int) < 0) := by omega
  have hml : n + m ≤ maxLen := by unfold maxLen; omega
  have hfull : ∀ c', c' < n + m → Builtin.nextslicecap (n + m) c' * i.bytes ≤ 281474976710656 := fun c' hc => growslice_fits hc hb
  have fin : 0 < m → ∀ (old : Nat) (row : Option Nat), 
        Own (w.drew.alloc (.cells (xs.toArray ++ (Builtin.zeroCells #[.int .i64 0] m) ++ Builtin.zeroCells #[.int .i64 0] (grownCap w (n + m) old e - (n + m))) e)) e 1
          (.slice (some ⟨w.heap.size, 0, none⟩) (n + m) (grownCap w (n + m) old e)) (n + m) (xs ++ List.replicate m (.int .i64 0)) ∧
        Fr (obl row) w (w.drew.alloc (.cells (xs.toArray ++ (Builtin.zeroCells #[.int .i64 0] m) ++ Builtin.zeroCells #[.int .i64 0] (grownCap w (n + m) old e - (n + m))) e)) ∧
        blk (.slice (some ⟨w.heap.size, 0, none⟩) (n + m) (grownCap w (n + m) old e)) = some w.heap.size := fun hmp old row => by
      have hge := grownCap_ge w (n + m) old e
      have h2 := own_grown (e := e) (z := .int .i64 0) w.drew hlen T.hz _ hge (grownCap_le_maxLen w (n + m) old e hml) (by omega)
      rw [← hzero] at h2 ⊢
      refine ⟨h2, ((Fr.refl _ w).drew.alloc _), ?_⟩
      simp only [blk]; rw [if_neg (by omega)]
  obtain ⟨hl, A', c', rfl, hcase⟩ := ho
  by_cases hroom : n + m ≤ c'
  · obtain ⟨rfl, rfl⟩ | ⟨g, cur, rfl, h0, hbk, hnc, hc2, hcur, ht⟩ := hcase
    · obtain rfl : m = 0 := by omega
      have hx : xs = [] := List.eq_nil_of_length_eq_zero (by simpa using hl)
      subst hx
      refine ⟨.slice A' 0 0, w, ?_, by simpa using Own.empty w e 1 A', Fr.refl _ w, .inl rfl⟩
      simp only [Int.ofNat_eq_natCast, Int.natCast_zero] at hai hwrap
      cases A' <;> simp [Builtin.append_, run_underlying T.ht, run_underlying hti, sizeOf, typeInfo, hi, storeCells, hai, hwrap]
    · have hst := run_storeCells_at P g (n * 1) e (List.replicate m (.int .i64 0)) 0 cur w hbk (by simp; omega) (by intro u hu; rw [List.eq_of_mem_replicate hu]; rfl)
      simp only [Nat.add_zero, Nat.mul_one] at hst
      have hr : (Builtin.append_ #[t, ti] ty #[.slice (some ⟨g, 0, none⟩) n c', .int .i64 (m : Int)]).run P w = .ok (.slice (some ⟨g, 0, none⟩) (n + m) c') (w.setRow g (cur.toList.take n ++ List.replicate m (Value.int .i64 0) ++ cur.toList.drop (n + (List.replicate m (Value.int .i64 0)).length)).toArray) := by
        by_cases hm0 : m = 0
        · subst hm0
          simp only [Int.natCast_zero] at hai hwrap
          simp [Builtin.append_, run_underlying T.ht, run_underlying hti, sizeOf, typeInfo, hi, storeCells, hai, hwrap, hnc, setRow_self w g cur e (0, 0) hbk]
        · simp [Builtin.append_, run_underlying T.ht, run_underlying hti, sizeOf, typeInfo, hi, hai, hwrap, hneg, hbi, hm0, hroom, hz1, zeroValue, hz0, Value.cells, hzero, add_mk, hst]
      refine ⟨_, _, hr, ⟨hlen, _, c', rfl, .inr ⟨g, _, rfl, h0, setRow_heap w g cur _ e _ hbk, hroom, hc2, ?_, ?_⟩⟩, ⟨rfl, rfl, rfl, by simp, fun k _ hk => setRow_other w g k _ (fun e => hk ?_)⟩, .inl ?_⟩
      · simp only [List.size_toArray, List.length_append, List.length_take, List.length_drop, Array.length_toList, List.length_replicate]
        omega
      · rw [Nat.mul_one] at ht; rw [ht, ← hlen]
        exact List.take_left
      · simp only [obl, blk]; rw [if_neg (by omega), e]
      · simp only [blk]
  · have hmp : 0 < m := by
      obtain ⟨rfl, rfl⟩ | ⟨g, cur, rfl, h0, hbk, hnc, hc2, hcur, ht⟩ := hcase <;> omega
    obtain ⟨f1, f2, f3⟩ := fin hmp c' (blk (.slice A' n c'))
    refine ⟨_, _, ?_, f1, f2, .inr f3⟩
    have hf' := hfull c' (by omega)
    have hm63 : ¬ (9223372036854775807 < (n : Int) + (m : Int)) := by omega
    have hmz : ¬ m = 0 := by omega
    have hf'' : ¬ (281474976710656 < Builtin.nextslicecap (n + m) c' * i.bytes) := by omega
    have hwz : (Builtin.zeroCells #[Value.int .i64 0] m) = (Builtin.zeroCells (Value.int .i64 0).cells m) := rfl
    have hfo : (Builtin.firstCells 1 n (.slice A' n c')).run P w.drew = .ok xs.toArray w.drew := by
      obtain ⟨rfl, rfl⟩ | ⟨g, cur, rfl, h0, hbk, hnc, hc2, hcur, ht⟩ := hcase
      · have hx : xs = [] := List.eq_nil_of_length_eq_zero (by simpa using hl)
        subst hx
        cases A' <;> simp [Builtin.firstCells, loadCells, loadCellsFrom]
      · refine run_firstCells_some (P := P) w.drew 1 n ⟨g, 0, none⟩ n c' xs hl ?_
        intro j u hu
        rw [add_mk, World.cell?_drew, hbk.cell, Nat.zero_add]
        rw [← ht, List.getElem?_take] at hu
        split at hu
        · simpa using hu
        · cases hu
    simp [Builtin.append_, run_underlying T.ht, run_underlying hti, sizeOf, typeInfo, zeroValue, hi, hz0, hz1, hai, hwrap, hneg, hbi, hroom, hf'', hm63, hmz, Question.forced, hfo, newRow, grownCap, Value.cells]

/-- The cells of a new row of one-cell zeros. -/
theorem run_makeSlice1 (T : SlTy P t e 1 bytes z) (kl kc : IntKind) (hb : bytes * n ≤ 281474976710656) (hm : n ≤ maxLen) (hz1 : z.cells = #[z]) :
    ∃ w', (Instr.makeSlice t (.int kl (n : Int)) (.int kc (n : Int))).run P w = .ok (.slice (some ⟨w.heap.size, 0, none⟩) n n) w' ∧
      Own w' e 1 (.slice (some ⟨w.heap.size, 0, none⟩) n n) n (List.replicate n z) ∧ Fr nob w w' ∧ w.heap.size < w'.heap.size := by
  obtain ⟨i, hi, hz0, hs, hz2⟩ := T.hi
  subst hz2
  obtain ⟨w', hr, ho, hg⟩ := run_make_full (P := P) w w.heap.size t e i z 1 T.ht hi hz0 hs kl kc n hb hm (Nat.le_refl _)
  have hlt : w.heap.size < w'.heap.size := by
    obtain ⟨_, ⟨h, _⟩ | ⟨g, cap, cur, h, hb, hg, _⟩⟩ := ho
    · cases h
    · injection h with h; injection h with h; injection h with h
      subst h
      exact (Array.getElem?_eq_some_iff.1 hg).1
  refine ⟨w', hr, ?_, (Fr.grown hg).mono (fun k _ h => by simp [obl] at h), hlt⟩
  rw [hz1, Nat.mul_one, toList_madeCells_one] at ho
  rcases Nat.eq_zero_or_pos n with rfl | hn
  · exact Own.empty w' e 1 _
  · exact Own.row ho (.inl hn)

theorem Rd.ofBlk {g : Nat} {cs : List Value} (h : Blk w g t cs.toArray) (hs : cs.length = n * size) (hm : n ≤ maxLen) : Rd w size (.slice (some ⟨g, 0, none⟩) n n) n cs :=
  ⟨hs, _, n, rfl, Nat.le_refl _, hm, fun _ => ⟨_, rfl, rfl, fun j u hu => by rw [h.cell, Nat.zero_add]; simpa using hu⟩⟩

variable {o : Oper} {a : Act} {K : Act → World → Prop} {Q : Exit → Act → World → Prop} {ops : Array Oper} {rest : List Oper} {E : Prop}
theorem wp_append (s x : Operand) (ho : o.op = .call { callee := .builtin .append, args := #[s, x], argTypes := #[t, t] }) (T : SlTy P t e size bytes z)
    (hs : a.eval s = v) (hx : a.eval x = src) (hown : Own w e size v n xs) (hrd : Rd w size src m news) (h1 : ∀ u ∈ news, u.oneCell' = true) (hb : (n + m) * bytes ≤ 140737488355328) (hm : n + m ≤ maxLen)
    (h : ∀ A' c' w', Own w' e size (.slice A' (n + m) c') (n + m) (xs ++ news) → Fr (obl (blk v)) w w' → (blk (.slice A' (n + m) c') = blk v ∨ blk (.slice A' (n + m) c') = some w.heap.size) → K (a.put o.dst (.slice A' (n + m) c')) w') : o.wp P a w K Q := by
  obtain ⟨v', w', hr, h2, h3, h4⟩ := run_append (P := P) (ty := o.type) T hown hrd h1 hb hm
  unfold Oper.wp execOp
  simp only [ho, resolve, invoke, builtin, Sem.run_bind, Sem.run_pure, Result.andThen_ok, List.map_toArray, List.map_cons, List.map_nil, hs, hx, hr]
  obtain ⟨A', c', rfl, _, _⟩ := h2.cap
  exact h A' c' w' h2 h3 h4
theorem wpList_append (hgd : o.guard = none) (s x : Operand) (ho : o.op = .call { callee := .builtin .append, args := #[s, x], argTypes := #[t, t] }) (T : SlTy P t e size bytes z)
    (hs : a.eval s = v) (hx : a.eval x = src) (hown : Own w e size v n xs) (hrd : Rd w size src m news) (h1 : ∀ u ∈ news, u.oneCell' = true) (hb : (n + m) * bytes ≤ 140737488355328) (hm : n + m ≤ maxLen)
    (h : ∀ A' c' w', Own w' e size (.slice A' (n + m) c') (n + m) (xs ++ news) → Fr (obl (blk v)) w w' → (blk (.slice A' (n + m) c') = blk v ∨ blk (.slice A' (n + m) c') = some w.heap.size) → wpList P ops Q rest (a.put o.dst (.slice A' (n + m) c')) w') : wpList P ops Q (o :: rest) a w :=
  wpList_plain hgd fun _ hK => wp_append s x ho T hs hx hown hrd h1 hb hm fun A' c' w' h2 h3 h4 => hK _ _ (h A' c' w' h2 h3 h4)
theorem step_append (hgd : o.guard = none) (s x : Operand) (ho : o.op = .call { callee := .builtin .append, args := #[s, x], argTypes := #[t, t] }) (T : SlTy P t e size bytes z)
    (hs : a.eval s = v) (hx : a.eval x = src) (hown : Own w e size v n xs) (hrd : Rd w size src m news) (h1 : ∀ u ∈ news, u.oneCell' = true) (hb : (n + m) * bytes ≤ 140737488355328) (hm : n + m ≤ maxLen)
    (h : ∀ A' c' w', Own w' e size (.slice A' (n + m) c') (n + m) (xs ++ news) → Fr (obl (blk v)) w w' → (blk (.slice A' (n + m) c') = blk v ∨ blk (.slice A' (n + m) c') = some w.heap.size) → K (a.put o.dst (.slice A' (n + m) c')) w') :
    if Region.wanted o (yielded ops a.tmps) = true then Oper.wp P o a w K Q else E := by
  have hw : Region.wanted o (yielded ops a.tmps) = true := by simp [Region.wanted, hgd]
  rw [if_pos hw]
  exact wp_append s x ho T hs hx hown hrd h1 hb hm h
theorem wp_append_made {ti : TypeId} {k : IntKind} (hti : P.underlying ti = some (.int k)) (s x : Operand) (ho : o.op = .call { callee := .builtin .append, args := #[s, x], argTypes := #[t, ti] }) (T : SlTy P t e 1 bytes (.int .i64 0))
    (hs : a.eval s = v) (hx : a.eval x = .int .i64 (m : Int)) (hown : Own w e 1 v n xs) (hb : (n + m) * bytes ≤ 140737488355328) (hm : n + m ≤ 9223372036854775807)
    (h : ∀ A' c' w', Own w' e 1 (.slice A' (n + m) c') (n + m) (xs ++ List.replicate m (.int .i64 0)) → Fr (obl (blk v)) w w' → (blk (.slice A' (n + m) c') = blk v ∨ blk (.slice A' (n + m) c') = some w.heap.size) → K (a.put o.dst (.slice A' (n + m) c')) w') : o.wp P a w K Q := by
  obtain ⟨v', w', hr, h2, h3, h4⟩ := run_append_made (P := P) (ty := o.type) hti T hown hb hm
  unfold Oper.wp execOp
  simp only [ho, resolve, invoke, builtin, Sem.run_bind, Sem.run_pure, Result.andThen_ok, List.map_toArray, List.map_cons, List.map_nil, hs, hx, hr]
  obtain ⟨A', c', rfl, _, _⟩ := h2.cap
  exact h A' c' w' h2 h3 h4
theorem wpList_append_made {ti : TypeId} {k : IntKind} (hti : P.underlying ti = some (.int k)) (hgd : o.guard = none) (s x : Operand) (ho : o.op = .call { callee := .builtin .append, args := #[s, x], argTypes := #[t, ti] }) (T : SlTy P t e 1 bytes (.int .i64 0))
    (hs : a.eval s = v) (hx : a.eval x = .int .i64 (m : Int)) (hown : Own w e 1 v n xs) (hb : (n + m) * bytes ≤ 140737488355328) (hm : n + m ≤ 9223372036854775807)
    (h : ∀ A' c' w', Own w' e 1 (.slice A' (n + m) c') (n + m) (xs ++ List.replicate m (.int .i64 0)) → Fr (obl (blk v)) w w' → (blk (.slice A' (n + m) c') = blk v ∨ blk (.slice A' (n + m) c') = some w.heap.size) → wpList P ops Q rest (a.put o.dst (.slice A' (n + m) c')) w') : wpList P ops Q (o :: rest) a w :=
  wpList_plain hgd fun _ hK => wp_append_made hti s x ho T hs hx hown hb hm fun A' c' w' h2 h3 h4 => hK _ _ (h A' c' w' h2 h3 h4)
theorem wp_make1 (l c : Operand) (ho : o.op = .makeSlice t l c) (T : SlTy P t e 1 bytes z) (hz1 : z.cells = #[z]) (kl kc : IntKind) (hl : a.eval l = .int kl (n : Int)) (hc : a.eval c = .int kc (n : Int)) (hb : bytes * n ≤ 281474976710656) (hm : n ≤ maxLen)
    (h : ∀ w', Own w' e 1 (.slice (some ⟨w.heap.size, 0, none⟩) n n) n (List.replicate n z) → Fr nob w w' → w.heap.size < w'.heap.size → K (a.put o.dst (.slice (some ⟨w.heap.size, 0, none⟩) n n)) w') : o.wp P a w K Q := by
  obtain ⟨w', hr, h2, h3, h4⟩ := run_makeSlice1 (P := P) (w := w) T kl kc hb hm hz1
  unfold Oper.wp execOp
  simp only [ho, hl, hc, Sem.run_bind, hr, Result.andThen_ok, Sem.run_pure]
  exact h w' h2 h3 h4
theorem wpList_make1 (hgd : o.guard = none) (l c : Operand) (ho : o.op = .makeSlice t l c) (T : SlTy P t e 1 bytes z) (hz1 : z.cells = #[z]) (kl kc : IntKind) (hl : a.eval l = .int kl (n : Int)) (hc : a.eval c = .int kc (n : Int)) (hb : bytes * n ≤ 281474976710656) (hm : n ≤ maxLen)
    (h : ∀ w', Own w' e 1 (.slice (some ⟨w.heap.size, 0, none⟩) n n) n (List.replicate n z) → Fr nob w w' → w.heap.size < w'.heap.size → wpList P ops Q rest (a.put o.dst (.slice (some ⟨w.heap.size, 0, none⟩) n n)) w') : wpList P ops Q (o :: rest) a w :=
  wpList_plain hgd fun _ hK => wp_make1 l c ho T hz1 kl kc hl hc hb hm fun w' h2 h3 h4 => hK _ _ (h w' h2 h3 h4)
theorem step_make1 (hgd : o.guard = none) (l c : Operand) (ho : o.op = .makeSlice t l c) (T : SlTy P t e 1 bytes z) (hz1 : z.cells = #[z]) (kl kc : IntKind) (hl : a.eval l = .int kl (n : Int)) (hc : a.eval c = .int kc (n : Int)) (hb : bytes * n ≤ 281474976710656) (hm : n ≤ maxLen)
    (h : ∀ w', Own w' e 1 (.slice (some ⟨w.heap.size, 0, none⟩) n n) n (List.replicate n z) → Fr nob w w' → w.heap.size < w'.heap.size → K (a.put o.dst (.slice (some ⟨w.heap.size, 0, none⟩) n n)) w') :
    if Region.wanted o (yielded ops a.tmps) = true then Oper.wp P o a w K Q else E := by
  have hw : Region.wanted o (yielded ops a.tmps) = true := by simp [Region.wanted, hgd]
  rw [if_pos hw]
  exact wp_make1 l c ho T hz1 kl kc hl hc hb hm h
end
end Go.Proofs.YtngnipjfjhackaaDoor
