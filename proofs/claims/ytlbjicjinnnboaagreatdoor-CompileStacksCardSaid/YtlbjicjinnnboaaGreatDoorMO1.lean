/- MO1: CpMem, TyF, CoMem, CoPut, CoEach, CoEx. -/
import Derived.Test.YtlbjicjinnnboaaGreatDoorMK1
import Derived.Test.YtlbjicjinnnboaaGreatDoorMSg
import Derived.Test.YtlbjicjinnnboaaGreatDoorMCd
import Derived.StillTailTactics
/- Instructions in memory; how many there are. -/
namespace Go.Proofs.YtlbjicjinnnboaaGreatDoor
open Go.RowKit
open Pw
set_option linter.unusedVariables false
set_option linter.unusedSimpArgs false
def insOne (x : InsM) : List Value := [.int .i64 (x.op : Nat), .int .i64 x.a, .int .i64 (x.b : Nat), .string (bs x.s)]
def insCells (l : List InsM) : List Value := l.flatMap insOne
theorem insCells_app (l m : List InsM) : insCells (l ++ m) = insCells l ++ insCells m := by
  unfold insCells; rw [List.flatMap_append]
theorem insCells_get : ∀ {l : List InsM} {j : Nat} {x : InsM}, l[j]? = some x → (insCells l)[j * 4]? = some (.int .i64 (x.op : Nat)) ∧ (insCells l)[j * 4 + 1]? = some (.int .i64 x.a) ∧ (insCells l)[j * 4 + 2]? = some (.int .i64 (x.b : Nat)) ∧ (insCells l)[j * 4 + 3]? = some (.string (bs x.s))
  | [], _, _, h => by simp at h
  | a :: l, 0, x, h => by simp at h; subst h; exact ⟨rfl, rfl, rfl, rfl⟩
  | a :: l, j + 1, x, h => by
    have := insCells_get (l := l) (j := j) (x := x) (by simpa using h)
    have e : insCells (a :: l) = insOne a ++ insCells l := rfl
    have hl : (insOne a).length = 4 := rfl
    rw [e, List.getElem?_append_right (by omega), List.getElem?_append_right (by omega), List.getElem?_append_right (by omega), List.getElem?_append_right (by omega), hl]
    rw [show (j + 1) * 4 - 4 = j * 4 by omega, show (j + 1) * 4 + 1 - 4 = j * 4 + 1 by omega, show (j + 1) * 4 + 2 - 4 = j * 4 + 2 by omega, show (j + 1) * 4 + 3 - 4 = j * 4 + 3 by omega]
    exact this
theorem TyIns : SlTy Tryz.prog 35 45 4 40 (.agg #[.int .i64 0, .int .i64 0, .int .i64 0, .string ⟨#[]⟩]) := SlTy.mk' (by kernel_rfl) (by kernel_rfl) rfl (by decide)
structure InsAt (w0 w : World) (v : Value) (n : Nat) (l : List InsM) : Prop where
  own : Own w 45 4 v n (insCells l)
  len : n = l.length
  new : ∀ b, blk v = some b → w0.heap.size ≤ b
section
variable {w0 w w1 w' : World} {v u : Value} {n m : Nat} {l k : List InsM}
theorem InsAt.nil (w0 w : World) (c : Nat) (A : Option Addr) : InsAt w0 w (.slice A 0 0) 0 [] := ⟨Own.empty _ _ _ _, rfl, fun b hb => by cases A <;> simp [blk] at hb⟩
theorem InsAt.no (h : InsAt w0 w v n l) (f : Fr nob w w') : InsAt w0 w' v n l := ⟨h.own.fr f (fun _ _ x => x), h.len, h.new⟩
theorem InsAt.app (h : InsAt w0 w v n l) (F : Fr nob w0 w) {A : Option Addr} {c : Nat} (ho : Own w' 45 4 (.slice A (n + m) c) (n + m) (insCells l ++ insCells k)) (hf : Fr (obl (blk v)) w w') (hv : blk (.slice A (n + m) c) = blk v ∨ blk (.slice A (n + m) c) = some w.heap.size) (hm : m = k.length) :
    InsAt w0 w' (.slice A (n + m) c) (n + m) (l ++ k) ∧ Fr nob w0 w' := by
  refine ⟨⟨by rw [insCells_app]; exact ho, by rw [List.length_append, h.len, hm], fun b hb => ?_⟩, (F.trans hf (M := fun b => blk v = some b) (fun _ _ x => x.elim) (fun b _ hb => hb)).mono (fun b hb hm => by have := h.new b hm; omega)⟩
  rcases hv with e | e
  · exact h.new b (by rw [← e]; exact hb)
  · rw [hb] at e
    injection e with e
    have := F.size
    omega
theorem InsAt.stay (h : InsAt w0 w u m k) (hf : Fr (obl (blk v)) w w') (hne : ∀ b, blk u = some b → blk v ≠ some b) : InsAt w0 w' u m k :=
  ⟨h.own.fr hf (fun b hb hm => hne b hb hm), h.len, h.new⟩
theorem InsAt.later (h : InsAt w0 w1 v n l) (g : InsAt w1 w u m k) : ∀ b, blk u = some b → blk v ≠ some b := fun b hb he => by
  have h1 := h.own.blk_lt he
  have h2 := g.new b hb
  omega
end
structure PgV where
  nb : Nat
  nc : Nat
  fb : Nat
  fc : Nat
  tb : Nat
  tc : Nat
  sb : Nat
  sc : Nat
  ua : Option Addr
  un : Nat
  uc : Nat
  za : Option Addr
  zn : Nat
  zc : Nat
  lvs : List Value
  pvs : List Value
  p : ProgM
def PgV.val (g : PgV) : Value := .agg #[.slice (some ⟨g.nb, 0, none⟩) g.p.ns.length g.nc, .slice (some ⟨g.fb, 0, none⟩) g.p.fs.length g.fc, .slice (some ⟨g.tb, 0, none⟩) g.p.ns.length g.tc, .slice (some ⟨g.sb, 0, none⟩) g.p.ns.length g.sc, .slice g.ua g.un g.uc, .slice g.za g.zn g.zc]
structure PgAt (g : PgV) (w : World) : Prop where
  is : ProgIs g.p
  tree : TreeAt 0 w (.slice (some ⟨g.nb, 0, none⟩) g.p.ns.length g.nc) (.slice (some ⟨g.fb, 0, none⟩) g.p.fs.length g.fc) g.lvs g.pvs g.p.ns g.p.fs
  types : Own w 3 1 (.slice (some ⟨g.tb, 0, none⟩) g.p.ns.length g.tc) g.p.ns.length (ints g.p.types)
  slots : Own w 3 1 (.slice (some ⟨g.sb, 0, none⟩) g.p.ns.length g.sc) g.p.ns.length (intsI g.p.slots)
section
variable {g : PgV} {w w' : World}
theorem PgAt.no (h : PgAt g w) (f : Fr nob w w') : PgAt g w' := ⟨h.is, h.tree.no f, h.types.fr f (fun _ _ x => x), h.slots.fr f (fun _ _ x => x)⟩
theorem PgAt.len (h : PgAt g w) : (g.p.ns.length : Int) ≤ 300 := by have := h.is.tree.ok.few; omega
theorem PgAt.slot (h : PgAt g w) {x : Nat} (hx : x < g.p.ns.length) : w.cell? ⟨g.sb, x, none⟩ = some (.int .i64 (slotP g.p x)) := by
  obtain ⟨b, e, hc⟩ := h.slots.some (by omega)
  injection e with e
  injection e with e
  subst e
  have hl : x < g.p.slots.length := by rw [h.is.ls]; exact hx
  have := hc x (.int .i64 (slotP g.p x)) (by unfold intsI slotP; rw [List.getElem?_map, List.getD_eq_getElem?_getD, List.getElem?_eq_getElem hl]; rfl)
  simpa using this
theorem PgAt.type (h : PgAt g w) {x : Nat} (hx : x < g.p.ns.length) : w.cell? ⟨g.tb, x, none⟩ = some (.int .i64 (typeP g.p x : Nat)) := by
  obtain ⟨b, e, hc⟩ := h.types.some (by omega)
  injection e with e
  injection e with e
  subst e
  have hl : x < g.p.types.length := by rw [h.is.lt]; exact hx
  have := hc x (.int .i64 (typeP g.p x : Nat)) (by unfold ints typeP; rw [List.getElem?_map, List.getD_eq_getElem?_getD, List.getElem?_eq_getElem hl]; rfl)
  simpa using this
theorem PgAt.node (h : PgAt g w) {x : Nat} {nd : NodeM} (hx : g.p.ns[x]? = some nd) : ∃ lv, Own w 3 1 lv nd.l.length (ints nd.l) ∧
    w.cell? ⟨g.nb, x * 5, none⟩ = some (.int .i64 nd.kind) ∧ w.cell? ⟨g.nb, x * 5 + 1, none⟩ = some (.int .i64 nd.line) ∧ w.cell? ⟨g.nb, x * 5 + 2, none⟩ = some (.int .i64 nd.n) ∧ w.cell? ⟨g.nb, x * 5 + 3, none⟩ = some (.string (bs nd.name)) ∧ w.cell? ⟨g.nb, x * 5 + 4, none⟩ = some lv ∧ g.nb < w.heap.size ∧ x < g.p.ns.length := by
  have hlt := (List.getElem?_eq_some_iff.1 hx).1
  obtain ⟨lv, hlv⟩ : ∃ lv, g.lvs[x]? = some lv := ⟨_, List.getElem?_eq_getElem (by have := h.tree.same; omega)⟩
  obtain ⟨a, b, c, d, e, f⟩ := h.tree.node3 hx hlv
  exact ⟨lv, a, b, c, d, e, f, World.block_lt_of_cell? w ⟨g.nb, x * 5, none⟩ b, hlt⟩
end
structure CpK (g : PgV) (B k line n : Nat) (nm : List UInt8) (kv : Value) (l : List Nat) (w : World) : Prop where
  pg : PgAt g w
  bp : Blk w B 29 #[.slice (some ⟨g.nb, 0, none⟩) g.p.ns.length g.nc, .slice (some ⟨g.fb, 0, none⟩) g.p.fs.length g.fc, .slice (some ⟨g.tb, 0, none⟩) g.p.ns.length g.tc, .slice (some ⟨g.sb, 0, none⟩) g.p.ns.length g.sc, .slice g.ua g.un g.uc, .slice g.za g.zn g.zc]
  bn : Blk w (B + 1) 50 #[.int .i64 k, .int .i64 line, .int .i64 n, .string (bs nm), kv]
  kids : Own w 3 1 kv l.length (ints l)
section
variable {g : PgV} {w w' : World} {B k line n : Nat} {nm : List UInt8} {kv : Value} {l : List Nat}
theorem CpK.no (h : CpK g B k line n nm kv l w) (f : Fr nob w w') : CpK g B k line n nm kv l w' := ⟨h.pg.no f, h.bp.fr f (fun x => x), h.bn.fr f (fun x => x), h.kids.fr f (fun _ _ x => x)⟩
theorem PgAt.stay (h : PgAt g w) {v : Value} {c : Nat} {xs : List Value} (ho : Own w 45 4 v c xs) (hf : Fr (obl (blk v)) w w') : PgAt g w' := by
  cases hb : blk v with
  | none => rw [hb] at hf; exact h.no (hf.mono (fun _ _ x => by cases x))
  | some b =>
    obtain ⟨cs, hbk⟩ := ho.ty hb
    have f : Fr (oneb b) w w' := hf.mono (fun k _ hm => by
      have hm : blk v = some k := hm
      rw [hb] at hm; injection hm with hm; exact hm.symm)
    have own : ∀ {u : Value} {c : Nat} {xs : List Value}, Own w 3 1 u c xs → Own w' 3 1 u c xs := fun ho => ho.fr f fun b' hb' hm => by
      have hm : b' = b := hm
      subst hm
      exact ho.blk_ne hbk (by decide) hb'
    exact ⟨h.is, h.tree.farG hbk (by decide) (by decide) (by decide) (by decide) f, own h.types, own h.slots⟩
theorem CpK.stay (h : CpK g B k line n nm kv l w) {v : Value} {c : Nat} {xs : List Value} (ho : Own w 45 4 v c xs) (hf : Fr (obl (blk v)) w w') : CpK g B k line n nm kv l w' :=
  ⟨h.pg.stay ho hf, h.bp.fr hf (fun hb => by
      have hb : blk v = some B := hb
      exact ho.blk_ne h.bp (by decide) hb), h.bn.fr hf (fun hb => by
      have hb : blk v = some (B + 1) := hb
      exact ho.blk_ne h.bn (by decide) hb), h.kids.fr hf (fun b hb hm => by
      have hm : blk v = some b := hm
      exact ho.blk_ne' h.kids (by decide) hb hm)⟩
theorem CpK.new (h : PgAt g w) (ho : Own w 3 1 kv l.length (ints l)) (k line n : Nat) (nm : List UInt8) : CpK g w.heap.size k line n nm kv l ((w.alloc (.cells #[.slice (some ⟨g.nb, 0, none⟩) g.p.ns.length g.nc, .slice (some ⟨g.fb, 0, none⟩) g.p.fs.length g.fc, .slice (some ⟨g.tb, 0, none⟩) g.p.ns.length g.tc, .slice (some ⟨g.sb, 0, none⟩) g.p.ns.length g.sc, .slice g.ua g.un g.uc, .slice g.za g.zn g.zc] 29)).alloc (.cells #[.int .i64 k, .int .i64 line, .int .i64 n, .string (bs nm), kv] 50)) := by
  have hn := Blk.new (w.alloc (.cells #[.slice (some ⟨g.nb, 0, none⟩) g.p.ns.length g.nc, .slice (some ⟨g.fb, 0, none⟩) g.p.fs.length g.fc, .slice (some ⟨g.tb, 0, none⟩) g.p.ns.length g.tc, .slice (some ⟨g.sb, 0, none⟩) g.p.ns.length g.sc, .slice g.ua g.un g.uc, .slice g.za g.zn g.zc] 29)) 50 #[.int .i64 k, .int .i64 line, .int .i64 n, .string (bs nm), kv]
  rw [World.size_alloc] at hn
  exact ⟨(h.no ((Fr.refl nob w).alloc _)).no ((Fr.refl nob _).alloc _), (Blk.new w _ _).alloc _, hn, (ho.alloc _).alloc _⟩
theorem CpK.cells (h : CpK g B k line n nm kv l w) : w.cell? ⟨B, 0, none⟩ = some (.slice (some ⟨g.nb, 0, none⟩) g.p.ns.length g.nc) ∧ w.cell? ⟨B, 1, none⟩ = some (.slice (some ⟨g.fb, 0, none⟩) g.p.fs.length g.fc) ∧ w.cell? ⟨B, 2, none⟩ = some (.slice (some ⟨g.tb, 0, none⟩) g.p.ns.length g.tc) ∧ w.cell? ⟨B, 3, none⟩ = some (.slice (some ⟨g.sb, 0, none⟩) g.p.ns.length g.sc) ∧ w.cell? ⟨B, 4, none⟩ = some (.slice g.ua g.un g.uc) ∧ w.cell? ⟨B, 5, none⟩ = some (.slice g.za g.zn g.zc) ∧
    w.cell? ⟨B + 1, 0, none⟩ = some (.int .i64 k) ∧ w.cell? ⟨B + 1, 2, none⟩ = some (.int .i64 n) ∧ w.cell? ⟨B + 1, 3, none⟩ = some (.string (bs nm)) ∧ w.cell? ⟨B + 1, 4, none⟩ = some kv :=
  ⟨(h.bp.cell 0).trans rfl, (h.bp.cell 1).trans rfl, (h.bp.cell 2).trans rfl, (h.bp.cell 3).trans rfl, (h.bp.cell 4).trans rfl, (h.bp.cell 5).trans rfl, (h.bn.cell 0).trans rfl, (h.bn.cell 2).trans rfl, (h.bn.cell 3).trans rfl, (h.bn.cell 4).trans rfl⟩
theorem CpK.kid {kb m c : Nat} (h : CpK g B k line n nm (.slice (some ⟨kb, 0, none⟩) m c) l w) (j a : Nat) (hj : l[j]? = some a) : w.cell? ⟨kb, j, none⟩ = some (.int .i64 (a : Nat)) := by
  obtain ⟨A', c', hv, _, _⟩ := h.kids.cap
  injection hv with _ hm _
  subst hm
  obtain ⟨b, e, hc⟩ := h.kids.some (by have := (List.getElem?_eq_some_iff.1 hj).1; omega)
  injection e with e
  injection e with e
  subst e
  have := hc j (.int .i64 (a : Nat)) (by unfold ints; rw [List.getElem?_map, hj]; rfl)
  simpa using this
end
theorem kidsGet {w : World} {kv : Value} {l : List Nat} (h : Own w 3 1 kv l.length (ints l)) (hl : 0 < l.length) : ∃ kb kc, kv = .slice (some ⟨kb, 0, none⟩) l.length kc := by
  obtain ⟨A, c, rfl, _, _⟩ := h.cap
  obtain ⟨b, e, _⟩ := h.some hl
  exact ⟨b, c, by rw [e]⟩
section
variable {p : ProgM} {a b : Nat}
end
end Go.Proofs.YtlbjicjinnnboaaGreatDoor
/- Frames by types: only blocks of some types, from a place on, may have turned. -/
namespace Go.Proofs.YtlbjicjinnnboaaGreatDoor
open Go.RowKit
set_option linter.unusedVariables false
set_option linter.unusedSimpArgs false
def TyIn (ts : List TypeId) (w : World) (k : Nat) : Prop := ∃ t ∈ ts, ∃ cs f, w.heap[k]? = some (.cells cs t f)
def FrT (B : Nat) (ts : List TypeId) (w w' : World) : Prop := Fr (fun k => B ≤ k ∧ TyIn ts w k) w w'
section
variable {B B' : Nat} {ts ts' : List TypeId} {w w1 w2 w' : World} {t e size n m : Nat} {v : Value} {xs : List Value} {cs : Array Value}
theorem Blk.tyIn (h : Blk w m t cs) (ht : t ∉ ts) : ¬ TyIn ts w m := by
  rintro ⟨u, hu, cs', f, h'⟩
  unfold Blk at h
  rw [h] at h'
  injection h' with h'
  injection h' with _ h2
  subst h2
  exact ht hu
theorem Own.tyIn (h : Own w e size v n xs) (ht : e ∉ ts) {b : Nat} (hb : blk v = Option.some b) : ¬ TyIn ts w b := by
  obtain ⟨hl, A, c, rfl, ⟨rfl, _⟩ | ⟨g', cur, rfl, h0, hb', r⟩⟩ := h
  · cases A <;> simp [blk] at hb
  · have : g' = b := by simp [blk] at hb; omega
    subst this
    exact hb'.tyIn ht
theorem FrT.refl (B : Nat) (ts : List TypeId) (w : World) : FrT B ts w w := Fr.refl _ w
theorem FrT.no (h : Fr nob w w') : FrT B ts w w' := Fr.ofNo h
theorem FrT.mono (h : FrT B ts w w') (hb : B' ≤ B) (ht : ∀ t ∈ ts, t ∈ ts') : FrT B' ts' w w' :=
  Fr.mono h fun k _ ⟨h1, t, h2, h3⟩ => ⟨Nat.le_trans hb h1, t, ht t h2, h3⟩
theorem FrT.tr (h : FrT B ts w w1) (h2 : FrT B ts w1 w2) : FrT B ts w w2 := by
  refine Fr.trans h h2 (fun _ _ x => x) (fun k hk ⟨hB, hM⟩ => ?_)
  by_cases hn : B ≤ k ∧ TyIn ts w k
  · exact hn
  · have := h.block k hk hn
    obtain ⟨t, ht, cs, f, hc⟩ := hM
    exact ⟨hB, t, ht, cs, f, by rw [← this]; exact hc⟩
theorem FrT.blk (h : FrT B ts w w') (hb : Blk w m t cs) (ht : t ∉ ts) : Blk w' m t cs := hb.fr h (fun hm => hb.tyIn ht hm.2)
theorem FrT.own (h : FrT B ts w w') (ho : Own w e size v n xs) (ht : e ∉ ts) : Own w' e size v n xs := ho.fr h (fun b hb hm => ho.tyIn ht hb hm.2)
theorem FrT.low (h : FrT B ts w w') (hB : w1.heap.size ≤ B) (h1 : Fr nob w1 w) : Fr nob w1 w' :=
  Fr.trans h1 h (fun _ _ x => x) (fun k hk hm => by have := hm.1; omega)
theorem FrT.set (hb : Blk w m t cs) (ht : t ∈ ts) (hB : B ≤ m) (j : Nat) (u : Value) : FrT B ts w (w.setCell ⟨m, j, none⟩ u) :=
  (Fr.refl _ w).setCell _ _ fun _ => ⟨hB, t, ht, cs, _, hb⟩
theorem FrT.app (ho : Own w e size v n xs) (he : e ∈ ts) (hB : ∀ b, Go.Proofs.YtlbjicjinnnboaaGreatDoor.blk v = some b → B ≤ b) (f : Fr (obl (Go.Proofs.YtlbjicjinnnboaaGreatDoor.blk v)) w w') : FrT B ts w w' :=
  Fr.mono f fun k hk hm => by
    have hm : Go.Proofs.YtlbjicjinnnboaaGreatDoor.blk v = some k := hm
    obtain ⟨hl, A, c, rfl, ⟨rfl, _⟩ | ⟨g', cur, rfl, h0, hb', r⟩⟩ := ho
    · cases A <;> simp [Go.Proofs.YtlbjicjinnnboaaGreatDoor.blk] at hm
    · have : g' = k := by simp [Go.Proofs.YtlbjicjinnnboaaGreatDoor.blk] at hm; omega
      subst this
      exact ⟨hB _ hm, e, he, cur, _, hb'⟩
theorem FrT.below2 (f : FrT B ts w w') (h1 : 3 ∉ ts) : ∀ {ns : List NodeM} {vs : List Value}, Below2 w ns vs → Below2 w' ns vs
  | [], [], _ => trivial
  | [], _ :: _, h => h.elim
  | _ :: _, [], h => h.elim
  | _ :: _, _ :: _, h => ⟨f.own h.1 h1, f.below2 h1 h.2⟩
theorem FrT.tree {nv fv : Value} {lvs pvs : List Value} {ns : List NodeM} {fs : List FuncM} (f : FrT B ts w w') (h : TreeAt m w nv fv lvs pvs ns fs) (h1 : 50 ∉ ts) (h2 : 3 ∉ ts) (h3 : 48 ∉ ts) (h4 : 101 ∉ ts) : TreeAt m w' nv fv lvs pvs ns fs :=
  ⟨f.own h.nodes h1, f.below2 h2 h.below, h.same, f.own h.fns h3, h.pars.to f (fun b cs' hc hm => hc.tyIn h4 hm.2), h.samef, h.newn, h.newf⟩
theorem FrT.pg {g : PgV} (f : FrT B ts w w') (h : PgAt g w) (h1 : 50 ∉ ts) (h2 : 3 ∉ ts) (h3 : 48 ∉ ts) (h4 : 101 ∉ ts) : PgAt g w' :=
  ⟨h.is, f.tree h.tree h1 h2 h3 h4, f.own h.types h2, f.own h.slots h2⟩
end
end Go.Proofs.YtlbjicjinnnboaaGreatDoor
/- The program's own coder: in memory; put, here, node, each. -/
namespace Go.Proofs.YtlbjicjinnnboaaGreatDoor
open Go.RowKit
open Pw
set_option linter.unusedVariables false
set_option linter.unusedSimpArgs false
def coTs : List TypeId := [65, 45]
def coCells (g : PgV) (iv : Value) : Array Value := #[.slice (some ⟨g.nb, 0, none⟩) g.p.ns.length g.nc, .slice (some ⟨g.fb, 0, none⟩) g.p.fs.length g.fc, .slice (some ⟨g.tb, 0, none⟩) g.p.ns.length g.tc, .slice (some ⟨g.sb, 0, none⟩) g.p.ns.length g.sc, .slice g.ua g.un g.uc, .slice g.za g.zn g.zc, iv]
structure Co (g : PgV) (cb : Nat) (w : World) (L : List InsM) : Prop where
  pg : PgAt g w
  ex : ∃ A c, Blk w cb 65 (coCells g (.slice A L.length c)) ∧ Own w 45 4 (.slice A L.length c) L.length (insCells L) ∧ (∀ b, blk (.slice A L.length c) = some b → cb < b)
section
variable {g : PgV} {cb : Nat} {w w' : World} {L : List InsM}
theorem Co.no (h : Co g cb w L) (f : Fr nob w w') : Co g cb w' L := by
  obtain ⟨A, c, hb, ho, hn⟩ := h.ex
  exact ⟨h.pg.no f, A, c, hb.fr f (fun x => x), ho.fr f (fun _ _ x => x), hn⟩
theorem coTs_pg (h : PgAt g w) {B : Nat} (f : FrT B coTs w w') : PgAt g w' := f.pg h (by decide) (by decide) (by decide) (by decide)
theorem Co.app (h : Co g cb w L) {A : Option Addr} {c : Nat} (hb : Blk w cb 65 (coCells g (.slice A L.length c))) {x : List InsM} {m : Nat} {w1 w2 : World} {A' : Option Addr} {c' : Nat} (hf0 : Fr nob w w1) (ho : Own w2 45 4 (.slice A' (L.length + m) c') (L.length + m) (insCells L ++ insCells x)) (hm : m = x.length)
    (hf : Fr (obl (blk (.slice A L.length c))) w1 w2) (hv : blk (.slice A' (L.length + m) c') = blk (.slice A L.length c) ∨ blk (.slice A' (L.length + m) c') = some w1.heap.size) :
    Co g cb (w2.setCell ⟨cb, 6, none⟩ (.slice A' (L.length + m) c')) (L ++ x) ∧ FrT cb coTs w (w2.setCell ⟨cb, 6, none⟩ (.slice A' (L.length + m) c')) := by
  subst hm
  obtain ⟨A0, c0, hb0, ho0, hn⟩ := h.ex
  have e : (Value.slice A0 L.length c0) = .slice A L.length c := by
    have h1 := hb0.symm.trans hb
    injection h1 with h1
    injection h1 with h1 _
    have := congrArg (fun a => a[6]?) h1
    simpa [coCells] using this
  rw [e] at ho0 hn
  have ho1 : Own w1 45 4 (.slice A L.length c) L.length (insCells L) := ho0.fr hf0 (fun _ _ x => x)
  have hf2 : FrT cb coTs w1 w2 := FrT.app ho1 (by decide) (fun b hb' => Nat.le_of_lt (hn b hb')) hf
  have hf3 : FrT cb coTs w w2 := (FrT.no hf0).tr hf2
  have hb2 : Blk w2 cb 65 (coCells g (.slice A L.length c)) := (hb.fr hf0 (fun x => x)).fr hf (fun hm => by
    have hm : blk (.slice A L.length c) = some cb := hm
    have := hn cb hm; omega)
  have hf4 : FrT cb coTs w2 (w2.setCell ⟨cb, 6, none⟩ (.slice A' (L.length + x.length) c')) := FrT.set hb2 (by decide) (Nat.le_refl _) _ _
  have hlt : cb < w1.heap.size := (hb.fr hf0 (fun x => x)).lt
  refine ⟨⟨coTs_pg h.pg (hf3.tr hf4), A', c', ?_, ?_, fun b hb' => ?_⟩, hf3.tr hf4⟩
  · have := hb2.setCell 6 (.slice A' (L.length + x.length) c')
    rw [List.length_append]
    exact this
  · rw [List.length_append, insCells_app]
    exact ho.far (fun hb' => by
      have hb' : blk (.slice A' (L.length + x.length) c') = some cb := hb'
      rcases hv with e | e
      · rw [e] at hb'; have := hn cb hb'; omega
      · rw [e] at hb'; injection hb' with hb'; omega) _
  · rw [List.length_append] at hb'
    rcases hv with e | e
    · exact hn b (e ▸ hb')
    · rw [e] at hb'; injection hb' with hb'; omega
end
end Go.Proofs.YtlbjicjinnnboaaGreatDoor
/- The program's own coder: node, put, here. -/
namespace Go.Proofs.YtlbjicjinnnboaaGreatDoor
open Go.RowKit
open Pw
set_option linter.unusedVariables false
set_option linter.unusedSimpArgs false
theorem Blk.fifth {w : World} {T t : Nat} {a b c d e : Value} (h : Blk w T t #[a, b, c, d, e]) :
    w.cell? ⟨T, 0, none⟩ = some a ∧ w.cell? ⟨T, 1, none⟩ = some b ∧ w.cell? ⟨T, 2, none⟩ = some c ∧ w.cell? ⟨T, 3, none⟩ = some d ∧ w.cell? ⟨T, 4, none⟩ = some e ∧
    w.frozen? ⟨T, 0, none⟩ = false ∧ w.frozen? ⟨T, 1, none⟩ = false ∧ w.frozen? ⟨T, 2, none⟩ = false ∧ w.frozen? ⟨T, 3, none⟩ = false ∧ w.frozen? ⟨T, 4, none⟩ = false ∧ T < w.heap.size :=
  ⟨(h.cell 0).trans rfl, (h.cell 1).trans rfl, (h.cell 2).trans rfl, (h.cell 3).trans rfl, (h.cell 4).trans rfl, h.frozen 0, h.frozen 1, h.frozen 2, h.frozen 3, h.frozen 4, h.lt⟩
section
variable {g : PgV} {cb : Nat} {w w' : World} {L : List InsM}
set_option maxHeartbeats 2000000 in
set_option maxRecDepth 100000 in
theorem conode_any (h : Co g cb w L) {x : Nat} {nd : NodeM} (hx : g.p.ns[x]? = some nd) : ∃ lv, Own w 3 1 lv nd.l.length (ints nd.l) ∧
    Calls Tryz.prog 67 #[.pointer (some ⟨cb, 0, none⟩), .int .i64 (x : Nat)] w fun en w' => en = .returned (.agg #[.int .i64 nd.kind, .int .i64 nd.line, .int .i64 nd.n, .string (bs nd.name), lv]) ∧ Fr nob w w' := by
  obtain ⟨lv, hlv, x0, x1, x2, x3, x4, nlt, xlt⟩ := h.pg.node hx
  refine ⟨lv, hlv, ?_⟩
  obtain ⟨A, c, hb, -, -⟩ := h.ex
  have c0 : w.cell? ⟨cb, 0, none⟩ = some (.slice (some ⟨g.nb, 0, none⟩) g.p.ns.length g.nc) := (hb.cell 0).trans rfl
  have clt := hb.lt
  have hx3 : (x : Int) < (g.p.ns.length : Int) := by omega
  have n1 : ¬ cb = w.heap.size := by omega
  have n2 : ¬ g.nb = w.heap.size := by omega
  obtain ⟨LA, LC, rfl, -, -⟩ := hlv.cap
  generalize hll : nd.l.length = ll at *
  clear h hb hx hlv xlt hll
  go_enter Tryz.func67, Tryz.ntmps67
  go_wp2_with fail
  refine bodyPost_ret (v := .agg #[.int .i64 nd.kind, .int .i64 nd.line, .int .i64 nd.n, .string (bs nd.name), .slice LA ll LC]) (by simp [results, Tryz.results67, go_sem]) rfl ⟨rfl, (Fr.refl nob w).alloc _⟩
theorem coApp (h : Co g cb w L) {A : Option Addr} {c n : Nat} {o : Obj} {news : List Value} {i : InsM} (hb : Blk w cb 65 (coCells g (.slice A n c))) (hn : L.length = n) (he : news = insCells [i]) {w3 : World} {A3 : Option Addr} {c3 : Nat}
    (ho : Own w3 45 4 (.slice A3 (n + 1) c3) (n + 1) (insCells L ++ news)) (hf : Fr (obl (blk (.slice A n c))) (w.alloc o) w3) (hv : blk (.slice A3 (n + 1) c3) = blk (.slice A n c) ∨ blk (.slice A3 (n + 1) c3) = some (w.alloc o).heap.size) :
    Co g cb (w3.setCell ⟨cb, 6, none⟩ (.slice A3 (n + 1) c3)) (L ++ [i]) ∧ FrT cb coTs w (w3.setCell ⟨cb, 6, none⟩ (.slice A3 (n + 1) c3)) := by
  subst hn
  rw [he] at ho
  exact h.app hb (x := [i]) (m := 1) ((Fr.refl nob w).alloc o) ho rfl hf hv
theorem coArm (h : Co g cb w L) {A : Option Addr} {c n : Nat} {news : List Value} {i : InsM} (hb : Blk w cb 65 (coCells g (.slice A n c))) (hn : L.length = n) (he : news = insCells [i]) {w1 : World} (hf0 : Fr nob w w1) : ∀ (A3 : Option Addr) (c3 : Nat) (w3 : World),
    Own w3 45 4 (.slice A3 (n + 1) c3) (n + 1) (insCells L ++ news) → Fr (obl (blk (.slice A n c))) w1 w3 → (blk (.slice A3 (n + 1) c3) = blk (.slice A n c) ∨ blk (.slice A3 (n + 1) c3) = some w1.heap.size) →
    w3.frozen? ⟨cb, 6, none⟩ = false ∧ w3.cell? ⟨cb, 6, none⟩ = some (.slice A n c) ∧ cb < w3.heap.size ∧ Hid (Co g cb (w3.setCell ⟨cb, 6, none⟩ (.slice A3 (n + 1) c3)) (L ++ [i]) ∧ FrT cb coTs w (w3.setCell ⟨cb, 6, none⟩ (.slice A3 (n + 1) c3))) := by
  intro A3 c3 w3 ho hf hv
  subst hn
  rw [he] at ho
  have hx := h.app hb (x := [i]) (m := 1) hf0 ho rfl hf hv
  obtain ⟨A0, c0, hb0, ho0, hnw⟩ := h.ex
  have e : (Value.slice A0 L.length c0) = .slice A L.length c := by
    have h1 := hb0.symm.trans hb
    injection h1 with h1
    injection h1 with h1 _
    have := congrArg (fun a => a[6]?) h1
    simpa [coCells] using this
  rw [e] at hnw
  have h3 : Blk w3 cb 65 (coCells g (.slice A L.length c)) := (hb.fr hf0 (fun x => x)).fr hf (fun hm => by
    have hm : blk (.slice A L.length c) = some cb := hm
    have := hnw cb hm; omega)
  exact ⟨h3.frozen 6, (h3.cell 6).trans rfl, h3.lt, hx⟩
theorem coCell {A : Option Addr} {c n : Nat} {o : Obj} (hb : Blk w cb 65 (coCells g (.slice A n c))) {w3 : World} (hf : Fr (obl (blk (.slice A n c))) (w.alloc o) w3) (hn : ∀ b, blk (.slice A n c) = some b → cb < b) :
    w3.cell? ⟨cb, 6, none⟩ = some (.slice A n c) ∧ w3.frozen? ⟨cb, 6, none⟩ = false ∧ cb < w3.heap.size := by
  have h3 : Blk w3 cb 65 (coCells g (.slice A n c)) := (hb.alloc o).fr hf (fun hm => by
    have hm : blk (.slice A n c) = some cb := hm
    have := hn cb hm; omega)
  exact ⟨(h3.cell 6).trans rfl, h3.frozen 6, h3.lt⟩
set_option maxHeartbeats 2000000 in
set_option maxRecDepth 100000 in
theorem coput_any (h : Co g cb w L) (i : InsM) {o a : Int} (ho : o = (i.op : Nat)) (ha : a = i.a) (hb0 : i.b = 0) (hs0 : i.s = []) (hL : L.length ≤ 3000) :
    Calls Tryz.prog 39 #[.pointer (some ⟨cb, 0, none⟩), .int .i64 o, .int .i64 a] w fun en w' => en = .returned (.int .i64 (L.length : Nat)) ∧ Co g cb w' (L ++ [i]) ∧ FrT cb coTs w w' := by
  obtain ⟨A, c, hb, hown, hnew⟩ := h.ex
  have c6 : w.cell? ⟨cb, 6, none⟩ = some (.slice A L.length c) := (hb.cell 6).trans rfl
  have f6 := hb.frozen 6
  have clt := hb.lt
  have H0 := hid h
  have HB := hid hb
  have HO := hid hown
  have HE := hid (show ([.int .i64 o, .int .i64 a, .int .i64 0, .string ⟨#[]⟩] : List Value) = insCells [i] from by
    subst ho; subst ha
    obtain ⟨o, a, b, s⟩ := i
    dsimp only at hb0 hs0
    subst hb0; subst hs0; rfl)
  have hL3 : (L.length : Int) ≤ 3000 := by omega
  have HNW := hid hnew
  clear h hb hown hnew ho ha hb0 hs0
  generalize hn : L.length = n at *
  have HN := hid hn
  clear hn
  go_enter Tryz.func39, Tryz.ntmps39
  go_wp2_with (at_builtin; refine wpList_append (v := .slice A n c) (n := n) (m := 1) (xs := insCells L) (news := [.int .i64 o, .int .i64 a, .int .i64 0, .string ⟨#[]⟩]) rfl _ _ rfl TyIns rfl rfl (HO.out.alloc _) (Rd.ofBlk (n := 1) (cs := [.int .i64 o, .int .i64 a, .int .i64 0, .string ⟨#[]⟩]) (Blk.new _ _ _) rfl (by decide)) (by simp [Value.oneCell']) (by omega) (by unfold maxLen; omega) ?_; intro A3 c3 w3 ho3 hf3 hv3; have CO := hid (coApp H0.out HB.out HN.out HE.out ho3 hf3 hv3); have g6 := (coCell HB.out hf3 HNW.out).2.1; have d6 := (coCell HB.out hf3 HNW.out).1; have dlt := (coCell HB.out hf3 HNW.out).2.2; clear ho3 hf3 hv3)
  clear c6 f6 clt g6 d6 dlt
  have hlen := CO.out.1
  have HC := hid CO.out
  clear hlen CO
  generalize w3.setCell ⟨cb, 6, none⟩ (.slice A3 (n + 1) c3) = w4 at *
  obtain ⟨A5, c5, hb5, -, -⟩ := HC.out.1.ex
  have c6 : w4.cell? ⟨cb, 6, none⟩ = some (.slice A5 (n + 1) c5) := by
    have := (hb5.cell 6).trans rfl
    rw [List.length_append, List.length_singleton, HN.out] at this
    exact this
  have v1 : IntKind.i64.wrap ((n : Int) + 1 - 1) = (n : Int) := by rw [show (n : Int) + 1 - 1 = n by omega]; exact IntWalk.i64_in _ (by omega)
  clear hb5
  go_wp2_with fail
  go_ret
  exact ⟨by simp, HC.out.1, HC.out.2⟩
theorem coputN_any (h : Co g cb w L) {N : Nat} (hN : L.length = N) (i : InsM) {o a : Int} (ho : o = (i.op : Nat)) (ha : a = i.a) (hb0 : i.b = 0) (hs0 : i.s = []) (hL : L.length ≤ 3000) :
    Calls Tryz.prog 39 #[.pointer (some ⟨cb, 0, none⟩), .int .i64 o, .int .i64 a] w fun en w' => en = .returned (.int .i64 (N : Nat)) ∧ Co g cb w' (L ++ [i]) ∧ FrT cb coTs w w' := by
  subst hN
  exact coput_any h i ho ha hb0 hs0 hL
theorem insCells_set : ∀ {l : List InsM} {j : Nat} {x : InsM} (a : Int), l[j]? = some x → (insCells l).set (j * 4 + 1) (.int .i64 a) = insCells (l.set j { x with a := a })
  | [], _, _, _, h => by simp at h
  | y :: l, 0, x, a, h => by
    simp at h; subst h
    rfl
  | y :: l, j + 1, x, a, h => by
    have := insCells_set (l := l) (j := j) (x := x) a (by simpa using h)
    have e : insCells (y :: l) = insOne y ++ insCells l := rfl
    have hl : (insOne y).length = 4 := rfl
    rw [e, List.set_cons_succ, show insCells (y :: l.set j { x with a := a }) = insOne y ++ insCells (l.set j { x with a := a }) from rfl, ← this, List.set_append_right _ _ (by omega), hl, show (j + 1) * 4 + 1 - 4 = j * 4 + 1 by omega]
def hereL (L : List InsM) (j : Nat) : List InsM := match L[j]? with | none => L | some x => L.set j { x with a := (L.length : Nat) }
set_option maxHeartbeats 2000000 in
set_option maxRecDepth 100000 in
theorem cohere_any (h : Co g cb w L) {j : Nat} (hj : j < L.length) (hL : L.length ≤ 3000) :
    Calls Tryz.prog 147 #[.pointer (some ⟨cb, 0, none⟩), .int .i64 (j : Nat)] w fun en w' => en = .returned (.tuple #[]) ∧ Co g cb w' (hereL L j) ∧ FrT cb coTs w w' := by
  obtain ⟨A, c, hb, hown, hnew⟩ := h.ex
  obtain ⟨b, rfl, hcell⟩ := hown.some (by omega)
  have c6 : w.cell? ⟨cb, 6, none⟩ = some (.slice (some ⟨b, 0, none⟩) L.length c) := (hb.cell 6).trans rfl
  obtain ⟨x, hx⟩ : ∃ x, L[j]? = some x := ⟨_, List.getElem?_eq_getElem hj⟩
  have x1 := hcell _ _ (insCells_get hx).2.1
  have hbl : blk (.slice (some ⟨b, 0, none⟩) L.length c) = some b := blk_rowP (by omega) hown.capn.1
  obtain ⟨cs, hib⟩ := hown.ty hbl
  have z1 := hib.frozen (j * 4 + 1)
  have blt := hib.lt
  have clt := hb.lt
  have hj2 : (j : Int) < (L.length : Int) := by omega
  have hL3 : (L.length : Int) ≤ 3000 := by omega
  have key : Co g cb (w.setCell ⟨b, j * 4 + 1, none⟩ (.int .i64 (L.length : Nat))) (hereL L j) ∧ FrT cb coTs w (w.setCell ⟨b, j * 4 + 1, none⟩ (.int .i64 (L.length : Nat))) := by
    have hf : FrT cb coTs w (w.setCell ⟨b, j * 4 + 1, none⟩ (.int .i64 (L.length : Nat))) := FrT.set hib (by decide) (Nat.le_of_lt (hnew b hbl)) _ _
    have hl2 : (hereL L j).length = L.length := by unfold hereL; rw [hx]; simp
    refine ⟨⟨coTs_pg h.pg hf, some ⟨b, 0, none⟩, c, ?_, ?_, ?_⟩, hf⟩
    · rw [hl2]; exact hb.far (fun e => by have := hnew b hbl; have e : cb = b := e; omega) _
    · rw [hl2]
      have := hown.store hbl (j * 4 + 1) (.int .i64 (L.length : Nat))
      rw [insCells_set _ hx] at this
      unfold hereL; rw [hx]; exact this
    · rw [hl2]; exact hnew
  have HK := hid key
  clear key h hb hown hnew hx hbl hib hcell hj hL
  generalize L.length = n at *
  go_enter Tryz.func147, Tryz.ntmps147
  go_wp2_with fail
  go_region_law (fail)
  all_goals
    go_wp2_with fail
    refine bodyPost_end (results_none rfl _ _ _) rfl ⟨rfl, ?_⟩
    first
    | exact HK.out
    | exact ⟨HK.out.1.no ((Fr.refl nob _).drew), HK.out.2.tr (FrT.no ((Fr.refl nob _).drew))⟩
end
end Go.Proofs.YtlbjicjinnnboaaGreatDoor
/- The program's own coder: each. -/
namespace Go.Proofs.YtlbjicjinnnboaaGreatDoor
open Go.RowKit
open Pw
set_option linter.unusedVariables false
set_option linter.unusedSimpArgs false
theorem rowGet {w : World} {kv : Value} {l : List Nat} (h : Own w 3 1 kv l.length (ints l)) {j a : Nat} (hj : l[j]? = some a) : ∃ kb c, kv = .slice (some ⟨kb, 0, none⟩) l.length c ∧ w.cell? ⟨kb, j, none⟩ = some (.int .i64 (a : Nat)) := by
  obtain ⟨A, c, rfl, _, _⟩ := h.cap
  obtain ⟨b, rfl, hc⟩ := h.some (by have := (List.getElem?_eq_some_iff.1 hj).1; omega)
  have := hc j (.int .i64 (a : Nat)) (by unfold ints; rw [List.getElem?_map, hj]; rfl)
  exact ⟨b, c, rfl, by simpa using this⟩
set_option maxHeartbeats 2000000 in
set_option maxRecDepth 100000 in
theorem each_any {F : Nat} {rv kv : Value} {l : List Nat} (hen : Enters Tryz.prog F) (I : Nat → World → Prop) (hk : ∀ j w, I j w → Own w 3 1 kv l.length (ints l)) (hl : l.length ≤ 1000)
    (hone : ∀ j x w, l[j]? = some x → I j w → Calls Tryz.prog F #[rv, .int .i64 (x : Nat)] w fun en w' => en = .returned (.tuple #[]) ∧ I (j + 1) w') {w : World} (h : I 0 w) :
    Calls Tryz.prog 66 #[kv, .func (.func F) #[rv] #[]] w fun en w' => en = .returned (.tuple #[]) ∧ I l.length w' := by
  obtain ⟨KA, KC, rfl, -, -⟩ := (hk 0 w h).cap
  have HK := hid hk
  have HO := hid hone
  have H0 := hid h
  clear hk hone h
  generalize hn : l.length = n at *
  have HN := hid hn
  clear hn
  have hn3 : (n : Int) ≤ 1000 := by omega
  go_enter Tryz.func66, Tryz.ntmps66
  go_wp2_with fail
  go_loopw [8] (fun i wr => ∃ j : Nat, j ≤ n ∧ i = .int .i64 (j : Int) ∧ Hid (I j wr)) (fun i _ => n - (intOf i).toNat)
  case atStart => exact ⟨0, Nat.zero_le _, by go_num, H0⟩
  case round =>
    obtain ⟨j, hj, rfl, HJ⟩ := hrel
    clear H0
    by_cases hjn : j < n
    · obtain ⟨a, ha⟩ : ∃ a, l[j]? = some a := ⟨_, List.getElem?_eq_getElem (by rw [HN.out]; exact hjn)⟩
      obtain ⟨kb, c, e, hc⟩ := rowGet (by rw [HN.out]; exact HK.out _ _ HJ.out) ha
      injection e with e1 e2 e3
      subst e1
      have HC := hid (HO.out j a _ ha HJ.out)
      have hj2 : (j : Int) < (n : Int) := by omega
      clear hj hjn ha e2 e3
      go_wp2_with fail
      rw [hen]
      go_wp2_with fail
      refine HC.out.mono ?_
      rintro e w4 ⟨rfl, h4⟩
      have H4 := hid h4
      clear h4
      go_wp2_with fail
      go_roundw
      case rel => exact ⟨j + 1, by omega, by go_num, H4⟩
      case measure => simp [intOf]; omega
    · have hj2 : ¬ (j : Int) < (n : Int) := by omega
      have hjn2 : j = n := by omega
      subst hjn2
      clear hj hjn
      go_wp2_with fail
      exact bodyPost_end (results_none rfl _ _ _) rfl ⟨rfl, HJ.out⟩
end Go.Proofs.YtlbjicjinnnboaaGreatDoor
/- The program's own coder: what it lays of parts; pieces. -/
namespace Go.Proofs.YtlbjicjinnnboaaGreatDoor
open Go.RowKit
open Pw
set_option linter.unusedVariables false
set_option linter.unusedSimpArgs false
def CoOk (F : Nat) (g : PgV) (x at_ : Nat) (l : List InsM) : Prop := ∀ (cb : Nat) (w : World) (L : List InsM), Co g cb w L → L.length = at_ → at_ + l.length ≤ 3000 →
  Calls Tryz.prog F #[.pointer (some ⟨cb, 0, none⟩), .int .i64 (x : Nat)] w fun en w' => en = .returned (.tuple #[]) ∧ Co g cb w' (L ++ l) ∧ FrT cb coTs w w'
def CoRow (F : Nat) (g : PgV) (ks : List Nat) (at_ : Nat) (l : List InsM) : Prop := ∃ cs : List (List InsM), cs.length = ks.length ∧ l = cs.flatten ∧ ∀ (j x : Nat) (c : List InsM), ks[j]? = some x → cs[j]? = some c → CoOk F g x (at_ + (cs.take j).flatten.length) c
section
variable {g : PgV} {F : Nat}
theorem CoRow.nil (at_ : Nat) : CoRow F g [] at_ [] := ⟨[], rfl, rfl, fun j x c h => by simp at h⟩
theorem CoRow.cons {x at_ : Nat} {ks : List Nat} {l m : List InsM} (h : CoOk F g x at_ l) (h2 : CoRow F g ks (at_ + l.length) m) : CoRow F g (x :: ks) at_ (l ++ m) := by
  obtain ⟨cs, h1, rfl, h3⟩ := h2
  refine ⟨l :: cs, by simp [h1], by simp, fun j y c hj hc => ?_⟩
  cases j with
  | zero =>
    simp at hj hc
    subst hj; subst hc
    simpa using h
  | succ j =>
    have := h3 j y c (by simpa using hj) (by simpa using hc)
    rw [List.take_succ_cons, List.flatten_cons, List.length_append, ← Nat.add_assoc]
    exact this
theorem flat_take_len {cs : List (List InsM)} {j : Nat} {c : List InsM} (h : cs[j]? = some c) : (cs.take (j + 1)).flatten = (cs.take j).flatten ++ c := by
  rw [List.take_add_one, h, List.flatten_append]; simp
theorem flat_le {cs : List (List InsM)} (j : Nat) : (cs.take j).flatten.length ≤ cs.flatten.length := by
  have : cs.flatten = (cs.take j).flatten ++ (cs.drop j).flatten := by rw [← List.flatten_append, List.take_append_drop]
  rw [this, List.length_append]; omega
theorem coeach_any (hen : Enters Tryz.prog F) {cb at_ : Nat} {w : World} {L l : List InsM} {ks : List Nat} {kv : Value} (h : Co g cb w L) (hk : Own w 3 1 kv ks.length (ints ks)) (hr : CoRow F g ks at_ l) (hL : L.length = at_) (hl : at_ + l.length ≤ 3000) (hks : ks.length ≤ 1000) :
    Calls Tryz.prog 66 #[kv, .func (.func F) #[.pointer (some ⟨cb, 0, none⟩)] #[]] w fun en w' => en = .returned (.tuple #[]) ∧ Co g cb w' (L ++ l) ∧ FrT cb coTs w w' := by
  obtain ⟨cs, h1, rfl, h3⟩ := hr
  refine (each_any hen (fun j w' => (Co g cb w' (L ++ (cs.take j).flatten) ∧ FrT cb coTs w w')) (fun j w' ⟨_, hf⟩ => hf.own hk (by decide)) hks (fun j x w' hj ⟨hc, hf⟩ => ?_) ⟨by simpa using h, FrT.refl _ _ _⟩).mono ?_
  · have hjl := (List.getElem?_eq_some_iff.1 hj).1
    obtain ⟨c, hcj⟩ : ∃ c, cs[j]? = some c := ⟨_, List.getElem?_eq_getElem (by omega)⟩
    have hle := flat_le (cs := cs) (j + 1)
    rw [flat_take_len hcj, List.length_append] at hle
    refine (h3 j x c hj hcj cb w' _ hc (by rw [List.length_append, hL]) (by omega)).mono ?_
    rintro en w2 ⟨rfl, a, b⟩
    refine ⟨rfl, ?_, hf.tr b⟩
    rw [flat_take_len hcj, ← List.append_assoc]; exact a
  · rintro en w' ⟨rfl, a, b⟩
    rw [← h1, List.take_length] at a
    exact ⟨rfl, a, b⟩
end
theorem enters_expr : Enters Tryz.prog 104 := enters_of Tryz.func104 (by kernel_rfl) rfl
theorem enters_statement : Enters Tryz.prog 68 := enters_of Tryz.func68 (by kernel_rfl) rfl
end Go.Proofs.YtlbjicjinnnboaaGreatDoor
