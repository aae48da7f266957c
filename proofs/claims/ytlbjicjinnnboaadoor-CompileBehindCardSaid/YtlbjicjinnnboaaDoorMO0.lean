/- MO0: CpMem, TyF. -/
import Derived.Test.YtlbjicjinnnboaaDoorMK1
import Derived.Test.YtlbjicjinnnboaaDoorMSg
set_option linter.unusedVariables false
set_option linter.unusedSimpArgs false
/- Instructions in memory; how many there are. -/
namespace Go.Proofs.YtlbjicjinnnboaaDoor
open Go.RowKit
open Pw
def insOne (x : InsM) : List Value := [.int .i64 (x.op : Nat), .int .i64 x.a, .int .i64 (x.b : Nat), .string (bs x.s)]
def insCells (l : List InsM) : List Value := l.flatMap insOne
theorem insCells_app (l m : List InsM) : insCells (l ++ m) = insCells l ++ insCells m := by
 unfold insCells; rw [List.flatMap_append]
theorem insCells_get : ∀ {l : List InsM} {j : Nat} {x : InsM}, l[j]? = some x → (insCells l)[j * 4]? = some (.int .i64 (x.op : Nat)) ∧ (insCells l)[j * 4 + 1]? = some (.int .i64 x.a) ∧ (insCells l)[j * 4 + 2]? = some (.int .i64 (x.b : Nat)) ∧ (insCells l)[j * 4 + 3]? = some (.string (bs x.s))
 | [], _, _, h => by simp at h
 | a :: l, 0, x, h => by simp at h; subst h; exact ⟨rfl, rfl, rfl, rfl⟩
 | a :: l, j + 1, x, h => by
  have := insCells_get (l := l) (j := j) (x := x) (by simpa using h)
  have e : insCells (a :: l) = insOne a ++ insCells l := rfl
  have hl : (insOne a).length = 4 := rfl
  rw [e, List.getElem?_append_right (by omega), List.getElem?_append_right (by omega), List.getElem?_append_right (by omega), List.getElem?_append_right (by omega), hl]
  rw [show (j + 1) * 4 - 4 = j * 4 by omega, show (j + 1) * 4 + 1 - 4 = j * 4 + 1 by omega, show (j + 1) * 4 + 2 - 4 = j * 4 + 2 by omega, show (j + 1) * 4 + 3 - 4 = j * 4 + 3 by omega]
  exact this
theorem TyIns : SlTy Tryd.prog 33 39 4 40 (.agg #[.int .i64 0, .int .i64 0, .int .i64 0, .string ⟨#[]⟩]) := SlTy.mk' (by kernel_rfl) (by kernel_rfl) rfl (by decide)
section
variable {w0 w w1 w' : World} {v u : Value} {n m : Nat} {l k : List InsM}
end
structure PgV where
 nb : Nat
 nc : Nat
 fb : Nat
 fc : Nat
 tb : Nat
 tc : Nat
 sb : Nat
 sc : Nat
 ua : Option Addr
 un : Nat
 uc : Nat
 za : Option Addr
 zn : Nat
 zc : Nat
 lvs : List Value
 pvs : List Value
 p : ProgM
def PgV.val (g : PgV) : Value := .agg #[.slice (some ⟨g.nb, 0, none⟩) g.p.ns.length g.nc, .slice (some ⟨g.fb, 0, none⟩) g.p.fs.length g.fc, .slice (some ⟨g.tb, 0, none⟩) g.p.ns.length g.tc, .slice (some ⟨g.sb, 0, none⟩) g.p.ns.length g.sc, .slice g.ua g.un g.uc, .slice g.za g.zn g.zc]
structure PgAt (g : PgV) (w : World) : Prop where
 is : ProgIs g.p
 tree : TreeAt 0 w (.slice (some ⟨g.nb, 0, none⟩) g.p.ns.length g.nc) (.slice (some ⟨g.fb, 0, none⟩) g.p.fs.length g.fc) g.lvs g.pvs g.p.ns g.p.fs
 types : Own w 3 1 (.slice (some ⟨g.tb, 0, none⟩) g.p.ns.length g.tc) g.p.ns.length (ints g.p.types)
 slots : Own w 3 1 (.slice (some ⟨g.sb, 0, none⟩) g.p.ns.length g.sc) g.p.ns.length (intsI g.p.slots)
section
variable {g : PgV} {w w' : World}
theorem PgAt.no (h : PgAt g w) (f : Fr nob w w') : PgAt g w' := ⟨h.is, h.tree.no f, h.types.fr f (fun _ _ x => x), h.slots.fr f (fun _ _ x => x)⟩
theorem PgAt.len (h : PgAt g w) : (g.p.ns.length : Int) ≤ 300 := by have := h.is.tree.ok.few; omega
theorem PgAt.slot (h : PgAt g w) {x : Nat} (hx : x < g.p.ns.length) : w.cell? ⟨g.sb, x, none⟩ = some (.int .i64 (slotP g.p x)) := by
 obtain ⟨b, e, hc⟩ := h.slots.some (by omega)
 injection e with e
 injection e with e
 subst e
 have hl : x < g.p.slots.length := by rw [h.is.ls]; exact hx
 have := hc x (.int .i64 (slotP g.p x)) (by unfold intsI slotP; rw [List.getElem?_map, List.getD_eq_getElem?_getD, List.getElem?_eq_getElem hl]; rfl)
 simpa using this
theorem PgAt.type (h : PgAt g w) {x : Nat} (hx : x < g.p.ns.length) : w.cell? ⟨g.tb, x, none⟩ = some (.int .i64 (typeP g.p x : Nat)) := by
 obtain ⟨b, e, hc⟩ := h.types.some (by omega)
 injection e with e
 injection e with e
 subst e
 have hl : x < g.p.types.length := by rw [h.is.lt]; exact hx
 have := hc x (.int .i64 (typeP g.p x : Nat)) (by unfold ints typeP; rw [List.getElem?_map, List.getD_eq_getElem?_getD, List.getElem?_eq_getElem hl]; rfl)
 simpa using this
theorem PgAt.node (h : PgAt g w) {x : Nat} {nd : NodeM} (hx : g.p.ns[x]? = some nd) : ∃ lv, Own w 3 1 lv nd.l.length (ints nd.l) ∧
  w.cell? ⟨g.nb, x * 5, none⟩ = some (.int .i64 nd.kind) ∧ w.cell? ⟨g.nb, x * 5 + 1, none⟩ = some (.int .i64 nd.line) ∧ w.cell? ⟨g.nb, x * 5 + 2, none⟩ = some (.int .i64 nd.n) ∧ w.cell? ⟨g.nb, x * 5 + 3, none⟩ = some (.string (bs nd.name)) ∧ w.cell? ⟨g.nb, x * 5 + 4, none⟩ = some lv ∧ g.nb < w.heap.size ∧ x < g.p.ns.length := by
 have hlt := (List.getElem?_eq_some_iff.1 hx).1
 obtain ⟨lv, hlv⟩ : ∃ lv, g.lvs[x]? = some lv := ⟨_, List.getElem?_eq_getElem (by have := h.tree.same; omega)⟩
 obtain ⟨a, b, c, d, e, f⟩ := h.tree.node3 hx hlv
 exact ⟨lv, a, b, c, d, e, f, World.block_lt_of_cell? w ⟨g.nb, x * 5, none⟩ b, hlt⟩
end
section
variable {g : PgV} {w w' : World} {B k line n : Nat} {nm : List UInt8} {kv : Value} {l : List Nat}
end
theorem kidsGet {w : World} {kv : Value} {l : List Nat} (h : Own w 3 1 kv l.length (ints l)) (hl : 0 < l.length) : ∃ kb kc, kv = .slice (some ⟨kb, 0, none⟩) l.length kc := by
 obtain ⟨A, c, rfl, _, _⟩ := h.cap
 obtain ⟨b, e, _⟩ := h.some hl
 exact ⟨b, c, by rw [e]⟩
section
variable {p : ProgM} {a b : Nat}
end
end Go.Proofs.YtlbjicjinnnboaaDoor
/- Frames by types: only blocks of some types, from a place on, may have turned. -/
namespace Go.Proofs.YtlbjicjinnnboaaDoor
open Go.RowKit
def TyIn (ts : List TypeId) (w : World) (k : Nat) : Prop := ∃ t ∈ ts, ∃ cs f, w.heap[k]? = some (.cells cs t f)
def FrT (B : Nat) (ts : List TypeId) (w w' : World) : Prop := Fr (fun k => B ≤ k ∧ TyIn ts w k) w w'
section
variable {B B' : Nat} {ts ts' : List TypeId} {w w1 w2 w' : World} {t e size n m : Nat} {v : Value} {xs : List Value} {cs : Array Value}
theorem Blk.tyIn (h : Blk w m t cs) (ht : t ∉ ts) : ¬ TyIn ts w m := by
 rintro ⟨u, hu, cs', f, h'⟩
 unfold Blk at h
 rw [h] at h'
 injection h' with h'
 injection h' with _ h2
 subst h2
 exact ht hu
theorem Own.tyIn (h : Own w e size v n xs) (ht : e ∉ ts) {b : Nat} (hb : blk v = Option.some b) : ¬ TyIn ts w b := by
 obtain ⟨hl, A, c, rfl, ⟨rfl, _⟩ | ⟨g', cur, rfl, h0, hb', r⟩⟩ := h
 · cases A <;> simp [blk] at hb
 · have : g' = b := by simp [blk] at hb; omega
   subst this
   exact hb'.tyIn ht
theorem FrT.refl (B : Nat) (ts : List TypeId) (w : World) : FrT B ts w w := Fr.refl _ w
theorem FrT.no (h : Fr nob w w') : FrT B ts w w' := Fr.ofNo h
theorem FrT.mono (h : FrT B ts w w') (hb : B' ≤ B) (ht : ∀ t ∈ ts, t ∈ ts') : FrT B' ts' w w' :=
 Fr.mono h fun k _ ⟨h1, t, h2, h3⟩ => ⟨Nat.le_trans hb h1, t, ht t h2, h3⟩
theorem FrT.tr (h : FrT B ts w w1) (h2 : FrT B ts w1 w2) : FrT B ts w w2 := by
 refine Fr.trans h h2 (fun _ _ x => x) (fun k hk ⟨hB, hM⟩ => ?_)
 by_cases hn : B ≤ k ∧ TyIn ts w k
 · exact hn
 · have := h.block k hk hn
   obtain ⟨t, ht, cs, f, hc⟩ := hM
   exact ⟨hB, t, ht, cs, f, by rw [← this]; exact hc⟩
theorem FrT.blk (h : FrT B ts w w') (hb : Blk w m t cs) (ht : t ∉ ts) : Blk w' m t cs := hb.fr h (fun hm => hb.tyIn ht hm.2)
theorem FrT.own (h : FrT B ts w w') (ho : Own w e size v n xs) (ht : e ∉ ts) : Own w' e size v n xs := ho.fr h (fun b hb hm => ho.tyIn ht hb hm.2)
theorem FrT.low (h : FrT B ts w w') (hB : w1.heap.size ≤ B) (h1 : Fr nob w1 w) : Fr nob w1 w' :=
 Fr.trans h1 h (fun _ _ x => x) (fun k hk hm => by have := hm.1; omega)
theorem FrT.set (hb : Blk w m t cs) (ht : t ∈ ts) (hB : B ≤ m) (j : Nat) (u : Value) : FrT B ts w (w.setCell ⟨m, j, none⟩ u) :=
 (Fr.refl _ w).setCell _ _ fun _ => ⟨hB, t, ht, cs, _, hb⟩
theorem FrT.app (ho : Own w e size v n xs) (he : e ∈ ts) (hB : ∀ b, Go.Proofs.YtlbjicjinnnboaaDoor.blk v = some b → B ≤ b) (f : Fr (obl (Go.Proofs.YtlbjicjinnnboaaDoor.blk v)) w w') : FrT B ts w w' :=
 Fr.mono f fun k hk hm => by
  have hm : Go.Proofs.YtlbjicjinnnboaaDoor.blk v = some k := hm
  obtain ⟨hl, A, c, rfl, ⟨rfl, _⟩ | ⟨g', cur, rfl, h0, hb', r⟩⟩ := ho
  · cases A <;> simp [Go.Proofs.YtlbjicjinnnboaaDoor.blk] at hm
  · have : g' = k := by simp [Go.Proofs.YtlbjicjinnnboaaDoor.blk] at hm; omega
    subst this
    exact ⟨hB _ hm, e, he, cur, _, hb'⟩
theorem FrT.below2 (f : FrT B ts w w') (h1 : 3 ∉ ts) : ∀ {ns : List NodeM} {vs : List Value}, Below2 w ns vs → Below2 w' ns vs
 | [], [], _ => trivial
 | [], _ :: _, h => h.elim
 | _ :: _, [], h => h.elim
 | _ :: _, _ :: _, h => ⟨f.own h.1 h1, f.below2 h1 h.2⟩
theorem FrT.tree {nv fv : Value} {lvs pvs : List Value} {ns : List NodeM} {fs : List FuncM} (f : FrT B ts w w') (h : TreeAt m w nv fv lvs pvs ns fs) (h1 : 49 ∉ ts) (h2 : 3 ∉ ts) (h3 : 43 ∉ ts) (h4 : 80 ∉ ts) : TreeAt m w' nv fv lvs pvs ns fs :=
 ⟨f.own h.nodes h1, f.below2 h2 h.below, h.same, f.own h.fns h3, h.pars.to f (fun b cs' hc hm => hc.tyIn h4 hm.2), h.samef, h.newn, h.newf⟩
theorem FrT.pg {g : PgV} (f : FrT B ts w w') (h : PgAt g w) (h1 : 49 ∉ ts) (h2 : 3 ∉ ts) (h3 : 43 ∉ ts) (h4 : 80 ∉ ts) : PgAt g w' :=
 ⟨h.is, f.tree h.tree h1 h2 h3 h4, f.own h.types h2, f.own h.slots h2⟩
end
end Go.Proofs.YtlbjicjinnnboaaDoor
