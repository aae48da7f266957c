/- MO0: CpMem, TyF. -/
import Derived.Test.YtlbjicjinnnboaaGreatDoorMK1
import Derived.Test.YtlbjicjinnnboaaGreatDoorMSg
set_option linter.unusedVariables false
set_option linter.unusedSimpArgs false
/- Instructions in memory; how many there are. -/
namespace Go.Proofs.YtlbjicjinnnboaaGreatDoor
open Go.RowKit
open Pw
def insOne (x : InsM) : List Value := [.int .i64 (x.op : Nat), .int .i64 x.a, .int .i64 (x.b : Nat), .string (bs x.s)]
def insCells (l : List InsM) : List Value := l.flatMap insOne
theorem insCells_app (l m : List InsM) : insCells (l ++ m) = insCells l ++ insCells m := by
 unfold insCells; rw [List.flatMap_append]
theorem insCells_one (l : List InsM) : ∀ u ∈ insCells l, u.oneCell' = true := by
 intro u hu
 obtain ⟨x, _, hx⟩ := List.mem_flatMap.1 hu
 simp only [insOne, List.mem_cons, List.not_mem_nil, or_false] at hx
 rcases hx with rfl | rfl | rfl | rfl <;> rfl
theorem insCells_get : ∀ {l : List InsM} {j : Nat} {x : InsM}, l[j]? = some x → (insCells l)[j * 4]? = some (.int .i64 (x.op : Nat)) ∧ (insCells l)[j * 4 + 1]? = some (.int .i64 x.a) ∧ (insCells l)[j * 4 + 2]? = some (.int .i64 (x.b : Nat)) ∧ (insCells l)[j * 4 + 3]? = some (.string (bs x.s))
 | [], _, _, h => by simp at h
 | a :: l, 0, x, h => by simp at h; subst h; exact ⟨rfl, rfl, rfl, rfl⟩
 | a :: l, j + 1, x, h => by
  have := insCells_get (l := l) (j := j) (x := x) (by simpa using h)
  have e : insCells (a :: l) = insOne a ++ insCells l := rfl
  have hl : (insOne a).length = 4 := rfl
  rw [e, List.getElem?_append_right (by omega), List.getElem?_append_right (by omega), List.getElem?_append_right (by omega), List.getElem?_append_right (by omega), hl]
  rw [show (j + 1) * 4 - 4 = j * 4 by omega, show (j + 1) * 4 + 1 - 4 = j * 4 + 1 by omega, show (j + 1) * 4 + 2 - 4 = j * 4 + 2 by omega, show (j + 1) * 4 + 3 - 4 = j * 4 + 3 by omega]
  exact this
theorem TyIns : SlTy Tryz.prog 35 45 4 40 (.agg #[.int .i64 0, .int .i64 0, .int .i64 0, .string ⟨#[]⟩]) := SlTy.mk' (by kernel_rfl) (by kernel_rfl) rfl (by decide)
structure InsAt (w0 w : World) (v : Value) (n : Nat) (l : List InsM) : Prop where
 own : Own w 45 4 v n (insCells l)
 len : n = l.length
 new : ∀ b, blk v = some b → w0.heap.size ≤ b
section
variable {w0 w w1 w' : World} {v u : Value} {n m : Nat} {l k : List InsM}
theorem InsAt.nil (w0 w : World) (c : Nat) (A : Option Addr) : InsAt w0 w (.slice A 0 0) 0 [] := ⟨Own.empty _ _ _ _, rfl, fun b hb => by cases A <;> simp [blk] at hb⟩
theorem InsAt.no (h : InsAt w0 w v n l) (f : Fr nob w w') : InsAt w0 w' v n l := ⟨h.own.fr f (fun _ _ x => x), h.len, h.new⟩
theorem InsAt.older (h : InsAt w1 w v n l) (f : Fr nob w0 w1) : InsAt w0 w v n l := ⟨h.own, h.len, fun b hb => Nat.le_trans f.size (h.new b hb)⟩
theorem InsAt.app (h : InsAt w0 w v n l) (F : Fr nob w0 w) {A : Option Addr} {c : Nat} (ho : Own w' 45 4 (.slice A (n + m) c) (n + m) (insCells l ++ insCells k)) (hf : Fr (obl (blk v)) w w') (hv : blk (.slice A (n + m) c) = blk v ∨ blk (.slice A (n + m) c) = some w.heap.size) (hm : m = k.length) :
   InsAt w0 w' (.slice A (n + m) c) (n + m) (l ++ k) ∧ Fr nob w0 w' := by
 refine ⟨⟨by rw [insCells_app]; exact ho, by rw [List.length_append, h.len, hm], fun b hb => ?_⟩, (F.trans hf (M := fun b => blk v = some b) (fun _ _ x => x.elim) (fun b _ hb => hb)).mono (fun b hb hm => by have := h.new b hm; omega)⟩
 rcases hv with e | e
 · exact h.new b (by rw [← e]; exact hb)
 · rw [hb] at e
   injection e with e
   have := F.size
   omega
theorem InsAt.stay (h : InsAt w0 w u m k) (hf : Fr (obl (blk v)) w w') (hne : ∀ b, blk u = some b → blk v ≠ some b) : InsAt w0 w' u m k :=
 ⟨h.own.fr hf (fun b hb hm => hne b hb hm), h.len, h.new⟩
theorem InsAt.later (h : InsAt w0 w1 v n l) (g : InsAt w1 w u m k) : ∀ b, blk u = some b → blk v ≠ some b := fun b hb he => by
 have h1 := h.own.blk_lt he
 have h2 := g.new b hb
 omega
theorem InsAt.sepd {v' : Value} (h : InsAt w0 w u m k) (hne : ∀ b, blk u = some b → blk v ≠ some b) (hv : blk v' = blk v ∨ blk v' = some w.heap.size) : ∀ b, blk u = some b → blk v' ≠ some b := fun b hb he => by
 rcases hv with e | e
 · exact hne b hb (e ▸ he)
 · rw [e] at he; injection he with he
   have := h.own.blk_lt hb; omega
theorem sep_nil (A : Option Addr) (q : Value) : ∀ b, blk (.slice A 0 0) = some b → blk q ≠ some b := fun b hb => by cases A <;> simp [blk] at hb
end
structure PgV where
 nb : Nat
 nc : Nat
 fb : Nat
 fc : Nat
 tb : Nat
 tc : Nat
 sb : Nat
 sc : Nat
 ua : Option Addr
 un : Nat
 uc : Nat
 za : Option Addr
 zn : Nat
 zc : Nat
 lvs : List Value
 pvs : List Value
 p : ProgM
def PgV.val (g : PgV) : Value := .agg #[.slice (some ⟨g.nb, 0, none⟩) g.p.ns.length g.nc, .slice (some ⟨g.fb, 0, none⟩) g.p.fs.length g.fc, .slice (some ⟨g.tb, 0, none⟩) g.p.ns.length g.tc, .slice (some ⟨g.sb, 0, none⟩) g.p.ns.length g.sc, .slice g.ua g.un g.uc, .slice g.za g.zn g.zc]
structure PgAt (g : PgV) (w : World) : Prop where
 is : ProgIs g.p
 tree : TreeAt 0 w (.slice (some ⟨g.nb, 0, none⟩) g.p.ns.length g.nc) (.slice (some ⟨g.fb, 0, none⟩) g.p.fs.length g.fc) g.lvs g.pvs g.p.ns g.p.fs
 types : Own w 3 1 (.slice (some ⟨g.tb, 0, none⟩) g.p.ns.length g.tc) g.p.ns.length (ints g.p.types)
 slots : Own w 3 1 (.slice (some ⟨g.sb, 0, none⟩) g.p.ns.length g.sc) g.p.ns.length (intsI g.p.slots)
section
variable {g : PgV} {w w' : World}
theorem PgAt.no (h : PgAt g w) (f : Fr nob w w') : PgAt g w' := ⟨h.is, h.tree.no f, h.types.fr f (fun _ _ x => x), h.slots.fr f (fun _ _ x => x)⟩
theorem PgAt.len (h : PgAt g w) : (g.p.ns.length : Int) ≤ 300 := by have := h.is.tree.ok.few; omega
theorem PgAt.slot (h : PgAt g w) {x : Nat} (hx : x < g.p.ns.length) : w.cell? ⟨g.sb, x, none⟩ = some (.int .i64 (slotP g.p x)) := by
 obtain ⟨b, e, hc⟩ := h.slots.some (by omega)
 injection e with e
 injection e with e
 subst e
 have hl : x < g.p.slots.length := by rw [h.is.ls]; exact hx
 have := hc x (.int .i64 (slotP g.p x)) (by unfold intsI slotP; rw [List.getElem?_map, List.getD_eq_getElem?_getD, List.getElem?_eq_getElem hl]; rfl)
 simpa using this
theorem PgAt.type (h : PgAt g w) {x : Nat} (hx : x < g.p.ns.length) : w.cell? ⟨g.tb, x, none⟩ = some (.int .i64 (typeP g.p x : Nat)) := by
 obtain ⟨b, e, hc⟩ := h.types.some (by omega)
 injection e with e
 injection e with e
 subst e
 have hl : x < g.p.types.length := by rw [h.is.lt]; exact hx
 have := hc x (.int .i64 (typeP g.p x : Nat)) (by unfold ints typeP; rw [List.getElem?_map, List.getD_eq_getElem?_getD, List.getElem?_eq_getElem hl]; rfl)
 simpa using this
theorem PgAt.node (h : PgAt g w) {x : Nat} {nd : NodeM} (hx : g.p.ns[x]? = some nd) : ∃ lv, Own w 3 1 lv nd.l.length (ints nd.l) ∧
  w.cell? ⟨g.nb, x * 5, none⟩ = some (.int .i64 nd.kind) ∧ w.cell? ⟨g.nb, x * 5 + 1, none⟩ = some (.int .i64 nd.line) ∧ w.cell? ⟨g.nb, x * 5 + 2, none⟩ = some (.int .i64 nd.n) ∧ w.cell? ⟨g.nb, x * 5 + 3, none⟩ = some (.string (bs nd.name)) ∧ w.cell? ⟨g.nb, x * 5 + 4, none⟩ = some lv ∧ g.nb < w.heap.size ∧ x < g.p.ns.length := by
 have hlt := (List.getElem?_eq_some_iff.1 hx).1
 obtain ⟨lv, hlv⟩ : ∃ lv, g.lvs[x]? = some lv := ⟨_, List.getElem?_eq_getElem (by have := h.tree.same; omega)⟩
 obtain ⟨a, b, c, d, e, f⟩ := h.tree.node3 hx hlv
 exact ⟨lv, a, b, c, d, e, f, World.block_lt_of_cell? w ⟨g.nb, x * 5, none⟩ b, hlt⟩
end
structure CpK (g : PgV) (B k line n : Nat) (nm : List UInt8) (kv : Value) (l : List Nat) (w : World) : Prop where
 pg : PgAt g w
 bp : Blk w B 29 #[.slice (some ⟨g.nb, 0, none⟩) g.p.ns.length g.nc, .slice (some ⟨g.fb, 0, none⟩) g.p.fs.length g.fc, .slice (some ⟨g.tb, 0, none⟩) g.p.ns.length g.tc, .slice (some ⟨g.sb, 0, none⟩) g.p.ns.length g.sc, .slice g.ua g.un g.uc, .slice g.za g.zn g.zc]
 bn : Blk w (B + 1) 50 #[.int .i64 k, .int .i64 line, .int .i64 n, .string (bs nm), kv]
 kids : Own w 3 1 kv l.length (ints l)
section
variable {g : PgV} {w w' : World} {B k line n : Nat} {nm : List UInt8} {kv : Value} {l : List Nat}
theorem CpK.no (h : CpK g B k line n nm kv l w) (f : Fr nob w w') : CpK g B k line n nm kv l w' := ⟨h.pg.no f, h.bp.fr f (fun x => x), h.bn.fr f (fun x => x), h.kids.fr f (fun _ _ x => x)⟩
theorem PgAt.stay (h : PgAt g w) {v : Value} {c : Nat} {xs : List Value} (ho : Own w 45 4 v c xs) (hf : Fr (obl (blk v)) w w') : PgAt g w' := by
 cases hb : blk v with
 | none => rw [hb] at hf; exact h.no (hf.mono (fun _ _ x => by cases x))
 | some b =>
  obtain ⟨cs, hbk⟩ := ho.ty hb
  have f : Fr (oneb b) w w' := hf.mono (fun k _ hm => by
   have hm : blk v = some k := hm
   rw [hb] at hm; injection hm with hm; exact hm.symm)
  have own : ∀ {u : Value} {c : Nat} {xs : List Value}, Own w 3 1 u c xs → Own w' 3 1 u c xs := fun ho => ho.fr f fun b' hb' hm => by
   have hm : b' = b := hm
   subst hm
   exact ho.blk_ne hbk (by decide) hb'
  exact ⟨h.is, h.tree.farG hbk (by decide) (by decide) (by decide) (by decide) f, own h.types, own h.slots⟩
theorem CpK.stay (h : CpK g B k line n nm kv l w) {v : Value} {c : Nat} {xs : List Value} (ho : Own w 45 4 v c xs) (hf : Fr (obl (blk v)) w w') : CpK g B k line n nm kv l w' :=
 ⟨h.pg.stay ho hf, h.bp.fr hf (fun hb => by
  have hb : blk v = some B := hb
  exact ho.blk_ne h.bp (by decide) hb), h.bn.fr hf (fun hb => by
  have hb : blk v = some (B + 1) := hb
  exact ho.blk_ne h.bn (by decide) hb), h.kids.fr hf (fun b hb hm => by
  have hm : blk v = some b := hm
  exact ho.blk_ne' h.kids (by decide) hb hm)⟩
theorem CpK.new (h : PgAt g w) (ho : Own w 3 1 kv l.length (ints l)) (k line n : Nat) (nm : List UInt8) : CpK g w.heap.size k line n nm kv l ((w.alloc (.cells #[.slice (some ⟨g.nb, 0, none⟩) g.p.ns.length g.nc, .slice (some ⟨g.fb, 0, none⟩) g.p.fs.length g.fc, .slice (some ⟨g.tb, 0, none⟩) g.p.ns.length g.tc, .slice (some ⟨g.sb, 0, none⟩) g.p.ns.length g.sc, .slice g.ua g.un g.uc, .slice g.za g.zn g.zc] 29)).alloc (.cells #[.int .i64 k, .int .i64 line, .int .i64 n, .string (bs nm), kv] 50)) := by
 have hn := Blk.new (w.alloc (.cells #[.slice (some ⟨g.nb, 0, none⟩) g.p.ns.length g.nc, .slice (some ⟨g.fb, 0, none⟩) g.p.fs.length g.fc, .slice (some ⟨g.tb, 0, none⟩) g.p.ns.length g.tc, .slice (some ⟨g.sb, 0, none⟩) g.p.ns.length g.sc, .slice g.ua g.un g.uc, .slice g.za g.zn g.zc] 29)) 50 #[.int .i64 k, .int .i64 line, .int .i64 n, .string (bs nm), kv]
 rw [World.size_alloc] at hn
 exact ⟨(h.no ((Fr.refl nob w).alloc _)).no ((Fr.refl nob _).alloc _), (Blk.new w _ _).alloc _, hn, (ho.alloc _).alloc _⟩
theorem CpK.ex (h : PgAt g w) (ho : Own w 3 1 kv l.length (ints l)) (k line n : Nat) (nm : List UInt8) : ∃ w1, ((w.alloc (.cells #[.slice (some ⟨g.nb, 0, none⟩) g.p.ns.length g.nc, .slice (some ⟨g.fb, 0, none⟩) g.p.fs.length g.fc, .slice (some ⟨g.tb, 0, none⟩) g.p.ns.length g.tc, .slice (some ⟨g.sb, 0, none⟩) g.p.ns.length g.sc, .slice g.ua g.un g.uc, .slice g.za g.zn g.zc] 29)).alloc (.cells #[.int .i64 k, .int .i64 line, .int .i64 n, .string (bs nm), kv] 50)) = w1 ∧ CpK g w.heap.size k line n nm kv l w1 ∧ Fr nob w w1 :=
 ⟨_, rfl, CpK.new h ho k line n nm, ((Fr.refl nob w).alloc _).alloc _⟩
theorem CpK.cells (h : CpK g B k line n nm kv l w) : w.cell? ⟨B, 0, none⟩ = some (.slice (some ⟨g.nb, 0, none⟩) g.p.ns.length g.nc) ∧ w.cell? ⟨B, 1, none⟩ = some (.slice (some ⟨g.fb, 0, none⟩) g.p.fs.length g.fc) ∧ w.cell? ⟨B, 2, none⟩ = some (.slice (some ⟨g.tb, 0, none⟩) g.p.ns.length g.tc) ∧ w.cell? ⟨B, 3, none⟩ = some (.slice (some ⟨g.sb, 0, none⟩) g.p.ns.length g.sc) ∧ w.cell? ⟨B, 4, none⟩ = some (.slice g.ua g.un g.uc) ∧ w.cell? ⟨B, 5, none⟩ = some (.slice g.za g.zn g.zc) ∧
  w.cell? ⟨B + 1, 0, none⟩ = some (.int .i64 k) ∧ w.cell? ⟨B + 1, 2, none⟩ = some (.int .i64 n) ∧ w.cell? ⟨B + 1, 3, none⟩ = some (.string (bs nm)) ∧ w.cell? ⟨B + 1, 4, none⟩ = some kv :=
 ⟨(h.bp.cell 0).trans rfl, (h.bp.cell 1).trans rfl, (h.bp.cell 2).trans rfl, (h.bp.cell 3).trans rfl, (h.bp.cell 4).trans rfl, (h.bp.cell 5).trans rfl, (h.bn.cell 0).trans rfl, (h.bn.cell 2).trans rfl, (h.bn.cell 3).trans rfl, (h.bn.cell 4).trans rfl⟩
theorem CpK.kid {kb m c : Nat} (h : CpK g B k line n nm (.slice (some ⟨kb, 0, none⟩) m c) l w) (j a : Nat) (hj : l[j]? = some a) : w.cell? ⟨kb, j, none⟩ = some (.int .i64 (a : Nat)) := by
 obtain ⟨A', c', hv, _, _⟩ := h.kids.cap
 injection hv with _ hm _
 subst hm
 obtain ⟨b, e, hc⟩ := h.kids.some (by have := (List.getElem?_eq_some_iff.1 hj).1; omega)
 injection e with e
 injection e with e
 subst e
 have := hc j (.int .i64 (a : Nat)) (by unfold ints; rw [List.getElem?_map, hj]; rfl)
 simpa using this
end
theorem kidsGet {w : World} {kv : Value} {l : List Nat} (h : Own w 3 1 kv l.length (ints l)) (hl : 0 < l.length) : ∃ kb kc, kv = .slice (some ⟨kb, 0, none⟩) l.length kc := by
 obtain ⟨A, c, rfl, _, _⟩ := h.cap
 obtain ⟨b, e, _⟩ := h.some hl
 exact ⟨b, c, by rw [e]⟩
def CpOk (F : Nat) (g : PgV) (x at_ : Nat) (l : List InsM) : Prop := l.length ≤ 3000 ∧ at_ ≤ 3000 ∧ ∀ (w : World) (ai : Int), PgAt g w → ai = (at_ : Nat) → Calls Tryz.prog F #[.agg #[.slice (some ⟨g.nb, 0, none⟩) g.p.ns.length g.nc, .slice (some ⟨g.fb, 0, none⟩) g.p.fs.length g.fc, .slice (some ⟨g.tb, 0, none⟩) g.p.ns.length g.tc, .slice (some ⟨g.sb, 0, none⟩) g.p.ns.length g.sc, .slice g.ua g.un g.uc, .slice g.za g.zn g.zc], .int .i64 (x : Nat), .int .i64 ai] w fun en w' => ∃ A c n, en = .returned (.slice A n c) ∧ InsAt w w' (.slice A n c) n l ∧ Fr nob w w'
set_option maxHeartbeats 1600000 in
set_option maxRecDepth 100000 in
theorem one_any (w : World) (x : InsM) {o a b : Int} {s : ByteArray} (ho : o = (x.op : Nat)) (ha : a = x.a) (hb : b = (x.b : Nat)) (hs : s = bs x.s) :
  Calls Tryz.prog 41 #[.int .i64 o, .int .i64 a, .int .i64 b, .string s] w fun en w' => ∃ A c, en = .returned (.slice A 1 c) ∧ InsAt w w' (.slice A 1 c) 1 [x] ∧ Fr nob w w' := by
 have HB := hid (Blk.new w 45 #[.int .i64 o, .int .i64 a, .int .i64 b, .string s])
 have HE := hid (show ([.int .i64 o, .int .i64 a, .int .i64 b, .string s] : List Value) = insCells [x] from by subst ho; subst ha; subst hb; subst hs; rfl)
 clear ho ha hb hs
 go_enter Tryz.func41, Tryz.ntmps41
 go_wp2_with fail
 go_ret
 refine ⟨_, _, rfl, ⟨⟨rfl, _, _, rfl, .inr ⟨w.heap.size, _, rfl, by decide, HB.out, by decide, by decide, rfl, by rw [← HE.out]; rfl⟩⟩, rfl, fun b hb => ?_⟩, (Fr.refl nob w).alloc _⟩
 simp [blk] at hb
 omega
section
variable {p : ProgM} {a b : Nat}
end
def TyIn (ts : List TypeId) (w : World) (k : Nat) : Prop := ∃ t ∈ ts, ∃ cs f, w.heap[k]? = some (.cells cs t f)
def FrT (B : Nat) (ts : List TypeId) (w w' : World) : Prop := Fr (fun k => B ≤ k ∧ TyIn ts w k) w w'
section
variable {B B' : Nat} {ts ts' : List TypeId} {w w1 w2 w' : World} {t e size n m : Nat} {v : Value} {xs : List Value} {cs : Array Value}
theorem Blk.tyIn (h : Blk w m t cs) (ht : t ∉ ts) : ¬ TyIn ts w m := by
 rintro ⟨u, hu, cs', f, h'⟩
 unfold Blk at h
 rw [h] at h'
 injection h' with h'
 injection h' with _ h2
 subst h2
 exact ht hu
theorem Own.tyIn (h : Own w e size v n xs) (ht : e ∉ ts) {b : Nat} (hb : blk v = Option.some b) : ¬ TyIn ts w b := by
 obtain ⟨hl, A, c, rfl, ⟨rfl, _⟩ | ⟨g', cur, rfl, h0, hb', r⟩⟩ := h
 · cases A <;> simp [blk] at hb
 · have : g' = b := by simp [blk] at hb; omega
   subst this
   exact hb'.tyIn ht
theorem FrT.refl (B : Nat) (ts : List TypeId) (w : World) : FrT B ts w w := Fr.refl _ w
theorem FrT.no (h : Fr nob w w') : FrT B ts w w' := Fr.ofNo h
theorem FrT.mono (h : FrT B ts w w') (hb : B' ≤ B) (ht : ∀ t ∈ ts, t ∈ ts') : FrT B' ts' w w' :=
 Fr.mono h fun k _ ⟨h1, t, h2, h3⟩ => ⟨Nat.le_trans hb h1, t, ht t h2, h3⟩
theorem FrT.tr (h : FrT B ts w w1) (h2 : FrT B ts w1 w2) : FrT B ts w w2 := by
 refine Fr.trans h h2 (fun _ _ x => x) (fun k hk ⟨hB, hM⟩ => ?_)
 by_cases hn : B ≤ k ∧ TyIn ts w k
 · exact hn
 · have := h.block k hk hn
   obtain ⟨t, ht, cs, f, hc⟩ := hM
   exact ⟨hB, t, ht, cs, f, by rw [← this]; exact hc⟩
theorem FrT.blk (h : FrT B ts w w') (hb : Blk w m t cs) (ht : t ∉ ts) : Blk w' m t cs := hb.fr h (fun hm => hb.tyIn ht hm.2)
theorem FrT.own (h : FrT B ts w w') (ho : Own w e size v n xs) (ht : e ∉ ts) : Own w' e size v n xs := ho.fr h (fun b hb hm => ho.tyIn ht hb hm.2)
theorem FrT.low (h : FrT B ts w w') (hB : w1.heap.size ≤ B) (h1 : Fr nob w1 w) : Fr nob w1 w' :=
 Fr.trans h1 h (fun _ _ x => x) (fun k hk hm => by have := hm.1; omega)
theorem FrT.set (hb : Blk w m t cs) (ht : t ∈ ts) (hB : B ≤ m) (j : Nat) (u : Value) : FrT B ts w (w.setCell ⟨m, j, none⟩ u) :=
 (Fr.refl _ w).setCell _ _ fun _ => ⟨hB, t, ht, cs, _, hb⟩
theorem FrT.app (ho : Own w e size v n xs) (he : e ∈ ts) (hB : ∀ b, Go.Proofs.YtlbjicjinnnboaaGreatDoor.blk v = some b → B ≤ b) (f : Fr (obl (Go.Proofs.YtlbjicjinnnboaaGreatDoor.blk v)) w w') : FrT B ts w w' :=
 Fr.mono f fun k hk hm => by
  have hm : Go.Proofs.YtlbjicjinnnboaaGreatDoor.blk v = some k := hm
  obtain ⟨hl, A, c, rfl, ⟨rfl, _⟩ | ⟨g', cur, rfl, h0, hb', r⟩⟩ := ho
  · cases A <;> simp [Go.Proofs.YtlbjicjinnnboaaGreatDoor.blk] at hm
  · have : g' = k := by simp [Go.Proofs.YtlbjicjinnnboaaGreatDoor.blk] at hm; omega
    subst this
    exact ⟨hB _ hm, e, he, cur, _, hb'⟩
theorem FrT.below2 (f : FrT B ts w w') (h1 : 3 ∉ ts) : ∀ {ns : List NodeM} {vs : List Value}, Below2 w ns vs → Below2 w' ns vs
 | [], [], _ => trivial
 | [], _ :: _, h => h.elim
 | _ :: _, [], h => h.elim
 | _ :: _, _ :: _, h => ⟨f.own h.1 h1, f.below2 h1 h.2⟩
theorem FrT.tree {nv fv : Value} {lvs pvs : List Value} {ns : List NodeM} {fs : List FuncM} (f : FrT B ts w w') (h : TreeAt m w nv fv lvs pvs ns fs) (h1 : 50 ∉ ts) (h2 : 3 ∉ ts) (h3 : 48 ∉ ts) (h4 : 101 ∉ ts) : TreeAt m w' nv fv lvs pvs ns fs :=
 ⟨f.own h.nodes h1, f.below2 h2 h.below, h.same, f.own h.fns h3, h.pars.to f (fun b cs' hc hm => hc.tyIn h4 hm.2), h.samef, h.newn, h.newf⟩
theorem FrT.pg {g : PgV} (f : FrT B ts w w') (h : PgAt g w) (h1 : 50 ∉ ts) (h2 : 3 ∉ ts) (h3 : 48 ∉ ts) (h4 : 101 ∉ ts) : PgAt g w' :=
 ⟨h.is, f.tree h.tree h1 h2 h3 h4, f.own h.types h2, f.own h.slots h2⟩
end
end Go.Proofs.YtlbjicjinnnboaaGreatDoor
