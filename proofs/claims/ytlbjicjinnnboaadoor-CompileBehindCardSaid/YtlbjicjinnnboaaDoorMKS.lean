/- MKS: CkS, CkBlk, CkFun. -/
import Derived.Test.YtlbjicjinnnboaaDoorMK3
set_option linter.unusedVariables false
set_option linter.unusedSimpArgs false
/- The document's checker: statement. Printed by wip/tools/mkcstm.py. -/
namespace Go.Proofs.YtlbjicjinnnboaaDoor
open Go.RowKit
open Pw
def CblOk (G : Geo) (zs : List Nat) (k : Nat) (bl : Nat → CkS → CkR CkS) (x : Nat) : Prop :=
 ∀ (w : World) (s : CkS), Ck G w s zs k 0 0 → Calls Tryd.prog 33 #[.pointer (some ⟨G.g, 0, none⟩), .int .i64 x] w (StepK G zs k (bl x s) w)
def CstOk (G : Geo) (zs : List Nat) (k : Nat) (st : Nat → CkS → CkR CkS) (x : Nat) : Prop :=
 ∀ (w : World) (s : CkS), Ck G w s zs k 0 0 → Calls Tryd.prog 49 #[.pointer (some ⟨G.g, 0, none⟩), .int .i64 x] w (StepK G zs k (st x s) w)
theorem seqC_snoc (st : Nat → CkS → CkR CkS) (a : Nat) : ∀ (l : List Nat) (s : CkS), seqC st (l ++ [a]) s = (seqC st l s).bind (st a)
 | [], s => by
  show (st a s).bind (fun s => CkR.good s) = (CkR.good s).bind (st a)
  rw [CkR.bind_good]
  cases st a s <;> rfl
 | b :: l, s => by
  show (st b s).bind _ = ((st b s).bind _).bind _
  cases st b s with
  | bad e p => rfl
  | good u => exact seqC_snoc st a l u
theorem seqC_bad {st : Nat → CkS → CkR CkS} {e p : Nat} : ∀ (l m : List Nat) (s : CkS), seqC st l s = .bad e p → seqC st (l ++ m) s = .bad e p := by
 intro l m
 induction m generalizing l with
 | nil => intro s h; rw [List.append_nil]; exact h
 | cons a m ih =>
  intro s h
  have : l ++ a :: m = (l ++ [a]) ++ m := by simp
  rw [this]
  exact ih (l ++ [a]) s (by rw [seqC_snoc, h]; rfl)
theorem binC {α : Type} {P : α → Prop} [DecidablePred P] {q : CkR (α × CkS)} {x : Nat} {b : Bool} (hb : ∀ a, q = .good a → b = decide (P a.1)) :
  ((q.map (·.2)).bind fun s => if b = true then CkR.good s else .bad 42 x) = (q.bind fun r => if P r.1 then CkR.good r.2 else .bad 42 x) := by
 cases q with
 | bad e p => rfl
 | good a =>
  have := hb a rfl
  simp only [CkR.map_good, CkR.bind_good, this, decide_eq_true_eq]
theorem CkN.open_ {G : Geo} {w : World} {r : CkR CkS} {zs : List Nat} {k : Nat} (h : CkN G w r zs k) (hM : G.M = 24) : ∃ s e p, Ck G.more w s zs k e p ∧ ModeK r s e p := by
 cases r with
 | good s => exact ⟨s, 0, 0, Ck.more h (by omega), .inl ⟨rfl, rfl, rfl⟩⟩
 | bad e p => obtain ⟨h1, h2, s, h3⟩ := h; exact ⟨s, e, p, h3, .inr ⟨h1, h2, rfl⟩⟩
section
variable {G : Geo} {w w' : World} {s : CkS} {r r' : CkR CkS} {zs : List Nat} {k : Nat} {ex : Nat → CkS → CkR (Nat × CkS)} {bl : Nat → CkS → CkR CkS}
set_option maxHeartbeats 8000000 in
set_option maxRecDepth 100000 in
theorem cstm_let (hM : G.M = 24) {x line : Nat} {a : Nat} {nm : List UInt8} (h : Ck G w s zs k 0 0) (hx : G.ns[x]? = some ⟨10, line, 0, nm, [a]⟩) (ha : CexOk G zs k ex a) :
  Calls Tryd.prog 49 #[.pointer (some ⟨G.g, 0, none⟩), .int .i64 x] w (StepK G zs k (stmC G.fs k ex bl x ⟨10, line, 0, nm, [a]⟩ s) w) := by
 have M0 := hid (show CkM G w (.good s) zs k from h)
 obtain ⟨nb, nc, kv, hnv, hkv, hown, nlt, hx3, c0, x0, x1, x2, x3, x4⟩ := M0.out.node hx
 dsimp only at hown x0 x1 x2 x3 x4
 have hx4 : (G.ns.length : Int) ≤ 300 := by have := h.geo.few; omega
 have hx5 : x < G.ns.length := by omega
 have glt := h.g_lt
 have gn : ¬ G.g = w.heap.size := by omega
 have nn : ¬ nb = w.heap.size := by omega
 obtain ⟨kb, kc, rfl, hkc, hcell⟩ := kids_get hown (by simp)
 have hkc2 : 1 ≤ kc := by simp at hkc; omega
 have HK := hid (And.intro hx hkv)
 have HM := hid hM
 have C1 := hid (CkC.new M0.out 49 #[.int .i64 10, .int .i64 line, .int .i64 0, .string (bs nm), .slice (some ⟨kb, 0, none⟩) 1 kc] (by decide))
 have F1 := hid (show FrK G w (w.alloc (.cells #[.int .i64 10, .int .i64 line, .int .i64 0, .string (bs nm), .slice (some ⟨kb, 0, none⟩) 1 kc] 49)) from FrK.no ((Fr.refl nob w).alloc _))
 have HX5 := hid hx5
 clear h hx hkv hown hM hx5 hcell hkc
 have HA := hid ha
 clear ha
 go_enter Tryd.func49, Tryd.ntmps49
 go_wp2_with fail
 clear c0 x0 x1 x2 x3 x4 glt gn nlt nn
 generalize w.alloc (.cells #[.int .i64 10, .int .i64 line, .int .i64 0, .string (bs nm), .slice (some ⟨kb, 0, none⟩) 1 kc] 49) = w1 at *
 generalize w.heap.size = C at *
 have K1 := hid (show Ck G w1 s zs k 0 0 from C1.out.m)
 obtain ⟨_, _, -, -, -, -, c4, -, c6, -⟩ := K1.out.cells
 obtain ⟨⟨u2, bf⟩, zf⟩ := K1.out.fn.cellj HX5.out
 obtain ⟨n1, n2, n3⟩ := K1.out.gne
 have D4 := hid c4
 have D6 := hid c6
 have e4 := hid ((World.cell?_setCell_other w1.drew ⟨G.bf, x, none⟩ ⟨G.g, 4, none⟩ (.int .i64 (k : Nat)) (by intro e; injection e with e; exact n3 e.symm)).trans c4)
 have e6 := hid ((World.cell?_setCell_other w1.drew ⟨G.bf, x, none⟩ ⟨G.g, 6, none⟩ (.int .i64 (k : Nat)) (by intro e; injection e with e; exact n3 e.symm)).trans c6)
 have S2 := hid (K1.out.setF x k)
 clear n1 n2 n3
 go_region_held3 (fun wx => wx.cell? ⟨G.g, 4, none⟩ = some (.slice (some ⟨G.bf, 0, none⟩) G.ns.length G.cf) ∧ wx.cell? ⟨G.g, 6, none⟩ = some (.int .i64 (k : Nat))) (first | exact ⟨D4.out, D6.out⟩ | exact ⟨e4.out, e6.out⟩) (first | fail)
 clear c4 c6 bf zf D4 D6 e4 e6
 have C2 := hid ((C1.out.to (show CkM G _ (.good { s with fn := s.fn.set x k }) zs k from S2.out.1) S2.out.2).no ((Fr.refl nob _).drew))
 have F2 := hid ((F1.out.trans S2.out.2).trans (FrK.no ((Fr.refl nob _).drew)))
 clear S2 K1 C1 F1 HX5
 generalize (w1.setCell ⟨G.bf, x, none⟩ (.int .i64 (k : Nat))).drew = w2 at *
 have d0 : w2.cell? ⟨C, 0, none⟩ = some (.int .i64 10) := by simpa using C2.out.b.cell 0
 go_wp2_with fail
 refine (clet_any HM.out (show Ck G w2 { s with fn := s.fn.set x k } zs k 0 0 from C2.out.m) HK.out.1 HA.out).mono ?_
 rintro en w3 ⟨rfl, h3, f3⟩
 have N3 := hid h3
 have F3 := hid (F2.out.trans f3)
 clear h3 f3 d0
 go_wp2_with fail
 exact bodyPost_end (results_none rfl _ _ _) rfl ⟨rfl, N3.out, F3.out⟩
set_option maxHeartbeats 8000000 in
set_option maxRecDepth 100000 in
theorem cstm_do (hM : G.M = 24) {x line : Nat} {a : Nat} (h : Ck G w s zs k 0 0) (hx : G.ns[x]? = some ⟨13, line, 0, [], [a]⟩) (ha : CexOk G zs k ex a) :
  Calls Tryd.prog 49 #[.pointer (some ⟨G.g, 0, none⟩), .int .i64 x] w (StepK G zs k (stmC G.fs k ex bl x ⟨13, line, 0, [], [a]⟩ s) w) := by
 have M0 := hid (show CkM G w (.good s) zs k from h)
 obtain ⟨nb, nc, kv, hnv, hkv, hown, nlt, hx3, c0, x0, x1, x2, x3, x4⟩ := M0.out.node hx
 dsimp only at hown x0 x1 x2 x3 x4
 have hx4 : (G.ns.length : Int) ≤ 300 := by have := h.geo.few; omega
 have hx5 : x < G.ns.length := by omega
 have glt := h.g_lt
 have gn : ¬ G.g = w.heap.size := by omega
 have nn : ¬ nb = w.heap.size := by omega
 obtain ⟨kb, kc, rfl, hkc, hcell⟩ := kids_get hown (by simp)
 have hkc2 : 1 ≤ kc := by simp at hkc; omega
 have HK := hid (And.intro hx hkv)
 have HM := hid hM
 have C1 := hid (CkC.new M0.out 49 #[.int .i64 13, .int .i64 line, .int .i64 0, .string (bs []), .slice (some ⟨kb, 0, none⟩) 1 kc] (by decide))
 have F1 := hid (show FrK G w (w.alloc (.cells #[.int .i64 13, .int .i64 line, .int .i64 0, .string (bs []), .slice (some ⟨kb, 0, none⟩) 1 kc] 49)) from FrK.no ((Fr.refl nob w).alloc _))
 have HX5 := hid hx5
 clear h hx hkv hown hM hx5 hcell hkc
 have HA := hid ha
 clear ha
 go_enter Tryd.func49, Tryd.ntmps49
 go_wp2_with fail
 clear c0 x0 x1 x2 x3 x4 glt gn nlt nn
 generalize w.alloc (.cells #[.int .i64 13, .int .i64 line, .int .i64 0, .string (bs []), .slice (some ⟨kb, 0, none⟩) 1 kc] 49) = w1 at *
 generalize w.heap.size = C at *
 have K1 := hid (show Ck G w1 s zs k 0 0 from C1.out.m)
 obtain ⟨_, _, -, -, -, -, c4, -, c6, -⟩ := K1.out.cells
 obtain ⟨⟨u2, bf⟩, zf⟩ := K1.out.fn.cellj HX5.out
 obtain ⟨n1, n2, n3⟩ := K1.out.gne
 have D4 := hid c4
 have D6 := hid c6
 have e4 := hid ((World.cell?_setCell_other w1.drew ⟨G.bf, x, none⟩ ⟨G.g, 4, none⟩ (.int .i64 (k : Nat)) (by intro e; injection e with e; exact n3 e.symm)).trans c4)
 have e6 := hid ((World.cell?_setCell_other w1.drew ⟨G.bf, x, none⟩ ⟨G.g, 6, none⟩ (.int .i64 (k : Nat)) (by intro e; injection e with e; exact n3 e.symm)).trans c6)
 have S2 := hid (K1.out.setF x k)
 clear n1 n2 n3
 go_region_held3 (fun wx => wx.cell? ⟨G.g, 4, none⟩ = some (.slice (some ⟨G.bf, 0, none⟩) G.ns.length G.cf) ∧ wx.cell? ⟨G.g, 6, none⟩ = some (.int .i64 (k : Nat))) (first | exact ⟨D4.out, D6.out⟩ | exact ⟨e4.out, e6.out⟩) (first | fail)
 clear c4 c6 bf zf D4 D6 e4 e6
 have C2 := hid ((C1.out.to (show CkM G _ (.good { s with fn := s.fn.set x k }) zs k from S2.out.1) S2.out.2).no ((Fr.refl nob _).drew))
 have F2 := hid ((F1.out.trans S2.out.2).trans (FrK.no ((Fr.refl nob _).drew)))
 clear S2 K1 C1 F1 HX5
 generalize (w1.setCell ⟨G.bf, x, none⟩ (.int .i64 (k : Nat))).drew = w2 at *
 have d0 : w2.cell? ⟨C, 0, none⟩ = some (.int .i64 13) := by simpa using C2.out.b.cell 0
 have d4 : w2.cell? ⟨C, 4, none⟩ = some (.slice (some ⟨kb, 0, none⟩) 1 kc) := by simpa using C2.out.b.cell 4
 have k0 := C2.out.m.kid HK.out.1 HK.out.2 (j := 0) (a := a) rfl
 go_wp2_with fail
 refine (HA.out w2 _ C2.out.m).mono ?_
 rintro en w3 ⟨t, rfl, h3, f3, hq⟩
 have M3 := hid h3
 have F3 := hid (F2.out.trans f3)
 clear h3 f3 hq d0 d4 k0
 go_wp2_with fail
 exact bodyPost_end (results_none rfl _ _ _) rfl ⟨rfl, M3.out.toN HM.out, F3.out⟩
set_option maxHeartbeats 8000000 in
set_option maxRecDepth 100000 in
theorem cstm_print (hM : G.M = 24) {x line : Nat} {a : Nat} (h : Ck G w s zs k 0 0) (hx : G.ns[x]? = some ⟨14, line, 0, [], [a]⟩) (ha : CexOk G zs k ex a) :
  Calls Tryd.prog 49 #[.pointer (some ⟨G.g, 0, none⟩), .int .i64 x] w (StepK G zs k (stmC G.fs k ex bl x ⟨14, line, 0, [], [a]⟩ s) w) := by
 have M0 := hid (show CkM G w (.good s) zs k from h)
 obtain ⟨nb, nc, kv, hnv, hkv, hown, nlt, hx3, c0, x0, x1, x2, x3, x4⟩ := M0.out.node hx
 dsimp only at hown x0 x1 x2 x3 x4
 have hx4 : (G.ns.length : Int) ≤ 300 := by have := h.geo.few; omega
 have hx5 : x < G.ns.length := by omega
 have glt := h.g_lt
 have gn : ¬ G.g = w.heap.size := by omega
 have nn : ¬ nb = w.heap.size := by omega
 obtain ⟨kb, kc, rfl, hkc, hcell⟩ := kids_get hown (by simp)
 have hkc2 : 1 ≤ kc := by simp at hkc; omega
 have HK := hid (And.intro hx hkv)
 have HM := hid hM
 have C1 := hid (CkC.new M0.out 49 #[.int .i64 14, .int .i64 line, .int .i64 0, .string (bs []), .slice (some ⟨kb, 0, none⟩) 1 kc] (by decide))
 have F1 := hid (show FrK G w (w.alloc (.cells #[.int .i64 14, .int .i64 line, .int .i64 0, .string (bs []), .slice (some ⟨kb, 0, none⟩) 1 kc] 49)) from FrK.no ((Fr.refl nob w).alloc _))
 have HX5 := hid hx5
 clear h hx hkv hown hM hx5 hcell hkc
 have HA := hid ha
 clear ha
 go_enter Tryd.func49, Tryd.ntmps49
 go_wp2_with fail
 clear c0 x0 x1 x2 x3 x4 glt gn nlt nn
 generalize w.alloc (.cells #[.int .i64 14, .int .i64 line, .int .i64 0, .string (bs []), .slice (some ⟨kb, 0, none⟩) 1 kc] 49) = w1 at *
 generalize w.heap.size = C at *
 have K1 := hid (show Ck G w1 s zs k 0 0 from C1.out.m)
 obtain ⟨_, _, -, -, -, -, c4, -, c6, -⟩ := K1.out.cells
 obtain ⟨⟨u2, bf⟩, zf⟩ := K1.out.fn.cellj HX5.out
 obtain ⟨n1, n2, n3⟩ := K1.out.gne
 have D4 := hid c4
 have D6 := hid c6
 have e4 := hid ((World.cell?_setCell_other w1.drew ⟨G.bf, x, none⟩ ⟨G.g, 4, none⟩ (.int .i64 (k : Nat)) (by intro e; injection e with e; exact n3 e.symm)).trans c4)
 have e6 := hid ((World.cell?_setCell_other w1.drew ⟨G.bf, x, none⟩ ⟨G.g, 6, none⟩ (.int .i64 (k : Nat)) (by intro e; injection e with e; exact n3 e.symm)).trans c6)
 have S2 := hid (K1.out.setF x k)
 clear n1 n2 n3
 go_region_held3 (fun wx => wx.cell? ⟨G.g, 4, none⟩ = some (.slice (some ⟨G.bf, 0, none⟩) G.ns.length G.cf) ∧ wx.cell? ⟨G.g, 6, none⟩ = some (.int .i64 (k : Nat))) (first | exact ⟨D4.out, D6.out⟩ | exact ⟨e4.out, e6.out⟩) (first | fail)
 clear c4 c6 bf zf D4 D6 e4 e6
 have C2 := hid ((C1.out.to (show CkM G _ (.good { s with fn := s.fn.set x k }) zs k from S2.out.1) S2.out.2).no ((Fr.refl nob _).drew))
 have F2 := hid ((F1.out.trans S2.out.2).trans (FrK.no ((Fr.refl nob _).drew)))
 clear S2 K1 C1 F1 HX5
 generalize (w1.setCell ⟨G.bf, x, none⟩ (.int .i64 (k : Nat))).drew = w2 at *
 have d0 : w2.cell? ⟨C, 0, none⟩ = some (.int .i64 14) := by simpa using C2.out.b.cell 0
 have d4 : w2.cell? ⟨C, 4, none⟩ = some (.slice (some ⟨kb, 0, none⟩) 1 kc) := by simpa using C2.out.b.cell 4
 have k0 := C2.out.m.kid HK.out.1 HK.out.2 (j := 0) (a := a) rfl
 go_wp2_with fail
 refine (HA.out w2 _ C2.out.m).mono ?_
 rintro en w3 ⟨t, rfl, h3, f3, hq⟩
 have M3 := hid h3
 have F3 := hid (F2.out.trans f3)
 have HQ := hid hq
 clear h3 f3 hq d0 d4 k0
 obtain ⟨b, hbb⟩ : ∃ b, ((t : Int) != 4) = b := ⟨_, rfl⟩
 have HBB := hid hbb
 go_wp2_with fail
 refine (M3.out.must b x).mono ?_
 rintro en w4 ⟨rfl, h4, f4⟩
 have M4 := hid h4
 have F4 := hid (F3.out.trans f4)
 clear h4 f4
 go_wp2_with fail
 refine bodyPost_end (results_none rfl _ _ _) rfl ⟨rfl, ?_, F4.out⟩
 have h9 := M4.out.toN HM.out
 rw [CkR.bind_good] at h9
 have e9 := binC (q := ex a { s with fn := s.fn.set x k }) (x := x) (b := b) (P := fun (n : Nat) => n ≠ 4) (fun q hq => by
  rw [HQ.out q hq, ← HBB.out, Bool.eq_iff_iff]
  simp only [bne_iff_ne, decide_eq_true_eq]
  omega)
 rw [show stmC G.fs k ex bl x ⟨14, line, 0, [], [a]⟩ s = (ex a { s with fn := s.fn.set x k }).bind fun r => if r.1 ≠ 4 then CkR.good r.2 else .bad 42 x from rfl, ← e9]
 exact h9
set_option maxHeartbeats 8000000 in
set_option maxRecDepth 100000 in
theorem cstm_ret0 (hM : G.M = 24) {x line : Nat} (h : Ck G w s zs k 0 0) (hx : G.ns[x]? = some ⟨17, line, 0, [], []⟩) :
  Calls Tryd.prog 49 #[.pointer (some ⟨G.g, 0, none⟩), .int .i64 x] w (StepK G zs k (stmC G.fs k ex bl x ⟨17, line, 0, [], []⟩ s) w) := by
 have M0 := hid (show CkM G w (.good s) zs k from h)
 obtain ⟨nb, nc, kv, hnv, hkv, hown, nlt, hx3, c0, x0, x1, x2, x3, x4⟩ := M0.out.node hx
 dsimp only at hown x0 x1 x2 x3 x4
 have hx4 : (G.ns.length : Int) ≤ 300 := by have := h.geo.few; omega
 have hx5 : x < G.ns.length := by omega
 have glt := h.g_lt
 have gn : ¬ G.g = w.heap.size := by omega
 have nn : ¬ nb = w.heap.size := by omega
 obtain ⟨KA, KC, rfl, -, -⟩ := hown.cap
 have HK := hid (And.intro hx hkv)
 have HM := hid hM
 have C1 := hid (CkC.new M0.out 49 #[.int .i64 17, .int .i64 line, .int .i64 0, .string (bs []), .slice KA 0 KC] (by decide))
 have F1 := hid (show FrK G w (w.alloc (.cells #[.int .i64 17, .int .i64 line, .int .i64 0, .string (bs []), .slice KA 0 KC] 49)) from FrK.no ((Fr.refl nob w).alloc _))
 have HX5 := hid hx5
 clear h hx hkv hown hM hx5
 go_enter Tryd.func49, Tryd.ntmps49
 go_wp2_with fail
 clear c0 x0 x1 x2 x3 x4 glt gn nlt nn
 generalize w.alloc (.cells #[.int .i64 17, .int .i64 line, .int .i64 0, .string (bs []), .slice KA 0 KC] 49) = w1 at *
 generalize w.heap.size = C at *
 have K1 := hid (show Ck G w1 s zs k 0 0 from C1.out.m)
 obtain ⟨_, _, -, -, -, -, c4, -, c6, -⟩ := K1.out.cells
 obtain ⟨⟨u2, bf⟩, zf⟩ := K1.out.fn.cellj HX5.out
 obtain ⟨n1, n2, n3⟩ := K1.out.gne
 have D4 := hid c4
 have D6 := hid c6
 have e4 := hid ((World.cell?_setCell_other w1.drew ⟨G.bf, x, none⟩ ⟨G.g, 4, none⟩ (.int .i64 (k : Nat)) (by intro e; injection e with e; exact n3 e.symm)).trans c4)
 have e6 := hid ((World.cell?_setCell_other w1.drew ⟨G.bf, x, none⟩ ⟨G.g, 6, none⟩ (.int .i64 (k : Nat)) (by intro e; injection e with e; exact n3 e.symm)).trans c6)
 have S2 := hid (K1.out.setF x k)
 clear n1 n2 n3
 go_region_held3 (fun wx => wx.cell? ⟨G.g, 4, none⟩ = some (.slice (some ⟨G.bf, 0, none⟩) G.ns.length G.cf) ∧ wx.cell? ⟨G.g, 6, none⟩ = some (.int .i64 (k : Nat))) (first | exact ⟨D4.out, D6.out⟩ | exact ⟨e4.out, e6.out⟩) (first | fail)
 clear c4 c6 bf zf D4 D6 e4 e6
 have C2 := hid ((C1.out.to (show CkM G _ (.good { s with fn := s.fn.set x k }) zs k from S2.out.1) S2.out.2).no ((Fr.refl nob _).drew))
 have F2 := hid ((F1.out.trans S2.out.2).trans (FrK.no ((Fr.refl nob _).drew)))
 clear S2 K1 C1 F1 HX5
 generalize (w1.setCell ⟨G.bf, x, none⟩ (.int .i64 (k : Nat))).drew = w2 at *
 have d0 : w2.cell? ⟨C, 0, none⟩ = some (.int .i64 17) := by simpa using C2.out.b.cell 0
 go_wp2_with fail
 refine (cret0_any (ex := ex) HM.out (show Ck G w2 { s with fn := s.fn.set x k } zs k 0 0 from C2.out.m) HK.out.1).mono ?_
 rintro en w3 ⟨rfl, h3, f3⟩
 have N3 := hid h3
 have F3 := hid (F2.out.trans f3)
 clear h3 f3 d0
 go_wp2_with fail
 exact bodyPost_end (results_none rfl _ _ _) rfl ⟨rfl, N3.out, F3.out⟩
set_option maxHeartbeats 8000000 in
set_option maxRecDepth 100000 in
theorem cstm_ret1 (hM : G.M = 24) {x line : Nat} {a : Nat} (h : Ck G w s zs k 0 0) (hx : G.ns[x]? = some ⟨17, line, 0, [], [a]⟩) (ha : CexOk G zs k ex a) :
  Calls Tryd.prog 49 #[.pointer (some ⟨G.g, 0, none⟩), .int .i64 x] w (StepK G zs k (stmC G.fs k ex bl x ⟨17, line, 0, [], [a]⟩ s) w) := by
 have M0 := hid (show CkM G w (.good s) zs k from h)
 obtain ⟨nb, nc, kv, hnv, hkv, hown, nlt, hx3, c0, x0, x1, x2, x3, x4⟩ := M0.out.node hx
 dsimp only at hown x0 x1 x2 x3 x4
 have hx4 : (G.ns.length : Int) ≤ 300 := by have := h.geo.few; omega
 have hx5 : x < G.ns.length := by omega
 have glt := h.g_lt
 have gn : ¬ G.g = w.heap.size := by omega
 have nn : ¬ nb = w.heap.size := by omega
 obtain ⟨kb, kc, rfl, hkc, hcell⟩ := kids_get hown (by simp)
 have hkc2 : 1 ≤ kc := by simp at hkc; omega
 have HK := hid (And.intro hx hkv)
 have HM := hid hM
 have C1 := hid (CkC.new M0.out 49 #[.int .i64 17, .int .i64 line, .int .i64 0, .string (bs []), .slice (some ⟨kb, 0, none⟩) 1 kc] (by decide))
 have F1 := hid (show FrK G w (w.alloc (.cells #[.int .i64 17, .int .i64 line, .int .i64 0, .string (bs []), .slice (some ⟨kb, 0, none⟩) 1 kc] 49)) from FrK.no ((Fr.refl nob w).alloc _))
 have HX5 := hid hx5
 clear h hx hkv hown hM hx5 hcell hkc
 have HA := hid ha
 clear ha
 go_enter Tryd.func49, Tryd.ntmps49
 go_wp2_with fail
 clear c0 x0 x1 x2 x3 x4 glt gn nlt nn
 generalize w.alloc (.cells #[.int .i64 17, .int .i64 line, .int .i64 0, .string (bs []), .slice (some ⟨kb, 0, none⟩) 1 kc] 49) = w1 at *
 generalize w.heap.size = C at *
 have K1 := hid (show Ck G w1 s zs k 0 0 from C1.out.m)
 obtain ⟨_, _, -, -, -, -, c4, -, c6, -⟩ := K1.out.cells
 obtain ⟨⟨u2, bf⟩, zf⟩ := K1.out.fn.cellj HX5.out
 obtain ⟨n1, n2, n3⟩ := K1.out.gne
 have D4 := hid c4
 have D6 := hid c6
 have e4 := hid ((World.cell?_setCell_other w1.drew ⟨G.bf, x, none⟩ ⟨G.g, 4, none⟩ (.int .i64 (k : Nat)) (by intro e; injection e with e; exact n3 e.symm)).trans c4)
 have e6 := hid ((World.cell?_setCell_other w1.drew ⟨G.bf, x, none⟩ ⟨G.g, 6, none⟩ (.int .i64 (k : Nat)) (by intro e; injection e with e; exact n3 e.symm)).trans c6)
 have S2 := hid (K1.out.setF x k)
 clear n1 n2 n3
 go_region_held3 (fun wx => wx.cell? ⟨G.g, 4, none⟩ = some (.slice (some ⟨G.bf, 0, none⟩) G.ns.length G.cf) ∧ wx.cell? ⟨G.g, 6, none⟩ = some (.int .i64 (k : Nat))) (first | exact ⟨D4.out, D6.out⟩ | exact ⟨e4.out, e6.out⟩) (first | fail)
 clear c4 c6 bf zf D4 D6 e4 e6
 have C2 := hid ((C1.out.to (show CkM G _ (.good { s with fn := s.fn.set x k }) zs k from S2.out.1) S2.out.2).no ((Fr.refl nob _).drew))
 have F2 := hid ((F1.out.trans S2.out.2).trans (FrK.no ((Fr.refl nob _).drew)))
 clear S2 K1 C1 F1 HX5
 generalize (w1.setCell ⟨G.bf, x, none⟩ (.int .i64 (k : Nat))).drew = w2 at *
 have d0 : w2.cell? ⟨C, 0, none⟩ = some (.int .i64 17) := by simpa using C2.out.b.cell 0
 go_wp2_with fail
 refine (cret1_any HM.out (show Ck G w2 { s with fn := s.fn.set x k } zs k 0 0 from C2.out.m) HK.out.1 HA.out).mono ?_
 rintro en w3 ⟨rfl, h3, f3⟩
 have N3 := hid h3
 have F3 := hid (F2.out.trans f3)
 clear h3 f3 d0
 go_wp2_with fail
 exact bodyPost_end (results_none rfl _ _ _) rfl ⟨rfl, N3.out, F3.out⟩
set_option maxHeartbeats 8000000 in
set_option maxRecDepth 100000 in
theorem cstm_set (hM : G.M = 24) {x line : Nat} {a : Nat} {nm : List UInt8} (h : Ck G w s zs k 0 0) (hx : G.ns[x]? = some ⟨11, line, 0, nm, [a]⟩) (ha : CexOk G zs k ex a) :
  Calls Tryd.prog 49 #[.pointer (some ⟨G.g, 0, none⟩), .int .i64 x] w (StepK G zs k (stmC G.fs k ex bl x ⟨11, line, 0, nm, [a]⟩ s) w) := by
 have M0 := hid (show CkM G w (.good s) zs k from h)
 obtain ⟨nb, nc, kv, hnv, hkv, hown, nlt, hx3, c0, x0, x1, x2, x3, x4⟩ := M0.out.node hx
 dsimp only at hown x0 x1 x2 x3 x4
 have hx4 : (G.ns.length : Int) ≤ 300 := by have := h.geo.few; omega
 have hx5 : x < G.ns.length := by omega
 have glt := h.g_lt
 have gn : ¬ G.g = w.heap.size := by omega
 have nn : ¬ nb = w.heap.size := by omega
 obtain ⟨kb, kc, rfl, hkc, hcell⟩ := kids_get hown (by simp)
 have hkc2 : 1 ≤ kc := by simp at hkc; omega
 have HK := hid (And.intro hx hkv)
 have HM := hid hM
 have C1 := hid (CkC.new M0.out 49 #[.int .i64 11, .int .i64 line, .int .i64 0, .string (bs nm), .slice (some ⟨kb, 0, none⟩) 1 kc] (by decide))
 have F1 := hid (show FrK G w (w.alloc (.cells #[.int .i64 11, .int .i64 line, .int .i64 0, .string (bs nm), .slice (some ⟨kb, 0, none⟩) 1 kc] 49)) from FrK.no ((Fr.refl nob w).alloc _))
 have HX5 := hid hx5
 clear h hx hkv hown hM hx5 hcell hkc
 have HA := hid ha
 clear ha
 go_enter Tryd.func49, Tryd.ntmps49
 go_wp2_with fail
 clear c0 x0 x1 x2 x3 x4 glt gn nlt nn
 generalize w.alloc (.cells #[.int .i64 11, .int .i64 line, .int .i64 0, .string (bs nm), .slice (some ⟨kb, 0, none⟩) 1 kc] 49) = w1 at *
 generalize w.heap.size = C at *
 have K1 := hid (show Ck G w1 s zs k 0 0 from C1.out.m)
 obtain ⟨_, _, -, -, -, -, c4, -, c6, -⟩ := K1.out.cells
 obtain ⟨⟨u2, bf⟩, zf⟩ := K1.out.fn.cellj HX5.out
 obtain ⟨n1, n2, n3⟩ := K1.out.gne
 have D4 := hid c4
 have D6 := hid c6
 have e4 := hid ((World.cell?_setCell_other w1.drew ⟨G.bf, x, none⟩ ⟨G.g, 4, none⟩ (.int .i64 (k : Nat)) (by intro e; injection e with e; exact n3 e.symm)).trans c4)
 have e6 := hid ((World.cell?_setCell_other w1.drew ⟨G.bf, x, none⟩ ⟨G.g, 6, none⟩ (.int .i64 (k : Nat)) (by intro e; injection e with e; exact n3 e.symm)).trans c6)
 have S2 := hid (K1.out.setF x k)
 clear n1 n2 n3
 go_region_held3 (fun wx => wx.cell? ⟨G.g, 4, none⟩ = some (.slice (some ⟨G.bf, 0, none⟩) G.ns.length G.cf) ∧ wx.cell? ⟨G.g, 6, none⟩ = some (.int .i64 (k : Nat))) (first | exact ⟨D4.out, D6.out⟩ | exact ⟨e4.out, e6.out⟩) (first | fail)
 clear c4 c6 bf zf D4 D6 e4 e6
 have C2 := hid ((C1.out.to (show CkM G _ (.good { s with fn := s.fn.set x k }) zs k from S2.out.1) S2.out.2).no ((Fr.refl nob _).drew))
 have F2 := hid ((F1.out.trans S2.out.2).trans (FrK.no ((Fr.refl nob _).drew)))
 clear S2 K1 C1 F1 HX5
 generalize (w1.setCell ⟨G.bf, x, none⟩ (.int .i64 (k : Nat))).drew = w2 at *
 have d0 : w2.cell? ⟨C, 0, none⟩ = some (.int .i64 11) := by simpa using C2.out.b.cell 0
 go_wp2_with fail
 refine (cnamed_any (show Ck G w2 { s with fn := s.fn.set x k } zs k 0 0 from C2.out.m) HK.out.1).mono ?_
 rintro en w3 ⟨t, rfl, h3, f3, hq⟩
 have C3 := hid (C2.out.to h3 f3)
 have F3 := hid (F2.out.trans f3)
 have HQ := hid hq
 clear h3 f3 hq d0
 have d4 : w3.cell? ⟨C, 4, none⟩ = some (.slice (some ⟨kb, 0, none⟩) 1 kc) := by simpa using C3.out.b.cell 4
 have k0 := C3.out.m.kid HK.out.1 HK.out.2 (j := 0) (a := a) rfl
 go_wp2_with fail
 refine (HA.out w3 _ C3.out.m).mono ?_
 rintro en w4 ⟨u, rfl, h4, f4, hq⟩
 have M4 := hid h4
 have F4 := hid (F3.out.trans f4)
 have HU := hid hq
 clear h4 f4 hq d4 k0
 obtain ⟨b, hbb⟩ : ∃ b, ((t : Int) == (u : Int)) = b := ⟨_, rfl⟩
 have HBB := hid hbb
 go_wp2_with fail
 refine (M4.out.must b x).mono ?_
 rintro en w5 ⟨rfl, h5, f5⟩
 have M5 := hid h5
 have F5 := hid (F4.out.trans f5)
 clear h5 f5
 go_wp2_with fail
 refine bodyPost_end (results_none rfl _ _ _) rfl ⟨rfl, ?_, F5.out⟩
 have h9 := M5.out.toN HM.out
 have e8 : (((namedC x nm { s with fn := s.fn.set x k }).map (·.2)).bind (ex a)).map (·.2) = ((namedC x nm { s with fn := s.fn.set x k }).bind fun t => (ex a t.2).map fun r => ((t.1, r.1), r.2)).map (·.2) := by
  cases namedC x nm { s with fn := s.fn.set x k } with
  | bad e p => rfl
  | good q =>
   simp only [CkR.bind_good, CkR.map_good]
   cases ex a q.2 <;> rfl
 have e9 := binC (q := ((namedC x nm { s with fn := s.fn.set x k }).bind fun t => (ex a t.2).map fun r => ((t.1, r.1), r.2))) (x := x) (b := b) (P := fun (n : Nat × Nat) => n.1 = n.2) (fun q hq => by
  obtain ⟨c, hc, hq⟩ := CkR.bind_eq hq
  obtain ⟨d, hd, hq⟩ := CkR.map_eq hq
  subst hq
  have h1 := HQ.out c hc
  have h2 := HU.out d (by rw [show namedC x (⟨11, line, 0, nm, [a]⟩ : NodeM).name _ = namedC x nm _ from rfl, hc]; exact hd)
  rw [← HBB.out, Bool.eq_iff_iff]
  show _ ↔ decide (c.1 = d.1) = true
  rw [h1, h2]
  simp only [beq_iff_eq, decide_eq_true_eq]
  omega)
 have e7 : stmC G.fs k ex bl x ⟨11, line, 0, nm, [a]⟩ s = ((namedC x nm { s with fn := s.fn.set x k }).bind fun t => (ex a t.2).map fun r => ((t.1, r.1), r.2)).bind fun r => if r.1.1 = r.1.2 then CkR.good r.2 else .bad 42 x := by
  show ((namedC x nm { s with fn := s.fn.set x k }).bind fun t => (ex a t.2).bind fun r => if t.1 = r.1 then CkR.good r.2 else .bad 42 x) = _
  cases namedC x nm { s with fn := s.fn.set x k } with
  | bad e p => rfl
  | good q =>
   simp only [CkR.bind_good]
   cases ex a q.2 <;> rfl
 rw [e7, ← e9, ← e8]
 exact h9
set_option maxHeartbeats 8000000 in
set_option maxRecDepth 100000 in
theorem cstm_put (hM : G.M = 24) {x line : Nat} {a c : Nat} {nm : List UInt8} (h : Ck G w s zs k 0 0) (hx : G.ns[x]? = some ⟨12, line, 0, nm, [a, c]⟩) (ha : CexOk G zs k ex a) (hc : CexOk G zs k ex c) :
  Calls Tryd.prog 49 #[.pointer (some ⟨G.g, 0, none⟩), .int .i64 x] w (StepK G zs k (stmC G.fs k ex bl x ⟨12, line, 0, nm, [a, c]⟩ s) w) := by
 have M0 := hid (show CkM G w (.good s) zs k from h)
 obtain ⟨nb, nc, kv, hnv, hkv, hown, nlt, hx3, c0, x0, x1, x2, x3, x4⟩ := M0.out.node hx
 dsimp only at hown x0 x1 x2 x3 x4
 have hx4 : (G.ns.length : Int) ≤ 300 := by have := h.geo.few; omega
 have hx5 : x < G.ns.length := by omega
 have glt := h.g_lt
 have gn : ¬ G.g = w.heap.size := by omega
 have nn : ¬ nb = w.heap.size := by omega
 obtain ⟨kb, kc, rfl, hkc, hcell⟩ := kids_get hown (by simp)
 have hkc2 : 2 ≤ kc := by simp at hkc; omega
 have HK := hid (And.intro hx hkv)
 have HM := hid hM
 have C1 := hid (CkC.new M0.out 49 #[.int .i64 12, .int .i64 line, .int .i64 0, .string (bs nm), .slice (some ⟨kb, 0, none⟩) 2 kc] (by decide))
 have F1 := hid (show FrK G w (w.alloc (.cells #[.int .i64 12, .int .i64 line, .int .i64 0, .string (bs nm), .slice (some ⟨kb, 0, none⟩) 2 kc] 49)) from FrK.no ((Fr.refl nob w).alloc _))
 have HX5 := hid hx5
 clear h hx hkv hown hM hx5 hcell hkc
 have HA := hid ha
 have HCX := hid hc
 clear ha hc
 go_enter Tryd.func49, Tryd.ntmps49
 go_wp2_with fail
 clear c0 x0 x1 x2 x3 x4 glt gn nlt nn
 generalize w.alloc (.cells #[.int .i64 12, .int .i64 line, .int .i64 0, .string (bs nm), .slice (some ⟨kb, 0, none⟩) 2 kc] 49) = w1 at *
 generalize w.heap.size = C at *
 have K1 := hid (show Ck G w1 s zs k 0 0 from C1.out.m)
 obtain ⟨_, _, -, -, -, -, c4, -, c6, -⟩ := K1.out.cells
 obtain ⟨⟨u2, bf⟩, zf⟩ := K1.out.fn.cellj HX5.out
 obtain ⟨n1, n2, n3⟩ := K1.out.gne
 have D4 := hid c4
 have D6 := hid c6
 have e4 := hid ((World.cell?_setCell_other w1.drew ⟨G.bf, x, none⟩ ⟨G.g, 4, none⟩ (.int .i64 (k : Nat)) (by intro e; injection e with e; exact n3 e.symm)).trans c4)
 have e6 := hid ((World.cell?_setCell_other w1.drew ⟨G.bf, x, none⟩ ⟨G.g, 6, none⟩ (.int .i64 (k : Nat)) (by intro e; injection e with e; exact n3 e.symm)).trans c6)
 have S2 := hid (K1.out.setF x k)
 clear n1 n2 n3
 go_region_held3 (fun wx => wx.cell? ⟨G.g, 4, none⟩ = some (.slice (some ⟨G.bf, 0, none⟩) G.ns.length G.cf) ∧ wx.cell? ⟨G.g, 6, none⟩ = some (.int .i64 (k : Nat))) (first | exact ⟨D4.out, D6.out⟩ | exact ⟨e4.out, e6.out⟩) (first | fail)
 clear c4 c6 bf zf D4 D6 e4 e6
 have C2 := hid ((C1.out.to (show CkM G _ (.good { s with fn := s.fn.set x k }) zs k from S2.out.1) S2.out.2).no ((Fr.refl nob _).drew))
 have F2 := hid ((F1.out.trans S2.out.2).trans (FrK.no ((Fr.refl nob _).drew)))
 clear S2 K1 C1 F1 HX5
 generalize (w1.setCell ⟨G.bf, x, none⟩ (.int .i64 (k : Nat))).drew = w2 at *
 have d0 : w2.cell? ⟨C, 0, none⟩ = some (.int .i64 12) := by simpa using C2.out.b.cell 0
 go_wp2_with fail
 refine (cnamed_any (show Ck G w2 { s with fn := s.fn.set x k } zs k 0 0 from C2.out.m) HK.out.1).mono ?_
 rintro en w3 ⟨t, rfl, h3, f3, hq⟩
 have C3 := hid (C2.out.to h3 f3)
 have F3 := hid (F2.out.trans f3)
 have HQ := hid hq
 clear h3 f3 hq d0
 have d4 : w3.cell? ⟨C, 4, none⟩ = some (.slice (some ⟨kb, 0, none⟩) 2 kc) := by simpa using C3.out.b.cell 4
 have k0 := C3.out.m.kid HK.out.1 HK.out.2 (j := 0) (a := a) rfl
 go_wp2_with fail
 refine (HA.out w3 _ C3.out.m).mono ?_
 rintro en w4 ⟨u, rfl, h4, f4, hq⟩
 have C4 := hid (C3.out.to h4 f4)
 have F4 := hid (F3.out.trans f4)
 have HU := hid hq
 clear h4 f4 hq d4 k0
 have d4 : w4.cell? ⟨C, 4, none⟩ = some (.slice (some ⟨kb, 0, none⟩) 2 kc) := by simpa using C4.out.b.cell 4
 have k1 := C4.out.m.kid HK.out.1 HK.out.2 (j := 1) (a := c) rfl
 go_wp2_with fail
 refine (HCX.out w4 _ C4.out.m).mono ?_
 rintro en w5 ⟨v, rfl, h5, f5, hq⟩
 have M5 := hid h5
 have F5 := hid (F4.out.trans f5)
 have HV := hid hq
 clear h5 f5 hq d4 k1
 obtain ⟨b4, hb4⟩ : ∃ b, ((t : Int) == 4) = b := ⟨_, rfl⟩
 obtain ⟨b1, hb1⟩ : ∃ b, ((u : Int) == 1) = b := ⟨_, rfl⟩
 obtain ⟨b2, hb2⟩ : ∃ b, ((v : Int) == 1) = b := ⟨_, rfl⟩
 have e8 := hid (show (((((namedC x nm { s with fn := s.fn.set x k }).map (·.2)).bind (ex a)).map (·.2)).bind (ex c)).map (·.2) = ((namedC x nm { s with fn := s.fn.set x k }).bind fun t => (ex a t.2).bind fun r => (ex c r.2).map fun q => ((t.1, r.1, q.1), q.2)).map (·.2) from by
  cases namedC x nm { s with fn := s.fn.set x k } with
  | bad e p => rfl
  | good q =>
   simp only [CkR.bind_good, CkR.map_good]
   cases ex a q.2 with
   | bad e p => rfl
   | good r =>
    simp only [CkR.bind_good, CkR.map_good]
    cases ex c r.2 <;> rfl)
 have e7 := hid (show stmC G.fs k ex bl x ⟨12, line, 0, nm, [a, c]⟩ s = ((namedC x nm { s with fn := s.fn.set x k }).bind fun t => (ex a t.2).bind fun r => (ex c r.2).map fun q => ((t.1, r.1, q.1), q.2)).bind fun r => if r.1.1 = 4 ∧ r.1.2.1 = 1 ∧ r.1.2.2 = 1 then CkR.good r.2 else .bad 42 x from by
  show ((namedC x nm { s with fn := s.fn.set x k }).bind fun t => (ex a t.2).bind fun r => (ex c r.2).bind fun q => if t.1 = 4 ∧ r.1 = 1 ∧ q.1 = 1 then CkR.good q.2 else .bad 42 x) = _
  cases namedC x nm { s with fn := s.fn.set x k } with
  | bad e p => rfl
  | good q =>
   simp only [CkR.bind_good]
   cases ex a q.2 with
   | bad e p => rfl
   | good r =>
    simp only [CkR.bind_good]
    cases ex c r.2 <;> rfl)
 have HP := hid (show ∀ q, ((namedC x nm { s with fn := s.fn.set x k }).bind fun t => (ex a t.2).bind fun r => (ex c r.2).map fun q => ((t.1, r.1, q.1), q.2)) = .good q → (b4 && b1 && b2) = decide (q.1.1 = 4 ∧ q.1.2.1 = 1 ∧ q.1.2.2 = 1) from by
  intro q hq
  obtain ⟨c1, hc1, hq⟩ := CkR.bind_eq hq
  obtain ⟨d1, hd1, hq⟩ := CkR.bind_eq hq
  obtain ⟨g1, hg1, hq⟩ := CkR.map_eq hq
  subst hq
  have h1 := HQ.out c1 hc1
  have h2 := HU.out d1 (by rw [show namedC x (⟨12, line, 0, nm, [a, c]⟩ : NodeM).name _ = namedC x nm _ from rfl, hc1]; exact hd1)
  have h3 := HV.out g1 (by rw [show namedC x (⟨12, line, 0, nm, [a, c]⟩ : NodeM).name _ = namedC x nm _ from rfl, hc1, CkR.map_good, CkR.bind_good, hd1]; exact hg1)
  show _ = decide (c1.1 = 4 ∧ d1.1 = 1 ∧ g1.1 = 1)
  rw [h1, h2, h3, ← hb4, ← hb1, ← hb2, Bool.eq_iff_iff]
  simp only [Bool.and_eq_true, beq_iff_eq, decide_eq_true_eq]
  omega)
 cases b4 <;> cases b1 <;> cases b2
 all_goals
  go_wp2_with fail
  refine (M5.out.must _ x).mono ?_
  rintro en w6 ⟨rfl, h6, f6⟩
  have M6 := hid h6
  have F6 := hid (F5.out.trans f6)
  clear h6 f6
  go_wp2_with fail
  refine bodyPost_end (results_none rfl _ _ _) rfl ⟨rfl, ?_, F6.out⟩
  have h9 := M6.out.toN HM.out
  have e9 := binC (q := ((namedC x nm { s with fn := s.fn.set x k }).bind fun t => (ex a t.2).bind fun r => (ex c r.2).map fun q => ((t.1, r.1, q.1), q.2))) (x := x) (P := fun (n : Nat × Nat × Nat) => n.1 = 4 ∧ n.2.1 = 1 ∧ n.2.2 = 1) (fun q hq => HP.out q hq)
  rw [show namedC x (⟨12, line, 0, nm, [a, c]⟩ : NodeM).name _ = namedC x nm _ from rfl, e8.out] at h9
  simp only [Bool.or_false, Bool.or_true, Bool.false_or, Bool.true_or, Bool.and_true, Bool.and_false, Bool.false_and, Bool.true_and, Bool.false_eq_true, if_true, if_false, eq_self, ite_true, ite_false] at e9 h9
  rw [e9] at h9
  rw [e7.out]; exact h9
set_option maxHeartbeats 8000000 in
set_option maxRecDepth 100000 in
theorem cstm_if2 (hM : G.M = 24) {x line : Nat} {a c : Nat} (h : Ck G w s zs k 0 0) (hx : G.ns[x]? = some ⟨15, line, 0, [], [a, c]⟩) (ha : CexOk G zs k ex a) (hb : ∀ y ∈ [c], CblOk G zs k bl y) :
  Calls Tryd.prog 49 #[.pointer (some ⟨G.g, 0, none⟩), .int .i64 x] w (StepK G zs k (stmC G.fs k ex bl x ⟨15, line, 0, [], [a, c]⟩ s) w) := by
 have M0 := hid (show CkM G w (.good s) zs k from h)
 obtain ⟨nb, nc, kv, hnv, hkv, hown, nlt, hx3, c0, x0, x1, x2, x3, x4⟩ := M0.out.node hx
 dsimp only at hown x0 x1 x2 x3 x4
 have hx4 : (G.ns.length : Int) ≤ 300 := by have := h.geo.few; omega
 have hx5 : x < G.ns.length := by omega
 have glt := h.g_lt
 have gn : ¬ G.g = w.heap.size := by omega
 have nn : ¬ nb = w.heap.size := by omega
 obtain ⟨kb, kc, rfl, hkc, hcell⟩ := kids_get hown (by simp)
 have hkc2 : 2 ≤ kc := by simp at hkc; omega
 have HK := hid (And.intro hx hkv)
 have HM := hid hM
 have C1 := hid (CkC.new M0.out 49 #[.int .i64 15, .int .i64 line, .int .i64 0, .string (bs []), .slice (some ⟨kb, 0, none⟩) 2 kc] (by decide))
 have F1 := hid (show FrK G w (w.alloc (.cells #[.int .i64 15, .int .i64 line, .int .i64 0, .string (bs []), .slice (some ⟨kb, 0, none⟩) 2 kc] 49)) from FrK.no ((Fr.refl nob w).alloc _))
 have HX5 := hid hx5
 clear h hx hkv hown hM hx5 hcell hkc
 have HA := hid ha
 have HB := hid hb
 clear ha hb
 go_enter Tryd.func49, Tryd.ntmps49
 go_wp2_with fail
 clear c0 x0 x1 x2 x3 x4 glt gn nlt nn
 generalize w.alloc (.cells #[.int .i64 15, .int .i64 line, .int .i64 0, .string (bs []), .slice (some ⟨kb, 0, none⟩) 2 kc] 49) = w1 at *
 generalize w.heap.size = C at *
 have K1 := hid (show Ck G w1 s zs k 0 0 from C1.out.m)
 obtain ⟨_, _, -, -, -, -, c4, -, c6, -⟩ := K1.out.cells
 obtain ⟨⟨u2, bf⟩, zf⟩ := K1.out.fn.cellj HX5.out
 obtain ⟨n1, n2, n3⟩ := K1.out.gne
 have D4 := hid c4
 have D6 := hid c6
 have e4 := hid ((World.cell?_setCell_other w1.drew ⟨G.bf, x, none⟩ ⟨G.g, 4, none⟩ (.int .i64 (k : Nat)) (by intro e; injection e with e; exact n3 e.symm)).trans c4)
 have e6 := hid ((World.cell?_setCell_other w1.drew ⟨G.bf, x, none⟩ ⟨G.g, 6, none⟩ (.int .i64 (k : Nat)) (by intro e; injection e with e; exact n3 e.symm)).trans c6)
 have S2 := hid (K1.out.setF x k)
 clear n1 n2 n3
 go_region_held3 (fun wx => wx.cell? ⟨G.g, 4, none⟩ = some (.slice (some ⟨G.bf, 0, none⟩) G.ns.length G.cf) ∧ wx.cell? ⟨G.g, 6, none⟩ = some (.int .i64 (k : Nat))) (first | exact ⟨D4.out, D6.out⟩ | exact ⟨e4.out, e6.out⟩) (first | fail)
 clear c4 c6 bf zf D4 D6 e4 e6
 have C2 := hid ((C1.out.to (show CkM G _ (.good { s with fn := s.fn.set x k }) zs k from S2.out.1) S2.out.2).no ((Fr.refl nob _).drew))
 have F2 := hid ((F1.out.trans S2.out.2).trans (FrK.no ((Fr.refl nob _).drew)))
 clear S2 K1 C1 F1 HX5
 generalize (w1.setCell ⟨G.bf, x, none⟩ (.int .i64 (k : Nat))).drew = w2 at *
 have d0 : w2.cell? ⟨C, 0, none⟩ = some (.int .i64 15) := by simpa using C2.out.b.cell 0
 have d4 : w2.cell? ⟨C, 4, none⟩ = some (.slice (some ⟨kb, 0, none⟩) 2 kc) := by simpa using C2.out.b.cell 4
 have k0 := C2.out.m.kid HK.out.1 HK.out.2 (j := 0) (a := a) rfl
 go_wp2_with fail
 refine (HA.out w2 _ C2.out.m).mono ?_
 rintro en w3 ⟨t, rfl, h3, f3, hq⟩
 have C3 := hid (C2.out.to h3 f3)
 have F3 := hid (F2.out.trans f3)
 have HQ := hid hq
 clear h3 f3 hq d0 d4 k0
 obtain ⟨b, hbb⟩ : ∃ b, ((t : Int) == 2) = b := ⟨_, rfl⟩
 have HBB := hid hbb
 go_wp2_with fail
 refine (C3.out.m.must b x).mono ?_
 rintro en w4 ⟨rfl, h4, f4⟩
 have E := hid (show stmC G.fs k ex bl x ⟨15, line, 0, [], [a, c]⟩ s = ((ex a { s with fn := s.fn.set x k }).bind fun r => if r.1 = 2 then CkR.good r.2 else .bad 42 x).bind (seqC bl [c]) from by
  show ((ex a { s with fn := s.fn.set x k }).bind fun r => if r.1 = 2 then seqC bl [c] r.2 else .bad 42 x) = _
  cases ex a { s with fn := s.fn.set x k } with
  | bad e p => rfl
  | good u =>
    simp only [CkR.bind_good]
    split <;> rfl)
 have N4 := hid (show CkN G w4 (((ex a { s with fn := s.fn.set x k }).bind fun r => if r.1 = 2 then CkR.good r.2 else .bad 42 x).bind (seqC bl ([c].take 0))) zs k from by
  have h9 := h4.toN HM.out
  rw [CkR.bind_good] at h9
  have e9 := binC (q := ex a { s with fn := s.fn.set x k }) (x := x) (b := b) (P := fun (n : Nat) => n = 2) (fun q hq => by
    rw [HQ.out q hq, ← HBB.out, Bool.eq_iff_iff]
    simp only [beq_iff_eq, decide_eq_true_eq]
    omega)
  rw [e9] at h9
  have e6 : ((ex a { s with fn := s.fn.set x k }).bind fun r => if r.1 = 2 then CkR.good r.2 else .bad 42 x).bind (seqC bl ([c].take 0)) = ((ex a { s with fn := s.fn.set x k }).bind fun r => if r.1 = 2 then CkR.good r.2 else .bad 42 x) := by cases ((ex a { s with fn := s.fn.set x k }).bind fun r => if r.1 = 2 then CkR.good r.2 else .bad 42 x) <;> rfl
  rw [e6]; exact h9)
 have B4 := hid (f4.far C3.out.b C3.out.n0 C3.out.n1 C3.out.n2 C3.out.n3 (by decide))
 have F4 := hid (F3.out.trans f4)
 have NN := hid (And.intro (And.intro C3.out.n0 C3.out.n1) (And.intro C3.out.n2 C3.out.n3))
 clear h4 f4
 generalize ((ex a { s with fn := s.fn.set x k }).bind fun r => if r.1 = 2 then CkR.good r.2 else .bad 42 x) = R at *
 go_wp2_with fail
 go_loopw [12] (fun i wr => ∃ j : Nat, 1 ≤ j ∧ j ≤ 2 ∧ i = .int .i64 j ∧ Hid (CkN G wr (R.bind (seqC bl ([c].take (j - 1)))) zs k) ∧ Hid (Blk wr C 49 #[.int .i64 15, .int .i64 line, .int .i64 0, .string (bs []), .slice (some ⟨kb, 0, none⟩) 2 kc]) ∧ Hid (FrK G w wr)) (fun i _ => 2 - (intOf i).toNat)
 case atStart => exact ⟨1, by decide, by decide, rfl, N4, B4, F4⟩
 case round =>
  clear N4 B4 F4
  obtain ⟨j, hj1, hj, rfl, N, B, FR⟩ := hrel
  have d4 : wr.cell? ⟨C, 4, none⟩ = some (.slice (some ⟨kb, 0, none⟩) 2 kc) := by simpa using B.out.cell 4
  obtain ⟨s5, e5, p5, hck, hm⟩ := N.out.open_ HM.out
  obtain ⟨_, _, -, -, -, -, -, -, -, -, -, c9, -⟩ := hck.cells
  have c9 : wr.cell? ⟨G.g, 9, none⟩ = some (.int .i64 (e5 : Nat)) := c9
  by_cases hgo : j < 2 ∧ e5 = 0
  · obtain ⟨hlt, rfl⟩ := hgo
    have hlt2 : (j : Int) < 2 := by omega
    rcases hm with ⟨_, rfl, hm⟩ | ⟨h0, _⟩
    case inr => exact absurd rfl h0
    have NG := hid (show Ck G wr s5 zs k 0 0 from by have h9 := N.out; rw [hm] at h9; exact h9)
    obtain ⟨y, hy⟩ : ∃ y, [a, c][j]? = some y := ⟨_, List.getElem?_eq_getElem (by simpa using hlt)⟩
    have hy1 : [c][j - 1]? = some y := by
      have e1 : [a, c][j - 1 + 1]? = some y := by rw [show j - 1 + 1 = j by omega]; exact hy
      simpa using e1
    have kj := (show CkM G wr (.good s5) zs k from NG.out).kid HK.out.1 HK.out.2 (j := j) (a := y) hy
    have HS := hid (show R.bind (seqC bl ([c].take (j + 1 - 1))) = bl y s5 from by
      have e1 : [c].take (j + 1 - 1) = [c].take (j - 1) ++ [y] := by rw [show j + 1 - 1 = j - 1 + 1 by omega, List.take_add_one, hy1]; rfl
      rw [e1]
      cases R with
      | bad e p => cases hm
      | good u =>
        have hm : seqC bl ([c].take (j - 1)) u = .good s5 := hm
        show seqC bl ([c].take (j - 1) ++ [y]) u = _
        rw [seqC_snoc, hm]; rfl)
    have HY := hid (HB.out y (List.mem_of_getElem? hy1))
    have HJ := hid hlt
    have klt := World.block_lt_of_cell? _ _ kj
    clear hck hm hy hy1 hlt
    go_wp2_with fail
    refine (HY.out wr s5 NG.out).mono ?_
    rintro en w6 ⟨rfl, h6, f6⟩
    have N6 := hid h6
    have F6 := hid (FR.out.trans f6)
    have B6 := hid (f6.far B.out NN.out.1.1 NN.out.1.2 NN.out.2.1 NN.out.2.2 (by decide))
    clear h6 f6 d4 kj c9 klt
    go_wp2_with fail
    go_roundw
    case rel => exact ⟨j + 1, by omega, by have := HJ.out; omega, by go_num, hid (by rw [HS.out]; exact N6.out), B6, F6⟩
    case measure => simp [intOf]; have := HJ.out; omega
  · have HF := hid (show CkN G wr (stmC G.fs k ex bl x ⟨15, line, 0, [], [a, c]⟩ s) zs k from by
      rw [E.out]
      by_cases hj9 : j < 2
      · rcases hm with ⟨h0, _⟩ | ⟨h0, h99, hm⟩
        · exact absurd ⟨hj9, h0⟩ hgo
        · have e2 : R.bind (seqC bl [c]) = .bad e5 p5 := by
           cases R with
           | bad e p => exact hm
           | good u =>
            have hm : seqC bl ([c].take (j - 1)) u = .bad e5 p5 := hm
            have := seqC_bad ([c].take (j - 1)) ([c].drop (j - 1)) u hm
            rwa [List.take_append_drop] at this
          rw [e2]; exact ⟨h0, h99, s5, hck⟩
      · have h9 := N.out
        rw [show [c].take (j - 1) = [c] from List.take_of_length_le (by simp; omega)] at h9
        exact h9)
    by_cases hlt : j < 2
    · have hlt2 : (j : Int) < 2 := by omega
      have he : ((e5 : Int) == 0) = false := beq_eq_false_iff_ne.2 (by intro h; exact hgo ⟨hlt, by omega⟩)
      clear hgo hm hck hlt
      go_wp2_with fail
      exact bodyPost_end (results_none rfl _ _ _) rfl ⟨rfl, HF.out, FR.out⟩
    · have hle : 2 ≤ (j : Int) := by omega
      clear hgo hm hck hlt
      go_wp2_with fail
      exact bodyPost_end (results_none rfl _ _ _) rfl ⟨rfl, HF.out, FR.out⟩
set_option maxHeartbeats 8000000 in
set_option maxRecDepth 100000 in
theorem cstm_if3 (hM : G.M = 24) {x line : Nat} {a c d : Nat} (h : Ck G w s zs k 0 0) (hx : G.ns[x]? = some ⟨15, line, 0, [], [a, c, d]⟩) (ha : CexOk G zs k ex a) (hb : ∀ y ∈ [c, d], CblOk G zs k bl y) :
  Calls Tryd.prog 49 #[.pointer (some ⟨G.g, 0, none⟩), .int .i64 x] w (StepK G zs k (stmC G.fs k ex bl x ⟨15, line, 0, [], [a, c, d]⟩ s) w) := by
 have M0 := hid (show CkM G w (.good s) zs k from h)
 obtain ⟨nb, nc, kv, hnv, hkv, hown, nlt, hx3, c0, x0, x1, x2, x3, x4⟩ := M0.out.node hx
 dsimp only at hown x0 x1 x2 x3 x4
 have hx4 : (G.ns.length : Int) ≤ 300 := by have := h.geo.few; omega
 have hx5 : x < G.ns.length := by omega
 have glt := h.g_lt
 have gn : ¬ G.g = w.heap.size := by omega
 have nn : ¬ nb = w.heap.size := by omega
 obtain ⟨kb, kc, rfl, hkc, hcell⟩ := kids_get hown (by simp)
 have hkc2 : 3 ≤ kc := by simp at hkc; omega
 have HK := hid (And.intro hx hkv)
 have HM := hid hM
 have C1 := hid (CkC.new M0.out 49 #[.int .i64 15, .int .i64 line, .int .i64 0, .string (bs []), .slice (some ⟨kb, 0, none⟩) 3 kc] (by decide))
 have F1 := hid (show FrK G w (w.alloc (.cells #[.int .i64 15, .int .i64 line, .int .i64 0, .string (bs []), .slice (some ⟨kb, 0, none⟩) 3 kc] 49)) from FrK.no ((Fr.refl nob w).alloc _))
 have HX5 := hid hx5
 clear h hx hkv hown hM hx5 hcell hkc
 have HA := hid ha
 have HB := hid hb
 clear ha hb
 go_enter Tryd.func49, Tryd.ntmps49
 go_wp2_with fail
 clear c0 x0 x1 x2 x3 x4 glt gn nlt nn
 generalize w.alloc (.cells #[.int .i64 15, .int .i64 line, .int .i64 0, .string (bs []), .slice (some ⟨kb, 0, none⟩) 3 kc] 49) = w1 at *
 generalize w.heap.size = C at *
 have K1 := hid (show Ck G w1 s zs k 0 0 from C1.out.m)
 obtain ⟨_, _, -, -, -, -, c4, -, c6, -⟩ := K1.out.cells
 obtain ⟨⟨u2, bf⟩, zf⟩ := K1.out.fn.cellj HX5.out
 obtain ⟨n1, n2, n3⟩ := K1.out.gne
 have D4 := hid c4
 have D6 := hid c6
 have e4 := hid ((World.cell?_setCell_other w1.drew ⟨G.bf, x, none⟩ ⟨G.g, 4, none⟩ (.int .i64 (k : Nat)) (by intro e; injection e with e; exact n3 e.symm)).trans c4)
 have e6 := hid ((World.cell?_setCell_other w1.drew ⟨G.bf, x, none⟩ ⟨G.g, 6, none⟩ (.int .i64 (k : Nat)) (by intro e; injection e with e; exact n3 e.symm)).trans c6)
 have S2 := hid (K1.out.setF x k)
 clear n1 n2 n3
 go_region_held3 (fun wx => wx.cell? ⟨G.g, 4, none⟩ = some (.slice (some ⟨G.bf, 0, none⟩) G.ns.length G.cf) ∧ wx.cell? ⟨G.g, 6, none⟩ = some (.int .i64 (k : Nat))) (first | exact ⟨D4.out, D6.out⟩ | exact ⟨e4.out, e6.out⟩) (first | fail)
 clear c4 c6 bf zf D4 D6 e4 e6
 have C2 := hid ((C1.out.to (show CkM G _ (.good { s with fn := s.fn.set x k }) zs k from S2.out.1) S2.out.2).no ((Fr.refl nob _).drew))
 have F2 := hid ((F1.out.trans S2.out.2).trans (FrK.no ((Fr.refl nob _).drew)))
 clear S2 K1 C1 F1 HX5
 generalize (w1.setCell ⟨G.bf, x, none⟩ (.int .i64 (k : Nat))).drew = w2 at *
 have d0 : w2.cell? ⟨C, 0, none⟩ = some (.int .i64 15) := by simpa using C2.out.b.cell 0
 have d4 : w2.cell? ⟨C, 4, none⟩ = some (.slice (some ⟨kb, 0, none⟩) 3 kc) := by simpa using C2.out.b.cell 4
 have k0 := C2.out.m.kid HK.out.1 HK.out.2 (j := 0) (a := a) rfl
 go_wp2_with fail
 refine (HA.out w2 _ C2.out.m).mono ?_
 rintro en w3 ⟨t, rfl, h3, f3, hq⟩
 have C3 := hid (C2.out.to h3 f3)
 have F3 := hid (F2.out.trans f3)
 have HQ := hid hq
 clear h3 f3 hq d0 d4 k0
 obtain ⟨b, hbb⟩ : ∃ b, ((t : Int) == 2) = b := ⟨_, rfl⟩
 have HBB := hid hbb
 go_wp2_with fail
 refine (C3.out.m.must b x).mono ?_
 rintro en w4 ⟨rfl, h4, f4⟩
 have E := hid (show stmC G.fs k ex bl x ⟨15, line, 0, [], [a, c, d]⟩ s = ((ex a { s with fn := s.fn.set x k }).bind fun r => if r.1 = 2 then CkR.good r.2 else .bad 42 x).bind (seqC bl [c, d]) from by
  show ((ex a { s with fn := s.fn.set x k }).bind fun r => if r.1 = 2 then seqC bl [c, d] r.2 else .bad 42 x) = _
  cases ex a { s with fn := s.fn.set x k } with
  | bad e p => rfl
  | good u =>
    simp only [CkR.bind_good]
    split <;> rfl)
 have N4 := hid (show CkN G w4 (((ex a { s with fn := s.fn.set x k }).bind fun r => if r.1 = 2 then CkR.good r.2 else .bad 42 x).bind (seqC bl ([c, d].take 0))) zs k from by
  have h9 := h4.toN HM.out
  rw [CkR.bind_good] at h9
  have e9 := binC (q := ex a { s with fn := s.fn.set x k }) (x := x) (b := b) (P := fun (n : Nat) => n = 2) (fun q hq => by
    rw [HQ.out q hq, ← HBB.out, Bool.eq_iff_iff]
    simp only [beq_iff_eq, decide_eq_true_eq]
    omega)
  rw [e9] at h9
  have e6 : ((ex a { s with fn := s.fn.set x k }).bind fun r => if r.1 = 2 then CkR.good r.2 else .bad 42 x).bind (seqC bl ([c, d].take 0)) = ((ex a { s with fn := s.fn.set x k }).bind fun r => if r.1 = 2 then CkR.good r.2 else .bad 42 x) := by cases ((ex a { s with fn := s.fn.set x k }).bind fun r => if r.1 = 2 then CkR.good r.2 else .bad 42 x) <;> rfl
  rw [e6]; exact h9)
 have B4 := hid (f4.far C3.out.b C3.out.n0 C3.out.n1 C3.out.n2 C3.out.n3 (by decide))
 have F4 := hid (F3.out.trans f4)
 have NN := hid (And.intro (And.intro C3.out.n0 C3.out.n1) (And.intro C3.out.n2 C3.out.n3))
 clear h4 f4
 generalize ((ex a { s with fn := s.fn.set x k }).bind fun r => if r.1 = 2 then CkR.good r.2 else .bad 42 x) = R at *
 go_wp2_with fail
 go_loopw [12] (fun i wr => ∃ j : Nat, 1 ≤ j ∧ j ≤ 3 ∧ i = .int .i64 j ∧ Hid (CkN G wr (R.bind (seqC bl ([c, d].take (j - 1)))) zs k) ∧ Hid (Blk wr C 49 #[.int .i64 15, .int .i64 line, .int .i64 0, .string (bs []), .slice (some ⟨kb, 0, none⟩) 3 kc]) ∧ Hid (FrK G w wr)) (fun i _ => 3 - (intOf i).toNat)
 case atStart => exact ⟨1, by decide, by decide, rfl, N4, B4, F4⟩
 case round =>
  clear N4 B4 F4
  obtain ⟨j, hj1, hj, rfl, N, B, FR⟩ := hrel
  have d4 : wr.cell? ⟨C, 4, none⟩ = some (.slice (some ⟨kb, 0, none⟩) 3 kc) := by simpa using B.out.cell 4
  obtain ⟨s5, e5, p5, hck, hm⟩ := N.out.open_ HM.out
  obtain ⟨_, _, -, -, -, -, -, -, -, -, -, c9, -⟩ := hck.cells
  have c9 : wr.cell? ⟨G.g, 9, none⟩ = some (.int .i64 (e5 : Nat)) := c9
  by_cases hgo : j < 3 ∧ e5 = 0
  · obtain ⟨hlt, rfl⟩ := hgo
    have hlt2 : (j : Int) < 3 := by omega
    rcases hm with ⟨_, rfl, hm⟩ | ⟨h0, _⟩
    case inr => exact absurd rfl h0
    have NG := hid (show Ck G wr s5 zs k 0 0 from by have h9 := N.out; rw [hm] at h9; exact h9)
    obtain ⟨y, hy⟩ : ∃ y, [a, c, d][j]? = some y := ⟨_, List.getElem?_eq_getElem (by simpa using hlt)⟩
    have hy1 : [c, d][j - 1]? = some y := by
      have e1 : [a, c, d][j - 1 + 1]? = some y := by rw [show j - 1 + 1 = j by omega]; exact hy
      simpa using e1
    have kj := (show CkM G wr (.good s5) zs k from NG.out).kid HK.out.1 HK.out.2 (j := j) (a := y) hy
    have HS := hid (show R.bind (seqC bl ([c, d].take (j + 1 - 1))) = bl y s5 from by
      have e1 : [c, d].take (j + 1 - 1) = [c, d].take (j - 1) ++ [y] := by rw [show j + 1 - 1 = j - 1 + 1 by omega, List.take_add_one, hy1]; rfl
      rw [e1]
      cases R with
      | bad e p => cases hm
      | good u =>
        have hm : seqC bl ([c, d].take (j - 1)) u = .good s5 := hm
        show seqC bl ([c, d].take (j - 1) ++ [y]) u = _
        rw [seqC_snoc, hm]; rfl)
    have HY := hid (HB.out y (List.mem_of_getElem? hy1))
    have HJ := hid hlt
    have klt := World.block_lt_of_cell? _ _ kj
    clear hck hm hy hy1 hlt
    go_wp2_with fail
    refine (HY.out wr s5 NG.out).mono ?_
    rintro en w6 ⟨rfl, h6, f6⟩
    have N6 := hid h6
    have F6 := hid (FR.out.trans f6)
    have B6 := hid (f6.far B.out NN.out.1.1 NN.out.1.2 NN.out.2.1 NN.out.2.2 (by decide))
    clear h6 f6 d4 kj c9 klt
    go_wp2_with fail
    go_roundw
    case rel => exact ⟨j + 1, by omega, by have := HJ.out; omega, by go_num, hid (by rw [HS.out]; exact N6.out), B6, F6⟩
    case measure => simp [intOf]; have := HJ.out; omega
  · have HF := hid (show CkN G wr (stmC G.fs k ex bl x ⟨15, line, 0, [], [a, c, d]⟩ s) zs k from by
      rw [E.out]
      by_cases hj9 : j < 3
      · rcases hm with ⟨h0, _⟩ | ⟨h0, h99, hm⟩
        · exact absurd ⟨hj9, h0⟩ hgo
        · have e2 : R.bind (seqC bl [c, d]) = .bad e5 p5 := by
           cases R with
           | bad e p => exact hm
           | good u =>
            have hm : seqC bl ([c, d].take (j - 1)) u = .bad e5 p5 := hm
            have := seqC_bad ([c, d].take (j - 1)) ([c, d].drop (j - 1)) u hm
            rwa [List.take_append_drop] at this
          rw [e2]; exact ⟨h0, h99, s5, hck⟩
      · have h9 := N.out
        rw [show [c, d].take (j - 1) = [c, d] from List.take_of_length_le (by simp; omega)] at h9
        exact h9)
    by_cases hlt : j < 3
    · have hlt2 : (j : Int) < 3 := by omega
      have he : ((e5 : Int) == 0) = false := beq_eq_false_iff_ne.2 (by intro h; exact hgo ⟨hlt, by omega⟩)
      clear hgo hm hck hlt
      go_wp2_with fail
      exact bodyPost_end (results_none rfl _ _ _) rfl ⟨rfl, HF.out, FR.out⟩
    · have hle : 3 ≤ (j : Int) := by omega
      clear hgo hm hck hlt
      go_wp2_with fail
      exact bodyPost_end (results_none rfl _ _ _) rfl ⟨rfl, HF.out, FR.out⟩
set_option maxHeartbeats 8000000 in
set_option maxRecDepth 100000 in
theorem cstm_loop (hM : G.M = 24) {x line : Nat} {a c : Nat} (h : Ck G w s zs k 0 0) (hx : G.ns[x]? = some ⟨16, line, 0, [], [a, c]⟩) (ha : CexOk G zs k ex a) (hb : ∀ y ∈ [c], CblOk G zs k bl y) :
  Calls Tryd.prog 49 #[.pointer (some ⟨G.g, 0, none⟩), .int .i64 x] w (StepK G zs k (stmC G.fs k ex bl x ⟨16, line, 0, [], [a, c]⟩ s) w) := by
 have M0 := hid (show CkM G w (.good s) zs k from h)
 obtain ⟨nb, nc, kv, hnv, hkv, hown, nlt, hx3, c0, x0, x1, x2, x3, x4⟩ := M0.out.node hx
 dsimp only at hown x0 x1 x2 x3 x4
 have hx4 : (G.ns.length : Int) ≤ 300 := by have := h.geo.few; omega
 have hx5 : x < G.ns.length := by omega
 have glt := h.g_lt
 have gn : ¬ G.g = w.heap.size := by omega
 have nn : ¬ nb = w.heap.size := by omega
 obtain ⟨kb, kc, rfl, hkc, hcell⟩ := kids_get hown (by simp)
 have hkc2 : 2 ≤ kc := by simp at hkc; omega
 have HK := hid (And.intro hx hkv)
 have HM := hid hM
 have C1 := hid (CkC.new M0.out 49 #[.int .i64 16, .int .i64 line, .int .i64 0, .string (bs []), .slice (some ⟨kb, 0, none⟩) 2 kc] (by decide))
 have F1 := hid (show FrK G w (w.alloc (.cells #[.int .i64 16, .int .i64 line, .int .i64 0, .string (bs []), .slice (some ⟨kb, 0, none⟩) 2 kc] 49)) from FrK.no ((Fr.refl nob w).alloc _))
 have HX5 := hid hx5
 clear h hx hkv hown hM hx5 hcell hkc
 have HA := hid ha
 have HB := hid hb
 clear ha hb
 go_enter Tryd.func49, Tryd.ntmps49
 go_wp2_with fail
 clear c0 x0 x1 x2 x3 x4 glt gn nlt nn
 generalize w.alloc (.cells #[.int .i64 16, .int .i64 line, .int .i64 0, .string (bs []), .slice (some ⟨kb, 0, none⟩) 2 kc] 49) = w1 at *
 generalize w.heap.size = C at *
 have K1 := hid (show Ck G w1 s zs k 0 0 from C1.out.m)
 obtain ⟨_, _, -, -, -, -, c4, -, c6, -⟩ := K1.out.cells
 obtain ⟨⟨u2, bf⟩, zf⟩ := K1.out.fn.cellj HX5.out
 obtain ⟨n1, n2, n3⟩ := K1.out.gne
 have D4 := hid c4
 have D6 := hid c6
 have e4 := hid ((World.cell?_setCell_other w1.drew ⟨G.bf, x, none⟩ ⟨G.g, 4, none⟩ (.int .i64 (k : Nat)) (by intro e; injection e with e; exact n3 e.symm)).trans c4)
 have e6 := hid ((World.cell?_setCell_other w1.drew ⟨G.bf, x, none⟩ ⟨G.g, 6, none⟩ (.int .i64 (k : Nat)) (by intro e; injection e with e; exact n3 e.symm)).trans c6)
 have S2 := hid (K1.out.setF x k)
 clear n1 n2 n3
 go_region_held3 (fun wx => wx.cell? ⟨G.g, 4, none⟩ = some (.slice (some ⟨G.bf, 0, none⟩) G.ns.length G.cf) ∧ wx.cell? ⟨G.g, 6, none⟩ = some (.int .i64 (k : Nat))) (first | exact ⟨D4.out, D6.out⟩ | exact ⟨e4.out, e6.out⟩) (first | fail)
 clear c4 c6 bf zf D4 D6 e4 e6
 have C2 := hid ((C1.out.to (show CkM G _ (.good { s with fn := s.fn.set x k }) zs k from S2.out.1) S2.out.2).no ((Fr.refl nob _).drew))
 have F2 := hid ((F1.out.trans S2.out.2).trans (FrK.no ((Fr.refl nob _).drew)))
 clear S2 K1 C1 F1 HX5
 generalize (w1.setCell ⟨G.bf, x, none⟩ (.int .i64 (k : Nat))).drew = w2 at *
 have d0 : w2.cell? ⟨C, 0, none⟩ = some (.int .i64 16) := by simpa using C2.out.b.cell 0
 have d4 : w2.cell? ⟨C, 4, none⟩ = some (.slice (some ⟨kb, 0, none⟩) 2 kc) := by simpa using C2.out.b.cell 4
 have k0 := C2.out.m.kid HK.out.1 HK.out.2 (j := 0) (a := a) rfl
 go_wp2_with fail
 refine (HA.out w2 _ C2.out.m).mono ?_
 rintro en w3 ⟨t, rfl, h3, f3, hq⟩
 have C3 := hid (C2.out.to h3 f3)
 have F3 := hid (F2.out.trans f3)
 have HQ := hid hq
 clear h3 f3 hq d0 d4 k0
 obtain ⟨b, hbb⟩ : ∃ b, ((t : Int) == 2) = b := ⟨_, rfl⟩
 have HBB := hid hbb
 go_wp2_with fail
 refine (C3.out.m.must b x).mono ?_
 rintro en w4 ⟨rfl, h4, f4⟩
 have E := hid (show stmC G.fs k ex bl x ⟨16, line, 0, [], [a, c]⟩ s = ((ex a { s with fn := s.fn.set x k }).bind fun r => if r.1 = 2 then CkR.good r.2 else .bad 42 x).bind (seqC bl [c]) from by
  show ((ex a { s with fn := s.fn.set x k }).bind fun r => if r.1 = 2 then seqC bl [c] r.2 else .bad 42 x) = _
  cases ex a { s with fn := s.fn.set x k } with
  | bad e p => rfl
  | good u =>
    simp only [CkR.bind_good]
    split <;> rfl)
 have N4 := hid (show CkN G w4 (((ex a { s with fn := s.fn.set x k }).bind fun r => if r.1 = 2 then CkR.good r.2 else .bad 42 x).bind (seqC bl ([c].take 0))) zs k from by
  have h9 := h4.toN HM.out
  rw [CkR.bind_good] at h9
  have e9 := binC (q := ex a { s with fn := s.fn.set x k }) (x := x) (b := b) (P := fun (n : Nat) => n = 2) (fun q hq => by
    rw [HQ.out q hq, ← HBB.out, Bool.eq_iff_iff]
    simp only [beq_iff_eq, decide_eq_true_eq]
    omega)
  rw [e9] at h9
  have e6 : ((ex a { s with fn := s.fn.set x k }).bind fun r => if r.1 = 2 then CkR.good r.2 else .bad 42 x).bind (seqC bl ([c].take 0)) = ((ex a { s with fn := s.fn.set x k }).bind fun r => if r.1 = 2 then CkR.good r.2 else .bad 42 x) := by cases ((ex a { s with fn := s.fn.set x k }).bind fun r => if r.1 = 2 then CkR.good r.2 else .bad 42 x) <;> rfl
  rw [e6]; exact h9)
 have B4 := hid (f4.far C3.out.b C3.out.n0 C3.out.n1 C3.out.n2 C3.out.n3 (by decide))
 have F4 := hid (F3.out.trans f4)
 have NN := hid (And.intro (And.intro C3.out.n0 C3.out.n1) (And.intro C3.out.n2 C3.out.n3))
 clear h4 f4
 generalize ((ex a { s with fn := s.fn.set x k }).bind fun r => if r.1 = 2 then CkR.good r.2 else .bad 42 x) = R at *
 go_wp2_with fail
 go_loopw [12] (fun i wr => ∃ j : Nat, 1 ≤ j ∧ j ≤ 2 ∧ i = .int .i64 j ∧ Hid (CkN G wr (R.bind (seqC bl ([c].take (j - 1)))) zs k) ∧ Hid (Blk wr C 49 #[.int .i64 16, .int .i64 line, .int .i64 0, .string (bs []), .slice (some ⟨kb, 0, none⟩) 2 kc]) ∧ Hid (FrK G w wr)) (fun i _ => 2 - (intOf i).toNat)
 case atStart => exact ⟨1, by decide, by decide, rfl, N4, B4, F4⟩
 case round =>
  clear N4 B4 F4
  obtain ⟨j, hj1, hj, rfl, N, B, FR⟩ := hrel
  have d4 : wr.cell? ⟨C, 4, none⟩ = some (.slice (some ⟨kb, 0, none⟩) 2 kc) := by simpa using B.out.cell 4
  obtain ⟨s5, e5, p5, hck, hm⟩ := N.out.open_ HM.out
  obtain ⟨_, _, -, -, -, -, -, -, -, -, -, c9, -⟩ := hck.cells
  have c9 : wr.cell? ⟨G.g, 9, none⟩ = some (.int .i64 (e5 : Nat)) := c9
  by_cases hgo : j < 2 ∧ e5 = 0
  · obtain ⟨hlt, rfl⟩ := hgo
    have hlt2 : (j : Int) < 2 := by omega
    rcases hm with ⟨_, rfl, hm⟩ | ⟨h0, _⟩
    case inr => exact absurd rfl h0
    have NG := hid (show Ck G wr s5 zs k 0 0 from by have h9 := N.out; rw [hm] at h9; exact h9)
    obtain ⟨y, hy⟩ : ∃ y, [a, c][j]? = some y := ⟨_, List.getElem?_eq_getElem (by simpa using hlt)⟩
    have hy1 : [c][j - 1]? = some y := by
      have e1 : [a, c][j - 1 + 1]? = some y := by rw [show j - 1 + 1 = j by omega]; exact hy
      simpa using e1
    have kj := (show CkM G wr (.good s5) zs k from NG.out).kid HK.out.1 HK.out.2 (j := j) (a := y) hy
    have HS := hid (show R.bind (seqC bl ([c].take (j + 1 - 1))) = bl y s5 from by
      have e1 : [c].take (j + 1 - 1) = [c].take (j - 1) ++ [y] := by rw [show j + 1 - 1 = j - 1 + 1 by omega, List.take_add_one, hy1]; rfl
      rw [e1]
      cases R with
      | bad e p => cases hm
      | good u =>
        have hm : seqC bl ([c].take (j - 1)) u = .good s5 := hm
        show seqC bl ([c].take (j - 1) ++ [y]) u = _
        rw [seqC_snoc, hm]; rfl)
    have HY := hid (HB.out y (List.mem_of_getElem? hy1))
    have HJ := hid hlt
    have klt := World.block_lt_of_cell? _ _ kj
    clear hck hm hy hy1 hlt
    go_wp2_with fail
    refine (HY.out wr s5 NG.out).mono ?_
    rintro en w6 ⟨rfl, h6, f6⟩
    have N6 := hid h6
    have F6 := hid (FR.out.trans f6)
    have B6 := hid (f6.far B.out NN.out.1.1 NN.out.1.2 NN.out.2.1 NN.out.2.2 (by decide))
    clear h6 f6 d4 kj c9 klt
    go_wp2_with fail
    go_roundw
    case rel => exact ⟨j + 1, by omega, by have := HJ.out; omega, by go_num, hid (by rw [HS.out]; exact N6.out), B6, F6⟩
    case measure => simp [intOf]; have := HJ.out; omega
  · have HF := hid (show CkN G wr (stmC G.fs k ex bl x ⟨16, line, 0, [], [a, c]⟩ s) zs k from by
      rw [E.out]
      by_cases hj9 : j < 2
      · rcases hm with ⟨h0, _⟩ | ⟨h0, h99, hm⟩
        · exact absurd ⟨hj9, h0⟩ hgo
        · have e2 : R.bind (seqC bl [c]) = .bad e5 p5 := by
           cases R with
           | bad e p => exact hm
           | good u =>
            have hm : seqC bl ([c].take (j - 1)) u = .bad e5 p5 := hm
            have := seqC_bad ([c].take (j - 1)) ([c].drop (j - 1)) u hm
            rwa [List.take_append_drop] at this
          rw [e2]; exact ⟨h0, h99, s5, hck⟩
      · have h9 := N.out
        rw [show [c].take (j - 1) = [c] from List.take_of_length_le (by simp; omega)] at h9
        exact h9)
    by_cases hlt : j < 2
    · have hlt2 : (j : Int) < 2 := by omega
      have he : ((e5 : Int) == 0) = false := beq_eq_false_iff_ne.2 (by intro h; exact hgo ⟨hlt, by omega⟩)
      clear hgo hm hck hlt
      go_wp2_with fail
      exact bodyPost_end (results_none rfl _ _ _) rfl ⟨rfl, HF.out, FR.out⟩
    · have hle : 2 ≤ (j : Int) := by omega
      clear hgo hm hck hlt
      go_wp2_with fail
      exact bodyPost_end (results_none rfl _ _ _) rfl ⟨rfl, HF.out, FR.out⟩
end
theorem Own.cut {w : World} {e size n m c : Nat} {A : Option Addr} {xs : List Value} (h : Own w e size (.slice A n c) n xs) (hm : m ≤ n) : Own w e size (.slice A m c) m (xs.take (m * size)) := by
 obtain ⟨hl, A', c', hv, ⟨h1, h2⟩ | ⟨g, cur, h1, h0, hb, hnc, hcm, hsz, ht⟩⟩ := h
 · injection hv with e1 e2 e3
   subst e1; subst e3
   refine ⟨by rw [List.length_take, hl]; exact Nat.min_eq_left (Nat.mul_le_mul_right _ hm), A, c, rfl, .inl ⟨h1, by omega⟩⟩
 · injection hv with e1 e2 e3
   subst e1; subst e3
   refine ⟨by rw [List.length_take, hl]; exact Nat.min_eq_left (Nat.mul_le_mul_right _ hm), A, c, rfl, .inr ⟨g, cur, h1, h0, hb, by omega, hcm, hsz, ?_⟩⟩
   rw [← ht, List.take_take, Nat.min_eq_left (Nat.mul_le_mul_right _ hm)]
section
variable {G : Geo} {w w' : World} {s : CkS} {r r' : CkR CkS} {zs : List Nat} {k e p : Nat} {ex : Nat → CkS → CkR (Nat × CkS)}
theorem Ck.cut (h : Ck G w s zs k e p) {VA : Option Addr} {VC : Nat} (hv : w.cell? ⟨G.g, 7, none⟩ = some (.slice VA s.vars.length VC)) {m : Nat} (hm : m ≤ s.vars.length) :
   Ck G (w.setCell ⟨G.g, 7, none⟩ (.slice VA m VC)) { s with vars := s.vars.take m } zs k e p ∧ FrK G w (w.setCell ⟨G.g, 7, none⟩ (.slice VA m VC)) := by
 obtain ⟨zv, vv, hb, hz0, hz2, hv0, hv2⟩ := h.ex
 have e7 : w.cell? ⟨G.g, 7, none⟩ = some vv := by rw [hb.cell]; rfl
 rw [e7] at hv
 injection hv with hv
 subst hv
 obtain ⟨n1, n2, n3⟩ := h.gne
 have hB := h.geo.hg
 have hc := (hv0.cut hm).far (p := ⟨G.g, 7, none⟩) ((hv0.cut hm).blk_ne hb (by decide)) (.slice VA m VC)
 rw [varCells_take] at hc
 have hlen : (s.vars.take m).length = m := by rw [List.length_take]; omega
 refine ⟨⟨h.geo, h.tree.keep (fun b hb => ?_) (by simp), ⟨zv, .slice VA m VC, hb.setCell 7 _, hz0.far (p := ⟨G.g, 7, none⟩) (hz0.blk_ne hb (by decide)) _, hz2, by rw [hlen]; exact hc, fun b hb => hv2 b ?_⟩,
   h.types.far (p := ⟨G.g, 7, none⟩) (h.types.blk_ne hb (by decide)) _, h.slots.far (p := ⟨G.g, 7, none⟩) (h.slots.blk_ne hb (by decide)) _, h.fn.far (p := ⟨G.g, 7, none⟩) (h.fn.blk_ne hb (by decide)) _, h.kk, h.size, h.fine, by show (s.vars.take m).length ≤ s.size; rw [hlen]; have := h.vars; omega, h.zs, by simpa using h.zle⟩,
   ((Fr.refl (oneb G.g) w).setCell ⟨G.g, 7, none⟩ _ (fun _ => rfl)).mono (fun k _ e => .inl e)⟩
 · exact Below.heap_setCell w ⟨G.g, 7, none⟩ _ b (by show b ≠ G.g; omega)
 · cases VA with
   | none => simp [blk] at hb
   | some a => simp [blk] at hb ⊢; exact hb
theorem FrK.more (h : FrK G.more w w') : FrK G w w' := h
set_option maxHeartbeats 8000000 in
set_option maxRecDepth 100000 in
theorem cblock_step (hM : G.M = 24) {st : Nat → CkS → CkR CkS} {x line : Nat} {l : List Nat} (h : Ck G w s zs k 0 0) (hx : G.ns[x]? = some ⟨18, line, 0, [], l⟩) (hl : ∀ y ∈ l, CstOk G zs k st y) :
  Calls Tryd.prog 33 #[.pointer (some ⟨G.g, 0, none⟩), .int .i64 x] w (StepK G zs k ((seqC st l { s with fn := s.fn.set x k }).map fun r => { r with vars := r.vars.take s.vars.length }) w) := by
 have M0 := hid (show CkM G w (.good s) zs k from h)
 obtain ⟨nb, nc, kv, hnv, hkv, hown, nlt, hx3, c0, x0, x1, x2, x3, x4⟩ := M0.out.node hx
 dsimp only at hown x0 x1 x2 x3 x4
 have hx4 : (G.ns.length : Int) ≤ 300 := by have := h.geo.few; omega
 have hx5 : x < G.ns.length := by omega
 have hl3 : l.length ≤ 300 := h.geo.fewk _ (List.mem_of_getElem? hx)
 have hl4 : (l.length : Int) ≤ 300 := by omega
 obtain ⟨KA, KC, rfl, -, -⟩ := hown.cap
 have HK := hid (And.intro hx hkv)
 have HM := hid hM
 have HL := hid hl
 have K1 := hid h
 have hvn : s.vars.length ≤ 24 := by have := h.vars; have := h.size; omega
 have hvn2 : (s.vars.length : Int) ≤ 24 := by omega
 obtain ⟨_, _, -, -, -, -, c4, -, c6, -⟩ := K1.out.cells
 obtain ⟨⟨u2, bf⟩, zf⟩ := K1.out.fn.cellj hx5
 obtain ⟨n1, n2, n3⟩ := K1.out.gne
 have D4 := hid c4
 have D6 := hid c6
 have e4 := hid ((World.cell?_setCell_other w.drew ⟨G.bf, x, none⟩ ⟨G.g, 4, none⟩ (.int .i64 (k : Nat)) (by intro e; injection e with e; exact n3 e.symm)).trans c4)
 have e6 := hid ((World.cell?_setCell_other w.drew ⟨G.bf, x, none⟩ ⟨G.g, 6, none⟩ (.int .i64 (k : Nat)) (by intro e; injection e with e; exact n3 e.symm)).trans c6)
 have S2 := hid (K1.out.setF x k)
 clear n1 n2 n3 h hx hkv hown hM hl hx5 c0 x0 x1 x2 x3 x4
 go_enter Tryd.func33, Tryd.ntmps33
 go_wp2_with fail
 go_region_held3 (fun wx => wx.cell? ⟨G.g, 4, none⟩ = some (.slice (some ⟨G.bf, 0, none⟩) G.ns.length G.cf) ∧ wx.cell? ⟨G.g, 6, none⟩ = some (.int .i64 (k : Nat))) (first | exact ⟨D4.out, D6.out⟩ | exact ⟨e4.out, e6.out⟩) (first | fail)
 clear c4 c6 bf zf D4 D6 e4 e6
 have S3 := hid (S2.out.1.no ((Fr.refl nob _).drew))
 have F3 := hid (S2.out.2.trans (FrK.no ((Fr.refl nob _).drew)))
 clear S2
 generalize (w.setCell ⟨G.bf, x, none⟩ (.int .i64 (k : Nat))).drew = w2 at *
 obtain ⟨nb', nc', kv', hnv', hkv', -, -, -, c0, x0, x1, x2, x3, x4⟩ := (show CkM G w2 (.good _) zs k from S3.out).node HK.out.1
 rw [HK.out.2] at hkv'
 injection hkv' with hkv'
 subst hkv'
 obtain ⟨zv, vv, hbl, -, -, hvo, -⟩ := S3.out.ex
 obtain ⟨VA, VC, rfl, -, -⟩ := hvo.cap
 have c7 : w2.cell? ⟨G.g, 7, none⟩ = some (.slice VA s.vars.length VC) := by rw [hbl.cell]; rfl
 have N3 := hid (show CkN G w2 (seqC st (l.take 0) { s with fn := s.fn.set x k }) zs k from S3.out)
 clear hbl hvo S3 K1
 go_wp2_with fail
 clear c0 x0 x1 x2 x3 x4 c7
 go_loopw [6] (fun i wr => ∃ j : Nat, j ≤ l.length ∧ i = .int .i64 j ∧ Hid (CkN G wr (seqC st (l.take j) ({ s with fn := s.fn.set x k } : CkS)) zs k) ∧ Hid (FrK G w wr)) (fun i _ => l.length - (intOf i).toNat)
 case atStart => exact ⟨0, Nat.zero_le _, rfl, N3, F3⟩
 case round =>
  clear N3 F3
  obtain ⟨j, hj, rfl, N, FR⟩ := hrel
  obtain ⟨s5, e5, p5, hck, hm⟩ := N.out.open_ HM.out
  obtain ⟨_, _, -, -, -, -, -, -, -, -, -, c9, -⟩ := hck.cells
  have c9 : wr.cell? ⟨G.g, 9, none⟩ = some (.int .i64 (e5 : Nat)) := c9
  by_cases hgo : j < l.length ∧ e5 = 0
  · obtain ⟨hlt, rfl⟩ := hgo
    have hlt2 : (j : Int) < (l.length : Int) := by omega
    rcases hm with ⟨_, rfl, hm⟩ | ⟨h0, _⟩
    case inr => exact absurd rfl h0
    have NG := hid (show Ck G wr s5 zs k 0 0 from by have h9 := N.out; rw [hm] at h9; exact h9)
    obtain ⟨y, hy⟩ : ∃ y, l[j]? = some y := ⟨_, List.getElem?_eq_getElem hlt⟩
    obtain ⟨kb, e, kj, -, hkc⟩ := (show CkM G wr (.good s5) zs k from NG.out).kidrow HK.out.1 HK.out.2 (j := j) (a := y) hy
    subst e
    have HS := hid (show seqC st (l.take (j + 1)) ({ s with fn := s.fn.set x k } : CkS) = st y s5 from by
      rw [show l.take (j + 1) = l.take j ++ [y] by rw [List.take_add_one, hy]; rfl, seqC_snoc, hm]; rfl)
    have HY := hid (HL.out y (List.mem_of_getElem? hy))
    have HJ := hid hlt
    have klt := World.block_lt_of_cell? _ _ kj
    clear hck hm hy hlt
    go_wp2_with fail
    refine (HY.out wr s5 NG.out).mono ?_
    rintro en w6 ⟨rfl, h6, f6⟩
    have N6 := hid h6
    have F6 := hid (FR.out.trans f6)
    clear h6 f6 kj c9 klt
    go_wp2_with fail
    go_roundw
    case rel => exact ⟨j + 1, by have := HJ.out; omega, by go_num, hid (by rw [HS.out]; exact N6.out), F6⟩
    case measure => simp [intOf]; have := HJ.out; omega
  · have HF := hid (show ModeK (seqC st l ({ s with fn := s.fn.set x k } : CkS)) s5 e5 p5 from by
      by_cases hj9 : j < l.length
      · rcases hm with ⟨h0, _⟩ | ⟨h0, h99, hm⟩
        · exact absurd ⟨hj9, h0⟩ hgo
        · refine .inr ⟨h0, h99, ?_⟩
          have := seqC_bad (l.take j) (l.drop j) ({ s with fn := s.fn.set x k } : CkS) hm
          rwa [List.take_append_drop] at this
      · rw [show l.take j = l from List.take_of_length_le (by omega)] at hm
        exact hm)
    obtain ⟨zv, vv, hbl, -, -, hvo, -⟩ := hck.ex
    obtain ⟨VA2, VC2, rfl, hvc, -⟩ := hvo.cap
    have hbl2 : Blk wr G.g 67 (ckCells G.more zv (.slice VA2 s5.vars.length VC2) k s5.size e5 p5) := hbl
    have c7 : wr.cell? ⟨G.g, 7, none⟩ = some (.slice VA2 s5.vars.length VC2) := by rw [hbl2.cell]; rfl
    have f7 : wr.frozen? ⟨G.g, 7, none⟩ = false := hbl.frozen 7
    have glt : G.g < wr.heap.size := hbl.lt
    have HCK := hid hck
    have hvz : s5.vars.length ≤ 25 := by have := hck.vars; have := hck.size; have : G.more.M = 25 := by show G.M + 1 = 25; rw [HM.out]
                                         omega
    have hvz2 : (s5.vars.length : Int) ≤ 25 := by omega
    have HC7 := hid c7
    have HVC := hid hvc
    clear hbl hvo hbl2
    by_cases hlt : j < l.length
    · have hlt2 : (j : Int) < (l.length : Int) := by omega
      have he : ((e5 : Int) == 0) = false := beq_eq_false_iff_ne.2 (by intro h; exact hgo ⟨hlt, by omega⟩)
      clear hgo hm hck hlt
      go_wp2_with fail
      obtain ⟨m, hmt⟩ : ∃ m, (min (s.vars.length : Int) (s5.vars.length : Int)).toNat = m := ⟨_, rfl⟩
      have hm1 : 0 ≤ min (s.vars.length : Int) (s5.vars.length : Int) := by omega
      have hm2 : min (s.vars.length : Int) (s5.vars.length : Int) ≤ (VC2 : Int) := by have := HVC.out; omega
      have SC := hid (HCK.out.cut HC7.out (m := m) (by omega))
      have HMT := hid (show m ≤ s5.vars.length ∧ s5.vars.take m = s5.vars.take s.vars.length from ⟨by omega, by
        by_cases h : s.vars.length ≤ s5.vars.length
        · rw [show m = s.vars.length by omega]
        · rw [show m = s5.vars.length by omega, List.take_of_length_le (Nat.le_refl _), List.take_of_length_le (by omega)]⟩)
      have NF := hid (show CkN G (wr.setCell ⟨G.g, 7, none⟩ (.slice VA2 m VC2)) ((seqC st l ({ s with fn := s.fn.set x k } : CkS)).map fun r => { r with vars := r.vars.take s.vars.length }) zs k from by
        have h9 := SC.out.1
        rw [HMT.out.2] at h9
        rcases HF.out with ⟨h1, h2, h3⟩ | ⟨h1, h2, h3⟩
        · rw [h3]; subst h1; subst h2; exact h9.less M0.out.geo HM.out
        · rw [h3]; exact ⟨h1, h2, _, h9⟩)
      have FF := hid (show FrK G w (wr.setCell ⟨G.g, 7, none⟩ (.slice VA2 m VC2)) from FR.out.trans SC.out.2.more)
      clear SC HF
      go_region_law (fail)
      all_goals
        generalize wr.setCell ⟨G.g, 7, none⟩ (.slice VA2 m VC2) = w9 at *
        go_wp2_with fail
        exact bodyPost_end (results_none rfl _ _ _) rfl ⟨rfl, by first | exact NF.out | exact NF.out.no ((Fr.refl nob _).drew), by first | exact FF.out | exact FF.out.trans (FrK.no ((Fr.refl nob _).drew))⟩
    · have hle : (l.length : Int) ≤ (j : Int) := by omega
      clear hgo hm hck hlt
      go_wp2_with fail
      obtain ⟨m, hmt⟩ : ∃ m, (min (s.vars.length : Int) (s5.vars.length : Int)).toNat = m := ⟨_, rfl⟩
      have hm1 : 0 ≤ min (s.vars.length : Int) (s5.vars.length : Int) := by omega
      have hm2 : min (s.vars.length : Int) (s5.vars.length : Int) ≤ (VC2 : Int) := by have := HVC.out; omega
      have SC := hid (HCK.out.cut HC7.out (m := m) (by omega))
      have HMT := hid (show m ≤ s5.vars.length ∧ s5.vars.take m = s5.vars.take s.vars.length from ⟨by omega, by
        by_cases h : s.vars.length ≤ s5.vars.length
        · rw [show m = s.vars.length by omega]
        · rw [show m = s5.vars.length by omega, List.take_of_length_le (Nat.le_refl _), List.take_of_length_le (by omega)]⟩)
      have NF := hid (show CkN G (wr.setCell ⟨G.g, 7, none⟩ (.slice VA2 m VC2)) ((seqC st l ({ s with fn := s.fn.set x k } : CkS)).map fun r => { r with vars := r.vars.take s.vars.length }) zs k from by
        have h9 := SC.out.1
        rw [HMT.out.2] at h9
        rcases HF.out with ⟨h1, h2, h3⟩ | ⟨h1, h2, h3⟩
        · rw [h3]; subst h1; subst h2; exact h9.less M0.out.geo HM.out
        · rw [h3]; exact ⟨h1, h2, _, h9⟩)
      have FF := hid (show FrK G w (wr.setCell ⟨G.g, 7, none⟩ (.slice VA2 m VC2)) from FR.out.trans SC.out.2.more)
      clear SC HF
      go_region_law (fail)
      all_goals
        generalize wr.setCell ⟨G.g, 7, none⟩ (.slice VA2 m VC2) = w9 at *
        go_wp2_with fail
        exact bodyPost_end (results_none rfl _ _ _) rfl ⟨rfl, by first | exact NF.out | exact NF.out.no ((Fr.refl nob _).drew), by first | exact FF.out | exact FF.out.trans (FrK.no ((Fr.refl nob _).drew))⟩
theorem cblock_any (hg : GeoOk G) (hM : G.M = 24) (hu : (G.fs.map (·.name)).Nodup) : ∀ (f x : Nat) (nd : NodeM), x < f → G.ns[x]? = some nd → nd.kind = 18 → CblOk G zs k (blockC G.ns G.fs k f) x
 | 0, x, nd, h, _, _ => absurd h (Nat.not_lt_zero _)
 | f + 1, x, nd, h, hx, h18 => by
  intro w s hck
  have hE : ∀ n, clsE n = true → clsR n = true := fun n h => by unfold clsR; rw [h]; rfl
  have key : ∀ {cls : Nat → Bool} {a : Nat}, (∀ n, cls n = true → clsR n = true) → Kid G.ns cls a → CexOk G zs k (exprC G.ns G.fs k G.ns.length) a := fun {cls a} hc hk => by
   obtain ⟨c, hc1, hc2⟩ := hk
   exact cexpr_any hg hu _ a c (List.getElem?_eq_some_iff.1 hc1).1 hc1 (hc _ hc2)
  have hC : ∀ n, clsC n = true → clsR n = true := fun n h => by simp [clsC] at h; subst h; decide
  have hok := hg.ok.nodes x nd hx
  cases hok with
  | block line l hk =>
   have := cblock_step (st := fun a s => match G.ns[a]? with
    | none => .bad 95 0
    | some na => stmC G.fs k (exprC G.ns G.fs k G.ns.length) (blockC G.ns G.fs k f) a na s) hM hck hx (fun y hy => by
    obtain ⟨hlt, c, hc1, hc2⟩ := (hk y hy).take
    have hok2 := hg.ok.nodes y c hc1
    have kb : ∀ {b : Nat}, Kid (G.ns.take y) clsB b → CblOk G zs k (blockC G.ns G.fs k f) b := fun {b} hb => by
     obtain ⟨hlt2, d, hd1, hd2⟩ := hb.take
     exact cblock_any hg hM hu f b d (by omega) hd1 (by simpa [clsB] using hd2)
    intro w2 s2 hck2
    simp only [hc1]
    cases hok2 with
    | let_ line nm a ha => exact cstm_let hM hck2 hc1 (key (fun _ h => h) ha.take.2)
    | set line nm a ha => exact cstm_set hM hck2 hc1 (key (fun _ h => h) ha.take.2)
    | put line nm a b ha hb => exact cstm_put hM hck2 hc1 (key hE ha.take.2) (key hE hb.take.2)
    | do_ line a ha => exact cstm_do hM hck2 hc1 (key hC ha.take.2)
    | print line a ha => exact cstm_print hM hck2 hc1 (key hE ha.take.2)
    | if2 line a b ha hb => exact cstm_if2 hM hck2 hc1 (key hE ha.take.2) (fun y hy => by rw [List.mem_singleton.1 hy]; exact kb hb)
    | if3 line a b d ha hb hd => exact cstm_if3 hM hck2 hc1 (key hE ha.take.2) (fun y hy => by
      rcases List.mem_cons.1 hy with e | hy
      · rw [e]; exact kb hb
      · rw [List.mem_singleton.1 hy]; exact kb hd)
    | loop line a b ha hb => exact cstm_loop hM hck2 hc1 (key hE ha.take.2) (fun y hy => by rw [List.mem_singleton.1 hy]; exact kb hb)
    | ret0 line => exact cstm_ret0 hM hck2 hc1
    | ret1 line a ha => exact cstm_ret1 hM hck2 hc1 (key hE ha.take.2)
    | _ => simp [clsS] at hc2)
   have e1 : blockC G.ns G.fs k (f + 1) x s = (seqC (fun a s => match G.ns[a]? with
    | none => .bad 95 0
    | some na => stmC G.fs k (exprC G.ns G.fs k G.ns.length) (blockC G.ns G.fs k f) a na s) l { s with fn := s.fn.set x k }).map fun r => { r with vars := r.vars.take s.vars.length } := by
    rw [blockC, hx]
    rfl
   rw [e1]
   exact this
  | _ => simp at h18
end
def Geo.atZ (G : Geo) (z : Nat) : Geo := { G with Z := z }
theorem parsC_snoc (b : Nat) (q : List UInt8 × Nat) : ∀ (l : List (List UInt8 × Nat)) (vs : List VarM), parsC b (l ++ [q]) vs = (parsC b l vs).bind fun vs => if (findV vs q.1).isSome then .bad 41 b else .good (vs ++ [⟨q.1, q.2, vs.length⟩])
 | [], vs => by
  show (if (findV vs q.1).isSome = true then CkR.bad 41 b else .good (vs ++ [⟨q.1, q.2, vs.length⟩])) = (CkR.good vs).bind _
  rw [CkR.bind_good]
 | a :: l, vs => by
  show (if (findV vs a.1).isSome = true then CkR.bad 41 b else parsC b (l ++ [q]) (vs ++ [⟨a.1, a.2, vs.length⟩])) = (if (findV vs a.1).isSome = true then CkR.bad 41 b else parsC b l (vs ++ [⟨a.1, a.2, vs.length⟩])).bind _
  by_cases h : (findV vs a.1).isSome = true
  · rw [if_pos h, if_pos h]; rfl
  · rw [if_neg h, if_neg h]; exact parsC_snoc b q l _
section
variable {G : Geo} {w w' : World} {s : CkS} {zs : List Nat} {k e p : Nat}
theorem GeoOk.z (h : GeoOk G) {z : Nat} (h1 : G.g < z) (h2 : G.bt < z) (h3 : G.bs < z) (h4 : G.bf < z) : GeoOk (G.atZ z) :=
 ⟨h.hM, h.hg, h.ht, h.hs, h.hf, h1, h2, h3, h4, h.ts, h.tf, h.sf, h.pos, h.few, h.fewf, h.fewp, h.fewk, h.ok⟩
theorem Ck.z (h : Ck G w s zs k e p) : Ck (G.atZ w.heap.size) w s zs k e p := by
 obtain ⟨zv, vv, hb, hz0, hz2, hv0, hv2⟩ := h.ex
 exact ⟨h.geo.z h.g_lt (h.types.blk_lt h.blkT) (h.slots.blk_lt h.blkS) (h.fn.blk_lt h.blkF), h.tree, ⟨zv, vv, hb, hz0, fun b hb => ⟨(hz2 b hb).1, (hz2 b hb).2.1, (hz2 b hb).2.2.1, (hz2 b hb).2.2.2.1, hz0.blk_lt hb⟩, hv0, hv2⟩,
  h.types, h.slots, h.fn, h.kk, h.size, h.fine, h.vars, h.zs, Nat.le_refl _⟩
theorem Ck.less2 (h : Ck G.more w s zs k e p) (hg : GeoOk G) (hM : s.size ≤ G.M) : Ck G w s zs k e p :=
 ⟨hg, h.tree, h.ex, h.types, h.slots, h.fn, h.kk, hM, h.fine, h.vars, h.zs, h.zle⟩
theorem Ck.nilV (h : Ck G w s zs k e p) : Ck G (w.setCell ⟨G.g, 7, none⟩ (.slice none 0 0)) { s with vars := [] } zs k e p ∧ FrK G w (w.setCell ⟨G.g, 7, none⟩ (.slice none 0 0)) := by
 obtain ⟨zv, vv, hb, hz0, hz2, hv0, hv2⟩ := h.ex
 have hB := h.geo.hg
 refine ⟨⟨h.geo, h.tree.keep (fun b hb => ?_) (by simp), ⟨zv, .slice none 0 0, hb.setCell 7 _, hz0.far (p := ⟨G.g, 7, none⟩) (hz0.blk_ne hb (by decide)) _, hz2, Own.nil _ _ _, fun b hb => by simp [blk] at hb⟩,
  h.types.far (p := ⟨G.g, 7, none⟩) (h.types.blk_ne hb (by decide)) _, h.slots.far (p := ⟨G.g, 7, none⟩) (h.slots.blk_ne hb (by decide)) _, h.fn.far (p := ⟨G.g, 7, none⟩) (h.fn.blk_ne hb (by decide)) _, h.kk, h.size, h.fine, Nat.zero_le _, h.zs, by simpa using h.zle⟩,
  ((Fr.refl (oneb G.g) w).setCell ⟨G.g, 7, none⟩ _ (fun _ => rfl)).mono (fun k _ e => .inl e)⟩
 exact Below.heap_setCell w ⟨G.g, 7, none⟩ _ b (by show b ≠ G.g; omega)
theorem FrK.toB (f : FrK G w w') (hg : GeoOk G) : Fr (fun b => G.B ≤ b) w w' := f.mono fun b _ hm => by
 rcases hm with x | x | x | x | ⟨x, _⟩
 · rw [x]; exact hg.hg
 · rw [x]; exact hg.ht
 · rw [x]; exact hg.hs
 · rw [x]; exact hg.hf
 · exact x
theorem Ck.appZ (h : Ck G w s zs k e p) {zv : Value} (hzv : w.cell? ⟨G.g, 5, none⟩ = some zv) {o : Obj} {A : Option Addr} {c : Nat}
   (ho : Own w' 3 1 (.slice A (zs.length + 1) c) (zs.length + 1) (ints zs ++ [.int .i64 (s.size : Nat)]))
   (hf : Fr (obl (blk zv)) (w.alloc o) w') (hv : blk (.slice A (zs.length + 1) c) = blk zv ∨ blk (.slice A (zs.length + 1) c) = some (w.alloc o).heap.size) (hzl : zs.length ≤ 900) :
   Ck (G.atZ (w'.setCell ⟨G.g, 5, none⟩ (.slice A (zs.length + 1) c)).heap.size) (w'.setCell ⟨G.g, 5, none⟩ (.slice A (zs.length + 1) c)) s (zs ++ [s.size]) k e p ∧
   Fr (fun b => G.B ≤ b) w (w'.setCell ⟨G.g, 5, none⟩ (.slice A (zs.length + 1) c)) := by
 obtain ⟨zv', vv, hb, hz0, hz2, hv0, hv2⟩ := h.ex
 have e5 : w.cell? ⟨G.g, 5, none⟩ = some zv' := by rw [hb.cell]; rfl
 rw [e5] at hzv
 injection hzv with hzv
 subst hzv
 have hBg := h.geo.hg
 have hBt := h.geo.ht
 have hBs := h.geo.hs
 have hBf := h.geo.hf
 have hle : G.B ≤ w.heap.size := h.tree.le
 have gt := h.types.blk_lt h.blkT
 have gs := h.slots.blk_lt h.blkS
 have gf := h.fn.blk_lt h.blkF
 have gl := h.g_lt
 have f0 : Fr nob w (w.alloc o) := (Fr.refl nob w).alloc o
 have hsz : w.heap.size < w'.heap.size := by have := hf.size; simp at this; omega
 have hb1 : Blk w' G.g 67 (ckCells G zv' vv k s.size e p) := (hb.fr f0 (fun x => x)).fr hf (fun hm => hz0.blk_ne hb (by decide) hm)
 have own2 : ∀ {e' n m : Nat} {v : Value} {xs : List Value}, Own w e' m v n xs → (∀ b, blk v = some b → ¬ obl (blk zv') b) → blk v ≠ some G.g → Own (w'.setCell ⟨G.g, 5, none⟩ (.slice A (zs.length + 1) c)) e' m v n xs := fun ho' hne hg =>
   ((ho'.fr f0 (fun _ _ x => x)).fr hf hne).far (p := ⟨G.g, 5, none⟩) hg _
 have keep : ∀ b, b < G.B → (w'.setCell ⟨G.g, 5, none⟩ (.slice A (zs.length + 1) c)).heap[b]? = w.heap[b]? := fun b hb' => by
   rw [Below.heap_setCell _ _ _ _ (by show b ≠ G.g; omega), hf.block b (by simp; omega) (fun hm => by have := (hz2 b hm).1; omega)]
   exact Below.heap_alloc _ _ _ (by omega)
 have nt : ∀ b, blk (.slice (some ⟨G.bt, 0, none⟩) G.ns.length G.ct) = some b → ¬ obl (blk zv') b := fun b hb' hm => by
   rw [h.blkT] at hb'; injection hb' with hb'; exact (hz2 b hm).2.1 hb'.symm
 have ns : ∀ b, blk (.slice (some ⟨G.bs, 0, none⟩) G.ns.length G.cs) = some b → ¬ obl (blk zv') b := fun b hb' hm => by
   rw [h.blkS] at hb'; injection hb' with hb'; exact (hz2 b hm).2.2.1 hb'.symm
 have nf : ∀ b, blk (.slice (some ⟨G.bf, 0, none⟩) G.ns.length G.cf) = some b → ¬ obl (blk zv') b := fun b hb' hm => by
   rw [h.blkF] at hb'; injection hb' with hb'; exact (hz2 b hm).2.2.2.1 hb'.symm
 have hzn : Own (w'.setCell ⟨G.g, 5, none⟩ (.slice A (zs.length + 1) c)) 3 1 (.slice A (zs.length + 1) c) (zs ++ [s.size]).length (ints (zs ++ [s.size])) := by
   rw [List.length_append, show ints (zs ++ [s.size]) = ints zs ++ [.int .i64 (s.size : Nat)] by simp [ints]]
   exact ho.far (p := ⟨G.g, 5, none⟩) (ho.blk_ne hb1 (by decide)) _
 refine ⟨⟨h.geo.z (by simp; omega) (by simp; omega) (by simp; omega) (by simp; omega), h.tree.keep keep (by simp; omega), ⟨.slice A (zs.length + 1) c, vv, hb1.setCell 5 _, hzn, fun b hb' => ?_, own2 hv0 (fun b hb' hm => by
     have h1 : blk zv' = some b := hm
     exact hv0.blk_ne' hz0 (by decide) h1 hb') (hv0.blk_ne hb (by decide)), hv2⟩, own2 h.types nt (h.types.blk_ne hb (by decide)), own2 h.slots ns (h.slots.blk_ne hb (by decide)), own2 h.fn nf (h.fn.blk_ne hb (by decide)), h.kk, h.size, h.fine, h.vars, ?_, Nat.le_refl _⟩, ?_⟩
 · show G.B ≤ b ∧ b ≠ G.bt ∧ b ≠ G.bs ∧ b ≠ G.bf ∧ b < (w'.setCell ⟨G.g, 5, none⟩ (.slice A (zs.length + 1) c)).heap.size
   rcases hv with h9 | h9
   · rw [h9] at hb'
     obtain ⟨a1, a2, a3, a4, a5⟩ := hz2 b hb'
     have := hz0.blk_lt hb'
     exact ⟨a1, a2, a3, a4, by simp; omega⟩
   · have hlt := ho.blk_lt hb'
     rw [hb'] at h9; injection h9 with h9; simp at h9
     exact ⟨by omega, by omega, by omega, by omega, by simp; exact hlt⟩
 · rw [List.length_append]; show zs.length + 1 ≤ 1000; omega
 · refine Fr.trans (M1 := nob) f0 (M2 := fun b => G.B ≤ b) ?_ (fun _ _ x => x.elim) (fun _ _ x => x)
   exact Fr.trans (M1 := obl (blk zv')) hf ((Fr.refl (oneb G.g) w').setCell ⟨G.g, 5, none⟩ _ (fun _ => rfl)) (fun b _ hm => (hz2 b hm).1) (fun b _ hm => by rw [show b = G.g from hm]; exact hBg)
end
end Go.Proofs.YtlbjicjinnnboaaDoor
