/- MK2: CkT, CkCall, CkCallB, CkE. -/
import Derived.Test.YtlbjicjinnnboaaDoorMK1
import Derived.Test.YtlbjicjinnnboaaDoorMSg
set_option linter.unusedVariables false
set_option linter.unusedSimpArgs false
/- The document's checker: tells, but for calls. Printed by wip/tools/mktells.py. -/
namespace Go.Proofs.YtlbjicjinnnboaaDoor
open Go.RowKit
open Pw
section
variable {G : Geo} {w w' : World} {s : CkS} {r r' : CkR CkS} {zs : List Nat} {k : Nat} {ex : Nat → CkS → CkR (Nat × CkS)}
set_option maxHeartbeats 4000000 in
set_option maxRecDepth 100000 in
theorem ctells_int {x line : Nat} {n : Nat} (h : Ck G w s zs k 0 0) (hx : G.ns[x]? = some ⟨1, line, n, [], []⟩) :
  Calls Tryd.prog 66 #[.pointer (some ⟨G.g, 0, none⟩), .int .i64 x] w (TellsK G zs k (tellsC G.fs ex x ⟨1, line, n, [], []⟩ s) w) := by
 have M0 := hid (show CkM G w (.good s) zs k from h)
 obtain ⟨nb, nc, kv, hnv, hkv, hown, nlt, hx3, c0, x0, x1, x2, x3, x4⟩ := M0.out.node hx
 dsimp only at hown x0 x1 x2 x3 x4
 have hx4 : (G.ns.length : Int) ≤ 300 := by have := h.geo.few; omega
 have glt := h.g_lt
 have gn : ¬ G.g = w.heap.size := by omega
 have nn : ¬ nb = w.heap.size := by omega
 obtain ⟨KA, KC, rfl, _, _⟩ := hown.cap
 clear h hx hkv hown
 go_enter Tryd.func66, Tryd.ntmps66
 go_wp2_with fail
 go_ret
 exact ⟨1, rfl, M0.out.no ((Fr.refl nob w).alloc _), FrK.no ((Fr.refl nob w).alloc _), fun q hq => by injection hq with hq; subst hq; rfl⟩
set_option maxHeartbeats 4000000 in
set_option maxRecDepth 100000 in
theorem ctells_bool {x line : Nat} {n : Nat} (h : Ck G w s zs k 0 0) (hx : G.ns[x]? = some ⟨2, line, n, [], []⟩) :
  Calls Tryd.prog 66 #[.pointer (some ⟨G.g, 0, none⟩), .int .i64 x] w (TellsK G zs k (tellsC G.fs ex x ⟨2, line, n, [], []⟩ s) w) := by
 have M0 := hid (show CkM G w (.good s) zs k from h)
 obtain ⟨nb, nc, kv, hnv, hkv, hown, nlt, hx3, c0, x0, x1, x2, x3, x4⟩ := M0.out.node hx
 dsimp only at hown x0 x1 x2 x3 x4
 have hx4 : (G.ns.length : Int) ≤ 300 := by have := h.geo.few; omega
 have glt := h.g_lt
 have gn : ¬ G.g = w.heap.size := by omega
 have nn : ¬ nb = w.heap.size := by omega
 obtain ⟨KA, KC, rfl, _, _⟩ := hown.cap
 clear h hx hkv hown
 go_enter Tryd.func66, Tryd.ntmps66
 go_wp2_with fail
 go_ret
 exact ⟨2, rfl, M0.out.no ((Fr.refl nob w).alloc _), FrK.no ((Fr.refl nob w).alloc _), fun q hq => by injection hq with hq; subst hq; rfl⟩
set_option maxHeartbeats 4000000 in
set_option maxRecDepth 100000 in
theorem ctells_text {x line : Nat} {nm : List UInt8} (h : Ck G w s zs k 0 0) (hx : G.ns[x]? = some ⟨3, line, 0, nm, []⟩) :
  Calls Tryd.prog 66 #[.pointer (some ⟨G.g, 0, none⟩), .int .i64 x] w (TellsK G zs k (tellsC G.fs ex x ⟨3, line, 0, nm, []⟩ s) w) := by
 have M0 := hid (show CkM G w (.good s) zs k from h)
 obtain ⟨nb, nc, kv, hnv, hkv, hown, nlt, hx3, c0, x0, x1, x2, x3, x4⟩ := M0.out.node hx
 dsimp only at hown x0 x1 x2 x3 x4
 have hx4 : (G.ns.length : Int) ≤ 300 := by have := h.geo.few; omega
 have glt := h.g_lt
 have gn : ¬ G.g = w.heap.size := by omega
 have nn : ¬ nb = w.heap.size := by omega
 obtain ⟨KA, KC, rfl, _, _⟩ := hown.cap
 clear h hx hkv hown
 go_enter Tryd.func66, Tryd.ntmps66
 go_wp2_with fail
 go_ret
 exact ⟨3, rfl, M0.out.no ((Fr.refl nob w).alloc _), FrK.no ((Fr.refl nob w).alloc _), fun q hq => by injection hq with hq; subst hq; rfl⟩
set_option maxHeartbeats 4000000 in
set_option maxRecDepth 100000 in
theorem ctells_input {x line : Nat} (h : Ck G w s zs k 0 0) (hx : G.ns[x]? = some ⟨19, line, 0, [], []⟩) :
  Calls Tryd.prog 66 #[.pointer (some ⟨G.g, 0, none⟩), .int .i64 x] w (TellsK G zs k (tellsC G.fs ex x ⟨19, line, 0, [], []⟩ s) w) := by
 have M0 := hid (show CkM G w (.good s) zs k from h)
 obtain ⟨nb, nc, kv, hnv, hkv, hown, nlt, hx3, c0, x0, x1, x2, x3, x4⟩ := M0.out.node hx
 dsimp only at hown x0 x1 x2 x3 x4
 have hx4 : (G.ns.length : Int) ≤ 300 := by have := h.geo.few; omega
 have glt := h.g_lt
 have gn : ¬ G.g = w.heap.size := by omega
 have nn : ¬ nb = w.heap.size := by omega
 obtain ⟨KA, KC, rfl, _, _⟩ := hown.cap
 clear h hx hkv hown
 go_enter Tryd.func66, Tryd.ntmps66
 go_wp2_with fail
 go_ret
 exact ⟨1, rfl, M0.out.no ((Fr.refl nob w).alloc _), FrK.no ((Fr.refl nob w).alloc _), fun q hq => by injection hq with hq; subst hq; rfl⟩
set_option maxHeartbeats 4000000 in
set_option maxRecDepth 100000 in
theorem ctells_var {x line : Nat} {nm : List UInt8} (h : Ck G w s zs k 0 0) (hx : G.ns[x]? = some ⟨4, line, 0, nm, []⟩) :
  Calls Tryd.prog 66 #[.pointer (some ⟨G.g, 0, none⟩), .int .i64 x] w (TellsK G zs k (tellsC G.fs ex x ⟨4, line, 0, nm, []⟩ s) w) := by
 have M0 := hid (show CkM G w (.good s) zs k from h)
 obtain ⟨nb, nc, kv, hnv, hkv, hown, nlt, hx3, c0, x0, x1, x2, x3, x4⟩ := M0.out.node hx
 dsimp only at hown x0 x1 x2 x3 x4
 have hx4 : (G.ns.length : Int) ≤ 300 := by have := h.geo.few; omega
 have glt := h.g_lt
 have gn : ¬ G.g = w.heap.size := by omega
 have nn : ¬ nb = w.heap.size := by omega
 obtain ⟨KA, KC, rfl, _, _⟩ := hown.cap
 have HX := hid hx
 have hS := hid h
 clear h hx hkv hown
 go_enter Tryd.func66, Tryd.ntmps66
 go_wp2_with fail
 refine (cnamed_any (hS.out.no ((Fr.refl nob w).alloc _)) HX.out).mono ?_
 rintro en w2 ⟨t, rfl, h2, f2, hq⟩
 have M2 := hid h2
 have F2 := hid ((FrK.no ((Fr.refl nob w).alloc _)).trans f2)
 have HQ := hid hq
 clear h2 f2 hq
 go_wp2_with fail
 go_ret
 exact ⟨t, rfl, M2.out, F2.out, HQ.out⟩
set_option maxHeartbeats 4000000 in
set_option maxRecDepth 100000 in
theorem ctells_len {x line : Nat} {a : Nat} (h : Ck G w s zs k 0 0) (hx : G.ns[x]? = some ⟨6, line, 0, [], [a]⟩) (ha : CexOk G zs k ex a) :
  Calls Tryd.prog 66 #[.pointer (some ⟨G.g, 0, none⟩), .int .i64 x] w (TellsK G zs k (tellsC G.fs ex x ⟨6, line, 0, [], [a]⟩ s) w) := by
 have M0 := hid (show CkM G w (.good s) zs k from h)
 obtain ⟨nb, nc, kv, hnv, hkv, hown, nlt, hx3, c0, x0, x1, x2, x3, x4⟩ := M0.out.node hx
 dsimp only at hown x0 x1 x2 x3 x4
 have hx4 : (G.ns.length : Int) ≤ 300 := by have := h.geo.few; omega
 have glt := h.g_lt
 have gn : ¬ G.g = w.heap.size := by omega
 have nn : ¬ nb = w.heap.size := by omega
 obtain ⟨kb, kc, rfl, hkc, hcell⟩ := kids_get hown (by simp)
 have hkc2 : 1 ≤ kc := by simp at hkc; omega
 have k0 := hcell 0 _ rfl
 have klt : kb < w.heap.size := World.block_lt_of_cell? _ _ k0
 have kn : ¬ kb = w.heap.size := by omega
 have HK := hid (And.intro hx hkv)
 have HA := hid ha
 clear h hx hkv hown hcell ha hkc
 rw [show tellsC G.fs ex x ⟨6, line, 0, [], [a]⟩ s = (ex a s).bind fun r => if r.1 = 3 ∨ r.1 = 4 then CkR.good (1, r.2) else .bad 42 x from rfl]
 go_enter Tryd.func66, Tryd.ntmps66
 go_wp2_with fail
 have C1 := hid (CkC.new M0.out 49 #[.int .i64 6, .int .i64 line, .int .i64 0, .string (bs []), .slice (some ⟨kb, 0, none⟩) 1 kc] (by decide))
 have F1 := hid (show FrK G w (w.alloc (.cells #[.int .i64 6, .int .i64 line, .int .i64 0, .string (bs []), .slice (some ⟨kb, 0, none⟩) 1 kc] 49)) from FrK.no ((Fr.refl nob w).alloc _))
 generalize w.alloc (.cells #[.int .i64 6, .int .i64 line, .int .i64 0, .string (bs []), .slice (some ⟨kb, 0, none⟩) 1 kc] 49) = w1 at *
 generalize w.heap.size = C at *
 clear c0 x0 x1 x2 x3 x4 glt gn nlt nn k0 klt kn
 refine (HA.out w1 _ C1.out.m).mono ?_
 rintro en w2 ⟨t, rfl, h2, f2, hq⟩
 have C2 := hid (C1.out.to h2 f2)
 have F2 := hid (F1.out.trans f2)
 have HQ := hid hq
 clear h2 f2 hq
 have d0 : w2.cell? ⟨C, 0, none⟩ = some (.int .i64 6) := by simpa using C2.out.b.cell 0
 obtain ⟨b3, hb3⟩ : ∃ b, ((t : Int) == 3) = b := ⟨_, rfl⟩
 obtain ⟨b4, hb4⟩ : ∃ b, ((t : Int) == 4) = b := ⟨_, rfl⟩
 have hP : ∀ q, ex a s = .good q → (b3 || b4) = decide (q.1 = 3 ∨ q.1 = 4) := by
  intro q hq
  rw [HQ.out q hq, ← hb3, ← hb4]
  rw [Bool.eq_iff_iff]
  simp only [Bool.or_eq_true, beq_iff_eq, decide_eq_true_eq]
  omega
 have HP := hid hP
 clear hP
 cases b3 <;> cases b4
 all_goals
  go_wp2_with fail
  refine (C2.out.m.must _ x).mono ?_
  rintro en w3 ⟨rfl, h3, f3⟩
  have M3 := hid h3
  have F3 := hid (F2.out.trans f3)
  clear h3 f3
  go_wp2_with fail
  go_ret
  refine ⟨1, rfl, ?_, F3.out, fun q hq => fin_val (q := ex a s) (T := fun _ => 1) (P := fun (n : Nat) => n = 3 ∨ n = 4) hq (fun _ _ => rfl)⟩
  have h9 := M3.out
  have e9 := fin_eq (q := ex a s) (x := x) (T := fun _ => 1) (P := fun (n : Nat) => n = 3 ∨ n = 4) (fun q hq => HP.out q hq)
  rw [show (CkR.good s).bind (ex a) = ex a s from rfl] at h9
  simp only [Bool.or_false, Bool.or_true, Bool.false_or, Bool.true_or, Bool.and_true, Bool.and_false, Bool.false_and, Bool.true_and, Bool.false_eq_true, if_true, if_false, eq_self, ite_true, ite_false] at e9 h9
  rw [e9] at h9
  exact h9
set_option maxHeartbeats 4000000 in
set_option maxRecDepth 100000 in
theorem ctells_neg {x line : Nat} {a : Nat} (h : Ck G w s zs k 0 0) (hx : G.ns[x]? = some ⟨7, line, 0, [], [a]⟩) (ha : CexOk G zs k ex a) :
  Calls Tryd.prog 66 #[.pointer (some ⟨G.g, 0, none⟩), .int .i64 x] w (TellsK G zs k (tellsC G.fs ex x ⟨7, line, 0, [], [a]⟩ s) w) := by
 have M0 := hid (show CkM G w (.good s) zs k from h)
 obtain ⟨nb, nc, kv, hnv, hkv, hown, nlt, hx3, c0, x0, x1, x2, x3, x4⟩ := M0.out.node hx
 dsimp only at hown x0 x1 x2 x3 x4
 have hx4 : (G.ns.length : Int) ≤ 300 := by have := h.geo.few; omega
 have glt := h.g_lt
 have gn : ¬ G.g = w.heap.size := by omega
 have nn : ¬ nb = w.heap.size := by omega
 obtain ⟨kb, kc, rfl, hkc, hcell⟩ := kids_get hown (by simp)
 have hkc2 : 1 ≤ kc := by simp at hkc; omega
 have k0 := hcell 0 _ rfl
 have klt : kb < w.heap.size := World.block_lt_of_cell? _ _ k0
 have kn : ¬ kb = w.heap.size := by omega
 have HK := hid (And.intro hx hkv)
 have HA := hid ha
 clear h hx hkv hown hcell ha hkc
 rw [show tellsC G.fs ex x ⟨7, line, 0, [], [a]⟩ s = (ex a s).bind fun r => if r.1 = 1 then CkR.good (1, r.2) else .bad 42 x from rfl]
 go_enter Tryd.func66, Tryd.ntmps66
 go_wp2_with fail
 have C1 := hid (CkC.new M0.out 49 #[.int .i64 7, .int .i64 line, .int .i64 0, .string (bs []), .slice (some ⟨kb, 0, none⟩) 1 kc] (by decide))
 have F1 := hid (show FrK G w (w.alloc (.cells #[.int .i64 7, .int .i64 line, .int .i64 0, .string (bs []), .slice (some ⟨kb, 0, none⟩) 1 kc] 49)) from FrK.no ((Fr.refl nob w).alloc _))
 generalize w.alloc (.cells #[.int .i64 7, .int .i64 line, .int .i64 0, .string (bs []), .slice (some ⟨kb, 0, none⟩) 1 kc] 49) = w1 at *
 generalize w.heap.size = C at *
 clear c0 x0 x1 x2 x3 x4 glt gn nlt nn k0 klt kn
 refine (HA.out w1 _ C1.out.m).mono ?_
 rintro en w2 ⟨t, rfl, h2, f2, hq⟩
 have C2 := hid (C1.out.to h2 f2)
 have F2 := hid (F1.out.trans f2)
 have HQ := hid hq
 clear h2 f2 hq
 have d0 : w2.cell? ⟨C, 0, none⟩ = some (.int .i64 7) := by simpa using C2.out.b.cell 0
 obtain ⟨b1, hb1⟩ : ∃ b, ((t : Int) == 1) = b := ⟨_, rfl⟩
 have hP : ∀ q, ex a s = .good q → (b1) = decide (q.1 = 1) := by
  intro q hq
  rw [HQ.out q hq, ← hb1]
  rw [Bool.eq_iff_iff]
  simp only [Bool.or_eq_true, beq_iff_eq, decide_eq_true_eq]
  omega
 have HP := hid hP
 clear hP
 cases b1
 all_goals
  go_wp2_with fail
  refine (C2.out.m.must _ x).mono ?_
  rintro en w3 ⟨rfl, h3, f3⟩
  have M3 := hid h3
  have F3 := hid (F2.out.trans f3)
  clear h3 f3
  go_wp2_with fail
  go_ret
  refine ⟨1, rfl, ?_, F3.out, fun q hq => fin_val (q := ex a s) (T := fun _ => 1) (P := fun (n : Nat) => n = 1) hq (fun _ _ => rfl)⟩
  have h9 := M3.out
  have e9 := fin_eq (q := ex a s) (x := x) (T := fun _ => 1) (P := fun (n : Nat) => n = 1) (fun q hq => HP.out q hq)
  rw [show (CkR.good s).bind (ex a) = ex a s from rfl] at h9
  simp only [Bool.or_false, Bool.or_true, Bool.false_or, Bool.true_or, Bool.and_true, Bool.and_false, Bool.false_and, Bool.true_and, Bool.false_eq_true, if_true, if_false, eq_self, ite_true, ite_false] at e9 h9
  rw [e9] at h9
  exact h9
set_option maxHeartbeats 4000000 in
set_option maxRecDepth 100000 in
theorem ctells_not {x line : Nat} {a : Nat} (h : Ck G w s zs k 0 0) (hx : G.ns[x]? = some ⟨8, line, 0, [], [a]⟩) (ha : CexOk G zs k ex a) :
  Calls Tryd.prog 66 #[.pointer (some ⟨G.g, 0, none⟩), .int .i64 x] w (TellsK G zs k (tellsC G.fs ex x ⟨8, line, 0, [], [a]⟩ s) w) := by
 have M0 := hid (show CkM G w (.good s) zs k from h)
 obtain ⟨nb, nc, kv, hnv, hkv, hown, nlt, hx3, c0, x0, x1, x2, x3, x4⟩ := M0.out.node hx
 dsimp only at hown x0 x1 x2 x3 x4
 have hx4 : (G.ns.length : Int) ≤ 300 := by have := h.geo.few; omega
 have glt := h.g_lt
 have gn : ¬ G.g = w.heap.size := by omega
 have nn : ¬ nb = w.heap.size := by omega
 obtain ⟨kb, kc, rfl, hkc, hcell⟩ := kids_get hown (by simp)
 have hkc2 : 1 ≤ kc := by simp at hkc; omega
 have k0 := hcell 0 _ rfl
 have klt : kb < w.heap.size := World.block_lt_of_cell? _ _ k0
 have kn : ¬ kb = w.heap.size := by omega
 have HK := hid (And.intro hx hkv)
 have HA := hid ha
 clear h hx hkv hown hcell ha hkc
 rw [show tellsC G.fs ex x ⟨8, line, 0, [], [a]⟩ s = (ex a s).bind fun r => if r.1 = 2 then CkR.good (2, r.2) else .bad 42 x from rfl]
 go_enter Tryd.func66, Tryd.ntmps66
 go_wp2_with fail
 have C1 := hid (CkC.new M0.out 49 #[.int .i64 8, .int .i64 line, .int .i64 0, .string (bs []), .slice (some ⟨kb, 0, none⟩) 1 kc] (by decide))
 have F1 := hid (show FrK G w (w.alloc (.cells #[.int .i64 8, .int .i64 line, .int .i64 0, .string (bs []), .slice (some ⟨kb, 0, none⟩) 1 kc] 49)) from FrK.no ((Fr.refl nob w).alloc _))
 generalize w.alloc (.cells #[.int .i64 8, .int .i64 line, .int .i64 0, .string (bs []), .slice (some ⟨kb, 0, none⟩) 1 kc] 49) = w1 at *
 generalize w.heap.size = C at *
 clear c0 x0 x1 x2 x3 x4 glt gn nlt nn k0 klt kn
 refine (HA.out w1 _ C1.out.m).mono ?_
 rintro en w2 ⟨t, rfl, h2, f2, hq⟩
 have C2 := hid (C1.out.to h2 f2)
 have F2 := hid (F1.out.trans f2)
 have HQ := hid hq
 clear h2 f2 hq
 have d0 : w2.cell? ⟨C, 0, none⟩ = some (.int .i64 8) := by simpa using C2.out.b.cell 0
 obtain ⟨b2, hb2⟩ : ∃ b, ((t : Int) == 2) = b := ⟨_, rfl⟩
 have hP : ∀ q, ex a s = .good q → (b2) = decide (q.1 = 2) := by
  intro q hq
  rw [HQ.out q hq, ← hb2]
  rw [Bool.eq_iff_iff]
  simp only [Bool.or_eq_true, beq_iff_eq, decide_eq_true_eq]
  omega
 have HP := hid hP
 clear hP
 cases b2
 all_goals
  go_wp2_with fail
  refine (C2.out.m.must _ x).mono ?_
  rintro en w3 ⟨rfl, h3, f3⟩
  have M3 := hid h3
  have F3 := hid (F2.out.trans f3)
  clear h3 f3
  go_wp2_with fail
  go_ret
  refine ⟨2, rfl, ?_, F3.out, fun q hq => fin_val (q := ex a s) (T := fun _ => 2) (P := fun (n : Nat) => n = 2) hq (fun _ _ => rfl)⟩
  have h9 := M3.out
  have e9 := fin_eq (q := ex a s) (x := x) (T := fun _ => 2) (P := fun (n : Nat) => n = 2) (fun q hq => HP.out q hq)
  rw [show (CkR.good s).bind (ex a) = ex a s from rfl] at h9
  simp only [Bool.or_false, Bool.or_true, Bool.false_or, Bool.true_or, Bool.and_true, Bool.and_false, Bool.false_and, Bool.true_and, Bool.false_eq_true, if_true, if_false, eq_self, ite_true, ite_false] at e9 h9
  rw [e9] at h9
  exact h9
set_option maxHeartbeats 4000000 in
set_option maxRecDepth 100000 in
theorem ctells_new {x line : Nat} {a : Nat} (h : Ck G w s zs k 0 0) (hx : G.ns[x]? = some ⟨20, line, 0, [], [a]⟩) (ha : CexOk G zs k ex a) :
  Calls Tryd.prog 66 #[.pointer (some ⟨G.g, 0, none⟩), .int .i64 x] w (TellsK G zs k (tellsC G.fs ex x ⟨20, line, 0, [], [a]⟩ s) w) := by
 have M0 := hid (show CkM G w (.good s) zs k from h)
 obtain ⟨nb, nc, kv, hnv, hkv, hown, nlt, hx3, c0, x0, x1, x2, x3, x4⟩ := M0.out.node hx
 dsimp only at hown x0 x1 x2 x3 x4
 have hx4 : (G.ns.length : Int) ≤ 300 := by have := h.geo.few; omega
 have glt := h.g_lt
 have gn : ¬ G.g = w.heap.size := by omega
 have nn : ¬ nb = w.heap.size := by omega
 obtain ⟨kb, kc, rfl, hkc, hcell⟩ := kids_get hown (by simp)
 have hkc2 : 1 ≤ kc := by simp at hkc; omega
 have k0 := hcell 0 _ rfl
 have klt : kb < w.heap.size := World.block_lt_of_cell? _ _ k0
 have kn : ¬ kb = w.heap.size := by omega
 have HK := hid (And.intro hx hkv)
 have HA := hid ha
 clear h hx hkv hown hcell ha hkc
 rw [show tellsC G.fs ex x ⟨20, line, 0, [], [a]⟩ s = (ex a s).bind fun r => if r.1 = 1 then CkR.good (4, r.2) else .bad 42 x from rfl]
 go_enter Tryd.func66, Tryd.ntmps66
 go_wp2_with fail
 have C1 := hid (CkC.new M0.out 49 #[.int .i64 20, .int .i64 line, .int .i64 0, .string (bs []), .slice (some ⟨kb, 0, none⟩) 1 kc] (by decide))
 have F1 := hid (show FrK G w (w.alloc (.cells #[.int .i64 20, .int .i64 line, .int .i64 0, .string (bs []), .slice (some ⟨kb, 0, none⟩) 1 kc] 49)) from FrK.no ((Fr.refl nob w).alloc _))
 generalize w.alloc (.cells #[.int .i64 20, .int .i64 line, .int .i64 0, .string (bs []), .slice (some ⟨kb, 0, none⟩) 1 kc] 49) = w1 at *
 generalize w.heap.size = C at *
 clear c0 x0 x1 x2 x3 x4 glt gn nlt nn k0 klt kn
 refine (HA.out w1 _ C1.out.m).mono ?_
 rintro en w2 ⟨t, rfl, h2, f2, hq⟩
 have C2 := hid (C1.out.to h2 f2)
 have F2 := hid (F1.out.trans f2)
 have HQ := hid hq
 clear h2 f2 hq
 have d0 : w2.cell? ⟨C, 0, none⟩ = some (.int .i64 20) := by simpa using C2.out.b.cell 0
 obtain ⟨b1, hb1⟩ : ∃ b, ((t : Int) == 1) = b := ⟨_, rfl⟩
 have hP : ∀ q, ex a s = .good q → (b1) = decide (q.1 = 1) := by
  intro q hq
  rw [HQ.out q hq, ← hb1]
  rw [Bool.eq_iff_iff]
  simp only [Bool.or_eq_true, beq_iff_eq, decide_eq_true_eq]
  omega
 have HP := hid hP
 clear hP
 cases b1
 all_goals
  go_wp2_with fail
  refine (C2.out.m.must _ x).mono ?_
  rintro en w3 ⟨rfl, h3, f3⟩
  have M3 := hid h3
  have F3 := hid (F2.out.trans f3)
  clear h3 f3
  go_wp2_with fail
  go_ret
  refine ⟨4, rfl, ?_, F3.out, fun q hq => fin_val (q := ex a s) (T := fun _ => 4) (P := fun (n : Nat) => n = 1) hq (fun _ _ => rfl)⟩
  have h9 := M3.out
  have e9 := fin_eq (q := ex a s) (x := x) (T := fun _ => 4) (P := fun (n : Nat) => n = 1) (fun q hq => HP.out q hq)
  rw [show (CkR.good s).bind (ex a) = ex a s from rfl] at h9
  simp only [Bool.or_false, Bool.or_true, Bool.false_or, Bool.true_or, Bool.and_true, Bool.and_false, Bool.false_and, Bool.true_and, Bool.false_eq_true, if_true, if_false, eq_self, ite_true, ite_false] at e9 h9
  rw [e9] at h9
  exact h9
set_option maxHeartbeats 4000000 in
set_option maxRecDepth 100000 in
theorem ctells_index {x line : Nat} {nm : List UInt8} {a : Nat} (h : Ck G w s zs k 0 0) (hx : G.ns[x]? = some ⟨5, line, 0, nm, [a]⟩) (ha : CexOk G zs k ex a) :
  Calls Tryd.prog 66 #[.pointer (some ⟨G.g, 0, none⟩), .int .i64 x] w (TellsK G zs k (tellsC G.fs ex x ⟨5, line, 0, nm, [a]⟩ s) w) := by
 have M0 := hid (show CkM G w (.good s) zs k from h)
 obtain ⟨nb, nc, kv, hnv, hkv, hown, nlt, hx3, c0, x0, x1, x2, x3, x4⟩ := M0.out.node hx
 dsimp only at hown x0 x1 x2 x3 x4
 have hx4 : (G.ns.length : Int) ≤ 300 := by have := h.geo.few; omega
 have glt := h.g_lt
 have gn : ¬ G.g = w.heap.size := by omega
 have nn : ¬ nb = w.heap.size := by omega
 obtain ⟨kb, kc, rfl, hkc, hcell⟩ := kids_get hown (by simp)
 have hkc2 : 1 ≤ kc := by simp at hkc; omega
 have k0 := hcell 0 _ rfl
 have klt : kb < w.heap.size := World.block_lt_of_cell? _ _ k0
 have kn : ¬ kb = w.heap.size := by omega
 have HK := hid (And.intro hx hkv)
 have HA := hid ha
 have hS := hid h
 clear h hx hkv hown hcell ha hkc
 go_enter Tryd.func66, Tryd.ntmps66
 go_wp2_with fail
 have S1 := hid (show Ck G (w.alloc (.cells #[.int .i64 5, .int .i64 line, .int .i64 0, .string (bs nm), .slice (some ⟨kb, 0, none⟩) 1 kc] 49)) s zs k 0 0 from hS.out.no ((Fr.refl nob w).alloc _))
 have C1 := hid (CkC.new M0.out 49 #[.int .i64 5, .int .i64 line, .int .i64 0, .string (bs nm), .slice (some ⟨kb, 0, none⟩) 1 kc] (by decide))
 have F1 := hid (show FrK G w (w.alloc (.cells #[.int .i64 5, .int .i64 line, .int .i64 0, .string (bs nm), .slice (some ⟨kb, 0, none⟩) 1 kc] 49)) from FrK.no ((Fr.refl nob w).alloc _))
 generalize w.alloc (.cells #[.int .i64 5, .int .i64 line, .int .i64 0, .string (bs nm), .slice (some ⟨kb, 0, none⟩) 1 kc] 49) = w1 at *
 generalize w.heap.size = C at *
 clear c0 x0 x1 x2 x3 x4 glt gn nlt nn k0 klt kn
 refine (cnamed_any S1.out HK.out.1).mono ?_
 rintro en w2 ⟨t, rfl, h2, f2, hq⟩
 have C2 := hid (C1.out.to h2 f2)
 have F2 := hid (F1.out.trans f2)
 have HQ := hid hq
 clear h2 f2 hq
 have d4 : w2.cell? ⟨C, 4, none⟩ = some (.slice (some ⟨kb, 0, none⟩) 1 kc) := by simpa using C2.out.b.cell 4
 have k0 := C2.out.m.kid HK.out.1 HK.out.2 (j := 0) (a := a) rfl
 go_wp2_with fail
 refine (HA.out w2 _ C2.out.m).mono ?_
 rintro en w3 ⟨u, rfl, h3, f3, hq⟩
 have C3 := hid (C2.out.to h3 f3)
 have F3 := hid (F2.out.trans f3)
 have HU := hid hq
 clear h3 f3 hq d4 k0
 obtain ⟨b4, hb4⟩ : ∃ b, ((t : Int) == 4) = b := ⟨_, rfl⟩
 obtain ⟨b1, hb1⟩ : ∃ b, ((u : Int) == 1) = b := ⟨_, rfl⟩
 have E := hid (show tellsC G.fs ex x ⟨5, line, 0, nm, [a]⟩ s = ((namedC x nm s).bind fun t => (ex a t.2).map fun r => ((t.1, r.1), r.2)).bind fun r => if r.1.1 = 4 ∧ r.1.2 = 1 then CkR.good (1, r.2) else .bad 42 x from by
  show ((namedC x nm s).bind fun t => (ex a t.2).bind fun r => if t.1 = 4 ∧ r.1 = 1 then CkR.good (1, r.2) else .bad 42 x) = _
  cases namedC x nm s with
  | bad e p => rfl
  | good q =>
    simp only [CkR.bind_good]
    cases ex a q.2 <;> rfl)
 have E2 := hid (show (((namedC x nm s).map (·.2)).bind (ex a)).map (·.2) = ((namedC x nm s).bind fun t => (ex a t.2).map fun r => ((t.1, r.1), r.2)).map (·.2) from by
  cases namedC x nm s with
  | bad e p => rfl
  | good q =>
    simp only [CkR.bind_good, CkR.map_good]
    cases ex a q.2 <;> rfl)
 have HP := hid (show ∀ q, ((namedC x nm s).bind fun t => (ex a t.2).map fun r => ((t.1, r.1), r.2)) = .good q → (b4 && b1) = decide (q.1.1 = 4 ∧ q.1.2 = 1) from by
  intro q hq
  obtain ⟨c, hc, hq⟩ := CkR.bind_eq hq
  obtain ⟨d, hd, hq⟩ := CkR.map_eq hq
  subst hq
  have h1 := HQ.out c hc
  have h2 := HU.out d (by rw [hc]; exact hd)
  show _ = decide (c.1 = 4 ∧ d.1 = 1)
  rw [h1, h2, ← hb4, ← hb1, Bool.eq_iff_iff]
  simp only [Bool.and_eq_true, beq_iff_eq, decide_eq_true_eq]
  omega)
 cases b4 <;> cases b1
 all_goals
  go_wp2_with fail
  refine (C3.out.m.must _ x).mono ?_
  rintro en w4 ⟨rfl, h4, f4⟩
  have M4 := hid h4
  have F4 := hid (F3.out.trans f4)
  clear h4 f4
  go_wp2_with fail
  go_ret
  refine ⟨1, rfl, ?_, F4.out, fun q hq => ?_⟩
  · have h9 := M4.out
    have e9 := fin_eq (x := x) (T := fun _ => 1) (P := fun (n : Nat × Nat) => n.1 = 4 ∧ n.2 = 1) (fun q hq => HP.out q hq)
    rw [E2.out] at h9
    simp only [Bool.or_false, Bool.or_true, Bool.false_or, Bool.true_or, Bool.and_true, Bool.and_false, Bool.false_and, Bool.true_and, Bool.false_eq_true, if_true, if_false, eq_self, ite_true, ite_false] at e9 h9
    rw [e9] at h9
    rw [E.out]; exact h9
  · rw [E.out] at hq
    exact fin_val (T := fun _ => 1) (P := fun (n : Nat × Nat) => n.1 = 4 ∧ n.2 = 1) hq (fun _ _ => rfl)
set_option maxHeartbeats 4000000 in
set_option maxRecDepth 100000 in
theorem ctells_bin {x line : Nat} {nm : List UInt8} {a b : Nat} (h : Ck G w s zs k 0 0) (hx : G.ns[x]? = some ⟨9, line, 0, nm, [a, b]⟩) (hs : nm ∈ allSigns) (ha : CexOk G zs k ex a) (hb : CexOk G zs k ex b) :
   Calls Tryd.prog 66 #[.pointer (some ⟨G.g, 0, none⟩), .int .i64 x] w (TellsK G zs k (tellsC G.fs ex x ⟨9, line, 0, nm, [a, b]⟩ s) w) := by
 have M0 := hid (show CkM G w (.good s) zs k from h)
 obtain ⟨nb, nc, kv, hnv, hkv, hown, nlt, hx3, c0, x0, x1, x2, x3, x4⟩ := M0.out.node hx
 dsimp only at hown x0 x1 x2 x3 x4
 have hx4 : (G.ns.length : Int) ≤ 300 := by have := h.geo.few; omega
 have glt := h.g_lt
 have gn : ¬ G.g = w.heap.size := by omega
 have nn : ¬ nb = w.heap.size := by omega
 obtain ⟨kb, kc, rfl, hkc, hcell⟩ := kids_get hown (by simp)
 have hkc2 : 2 ≤ kc := by simp at hkc; omega
 have k0 := hcell 0 _ rfl
 have k1 := hcell 1 _ rfl
 have klt : kb < w.heap.size := World.block_lt_of_cell? _ _ k0
 have kn : ¬ kb = w.heap.size := by omega
 have HK := hid (And.intro hx hkv)
 have HA := hid ha
 have HB := hid hb
 have HS := hid hs
 clear h hx hkv hown hcell ha hb hs hkc
 go_enter Tryd.func66, Tryd.ntmps66
 go_wp2_with fail
 have C1 := hid (CkC.new M0.out 49 #[.int .i64 9, .int .i64 line, .int .i64 0, .string (bs nm), .slice (some ⟨kb, 0, none⟩) 2 kc] (by decide))
 have F1 := hid (show FrK G w (w.alloc (.cells #[.int .i64 9, .int .i64 line, .int .i64 0, .string (bs nm), .slice (some ⟨kb, 0, none⟩) 2 kc] 49)) from FrK.no ((Fr.refl nob w).alloc _))
 generalize w.alloc (.cells #[.int .i64 9, .int .i64 line, .int .i64 0, .string (bs nm), .slice (some ⟨kb, 0, none⟩) 2 kc] 49) = w1 at *
 generalize w.heap.size = C at *
 clear c0 x0 x1 x2 x3 x4 glt gn nlt nn k0 k1 klt kn
 refine (HA.out w1 _ C1.out.m).mono ?_
 rintro en w2 ⟨t, rfl, h2, f2, hq⟩
 have C2 := hid (C1.out.to h2 f2)
 have F2 := hid (F1.out.trans f2)
 have HQ := hid hq
 clear h2 f2 hq
 have d4 : w2.cell? ⟨C, 4, none⟩ = some (.slice (some ⟨kb, 0, none⟩) 2 kc) := by simpa using C2.out.b.cell 4
 have k1 := C2.out.m.kid HK.out.1 HK.out.2 (j := 1) (a := b) rfl
 go_wp2_with fail
 refine (HB.out w2 _ C2.out.m).mono ?_
 rintro en w3 ⟨u, rfl, h3, f3, hq⟩
 have C3 := hid (C2.out.to h3 f3)
 have F3 := hid (F2.out.trans f3)
 have HU := hid hq
 clear h3 f3 hq d4 k1
 have d3 : w3.cell? ⟨C, 3, none⟩ = some (.string (bs nm)) := by simpa using C3.out.b.cell 3
 go_wp2_with fail
 refine (cbin_any HS.out t u w3).mono ?_
 rintro en w4 ⟨rfl, hf⟩
 have C4 := hid (C3.out.no hf)
 have F4 := hid (F3.out.trans (FrK.no hf))
 clear hf d3
 have E := hid (show tellsC G.fs ex x ⟨9, line, 0, nm, [a, b]⟩ s = ((ex a s).bind fun t => (ex b t.2).map fun r => ((t.1, r.1), r.2)).bind fun r => if binT nm r.1.1 r.1.2 ≠ 0 then CkR.good (binT nm r.1.1 r.1.2, r.2) else .bad 42 x from by
   show ((ex a s).bind fun t => (ex b t.2).bind fun r => if binT nm t.1 r.1 = 0 then CkR.bad 42 x else .good (binT nm t.1 r.1, r.2)) = _
   cases ex a s with
   | bad e p => rfl
   | good q =>
    simp only [CkR.bind_good]
    cases ex b q.2 with
    | bad e p => rfl
    | good u =>
     simp only [CkR.bind_good, CkR.map_good]
     by_cases hz : binT nm q.1 u.1 = 0
     · rw [if_pos hz, if_neg (by simpa using hz)]
     · rw [if_neg hz, if_pos hz])
 have E2 := hid (show ((((CkR.good s).bind (ex a)).map (·.2)).bind (ex b)).map (·.2) = ((ex a s).bind fun t => (ex b t.2).map fun r => ((t.1, r.1), r.2)).map (·.2) from by
   rw [CkR.bind_good]
   cases ex a s with
   | bad e p => rfl
   | good q =>
    simp only [CkR.bind_good, CkR.map_good]
    cases ex b q.2 <;> rfl)
 generalize hN : binT nm t u = N at *
 obtain ⟨b0, hb0⟩ : ∃ b, ((N : Int) != 0) = b := ⟨_, rfl⟩
 have HV := hid (show ∀ q, ((ex a s).bind fun t => (ex b t.2).map fun r => ((t.1, r.1), r.2)) = .good q → binT nm q.1.1 q.1.2 = N from by
   intro q hq
   obtain ⟨c, hc, hq⟩ := CkR.bind_eq hq
   obtain ⟨d, hd, hq⟩ := CkR.map_eq hq
   subst hq
   have h1 := HQ.out c hc
   have h2 := HU.out d (by rw [CkR.bind_good, hc]; exact hd)
   show binT nm c.1 d.1 = N
   rw [h1, h2, hN])
 have HP := hid (show ∀ q, ((ex a s).bind fun t => (ex b t.2).map fun r => ((t.1, r.1), r.2)) = .good q → b0 = decide (binT nm q.1.1 q.1.2 ≠ 0) from by
   intro q hq
   rw [HV.out q hq, ← hb0, Bool.eq_iff_iff]
   simp only [bne_iff_ne, decide_eq_true_eq]
   omega)
 clear hN
 go_wp2_with fail
 refine (C4.out.m.must _ x).mono ?_
 rintro en w5 ⟨rfl, h5, f5⟩
 have M5 := hid h5
 have F5 := hid (F4.out.trans f5)
 clear h5 f5
 go_wp2_with fail
 go_ret
 refine ⟨N, rfl, ?_, F5.out, fun q hq => ?_⟩
 · have h9 := M5.out
   rw [E2.out, fin_eq (T := fun n => binT nm n.1 n.2) (P := fun (n : Nat × Nat) => binT nm n.1 n.2 ≠ 0) (fun q hq => HP.out q hq)] at h9
   rw [E.out]; exact h9
 · rw [E.out] at hq
   exact fin_val (T := fun n => binT nm n.1 n.2) (P := fun (n : Nat × Nat) => binT nm n.1 n.2 ≠ 0) hq (fun q hq => HV.out q hq)
end
theorem argsC_snoc (ex : Nat → CkS → CkR (Nat × CkS)) (a : Nat) : ∀ (l : List Nat) (s : CkS), argsC ex (l ++ [a]) s = (argsC ex l s).bind fun r => (ex a r.2).map fun q => (r.1 ++ [q.1], q.2)
 | [], s => by
  show (ex a s).bind _ = _
  rw [show argsC ex [] s = .good ([], s) from rfl]
  simp only [CkR.bind_good]
  cases ex a s <;> rfl
 | b :: l, s => by
  rw [List.cons_append]
  show (ex b s).bind _ = ((ex b s).bind _).bind _
  cases ex b s with
  | bad e p => rfl
  | good q =>
   simp only [CkR.bind_good]
   rw [argsC_snoc ex a l q.2]
   cases argsC ex l q.2 with
   | bad e p => rfl
   | good u =>
    simp only [CkR.bind_good, CkR.map_good]
    cases ex a u.2 <;> rfl
theorem argsC_bad {ex : Nat → CkS → CkR (Nat × CkS)} {e p : Nat} : ∀ (l m : List Nat) (s : CkS), argsC ex l s = .bad e p → argsC ex (l ++ m) s = .bad e p := by
 intro l m
 induction m generalizing l with
 | nil => intro s h; rw [List.append_nil]; exact h
 | cons a m ih =>
  intro s h
  have : l ++ a :: m = (l ++ [a]) ++ m := by simp
  rw [this]
  exact ih (l ++ [a]) s (by rw [argsC_snoc, h]; rfl)
theorem argsC_len {ex : Nat → CkS → CkR (Nat × CkS)} : ∀ (l : List Nat) (s : CkS) {q : List Nat × CkS}, argsC ex l s = .good q → q.1.length = l.length
 | [], s, q, h => by injection h with h; subst h; rfl
 | a :: l, s, q, h => by
  obtain ⟨u, h1, h⟩ := CkR.bind_eq h
  obtain ⟨v, h2, h⟩ := CkR.map_eq h
  subst h
  have := argsC_len l _ h2
  simp [this]
def afterC (q : CkR (List Nat × CkS)) (ps : List Nat) (x i : Nat) : CkR CkS :=
 q.bind fun r => if r.1.length ≠ ps.length then .bad 43 x else if r.1.take i ≠ ps.take i then .bad 42 x else .good r.2
theorem afterC_zero_eq {q : CkR (List Nat × CkS)} {ps : List Nat} {x : Nat} (h : ∀ r, q = .good r → r.1.length = ps.length) : q.map (·.2) = afterC q ps x 0 := by
 cases q with
 | bad e p => rfl
 | good r => simp [afterC, h r rfl]
theorem afterC_zero_ne {q : CkR (List Nat × CkS)} {ps : List Nat} {x : Nat} (h : ∀ r, q = .good r → r.1.length ≠ ps.length) : ((q.map (·.2)).bind fun _ => CkR.bad 43 x) = afterC q ps x 0 := by
 cases q with
 | bad e p => rfl
 | good r => simp [afterC, h r rfl]
theorem afterC_step {q : CkR (List Nat × CkS)} {ps : List Nat} {x i : Nat} {b : Bool} (h : ∀ r, q = .good r → i < r.1.length → i < ps.length → b = decide (r.1[i]? = ps[i]?)) (hi : ∀ r, q = .good r → i < r.1.length) :
  ((afterC q ps x i).bind fun s => if b = true then CkR.good s else .bad 42 x) = afterC q ps x (i + 1) := by
 cases q with
 | bad e p => rfl
 | good r =>
  simp only [afterC, CkR.bind_good]
  by_cases hl : r.1.length = ps.length
  · have hl1 : ¬ (r.1.length ≠ ps.length) := by simpa using hl
    rw [if_neg hl1, if_neg hl1]
    have hir := hi r rfl
    have hb := h r rfl hir (by omega)
    have e1 : r.1.take (i + 1) = r.1.take i ++ [r.1[i]] := by rw [List.take_add_one, List.getElem?_eq_getElem hir]; rfl
    have e2 : ps.take (i + 1) = ps.take i ++ [ps[i]'(by omega)] := by rw [List.take_add_one, List.getElem?_eq_getElem (by omega : i < ps.length)]; rfl
    rw [List.getElem?_eq_getElem hir, List.getElem?_eq_getElem (by omega : i < ps.length)] at hb
    by_cases ht : r.1.take i = ps.take i
    · have ht1 : ¬ (r.1.take i ≠ ps.take i) := by simpa using ht
      rw [if_neg ht1, CkR.bind_good, hb]
      by_cases hv : r.1[i] = ps[i]'(by omega)
      · have h1 : ¬ (r.1.take (i + 1) ≠ ps.take (i + 1)) := by rw [e1, e2, ht, hv]; simp
        rw [if_neg h1, decide_eq_true (by rw [hv])]; simp
      · have h1 : r.1.take (i + 1) ≠ ps.take (i + 1) := by
         intro h9
         rw [e1, e2] at h9
         exact hv (by simpa using List.append_inj_right' h9 rfl)
        rw [if_pos h1, decide_eq_false (by simpa using hv)]; simp
    · have h1 : r.1.take (i + 1) ≠ ps.take (i + 1) := by
        intro h9
        rw [e1, e2] at h9
        exact ht (List.append_inj_left' h9 rfl)
      rw [if_pos h1, if_pos ht, CkR.bind_bad]
  · rw [if_pos hl, if_pos hl, CkR.bind_bad]
theorem afterC_bad {q : CkR (List Nat × CkS)} {ps : List Nat} {x i e p : Nat} (h : afterC q ps x i = .bad e p) {m : Nat} (hm : i ≤ m) : afterC q ps x m = .bad e p := by
 cases q with
 | bad e p => exact h
 | good r =>
  simp only [afterC, CkR.bind_good] at h ⊢
  split at h
  · rename_i h1; rw [if_pos h1]; exact h
  · rename_i h1
    rw [if_neg h1]
    split at h
    · rename_i h2
      rw [if_pos]
      · exact h
      · intro h3
        apply h2
        have := congrArg (List.take i) h3
        rw [List.take_take, List.take_take, Nat.min_eq_left hm] at this
        exact this
    · cases h
theorem afterC_fin {q : CkR (List Nat × CkS)} {ps : List (List UInt8 × Nat)} {x i T : Nat} (h : ∀ r, q = .good r → r.1.length ≤ i) :
  afterC q (ps.map (·.2)) x i = (q.bind fun r => if r.1.length ≠ ps.length then CkR.bad 43 x else if r.1 ≠ ps.map (·.2) then .bad 42 x else .good (T, r.2)).map (·.2) := by
 cases q with
 | bad e p => rfl
 | good r =>
  have hr := h r rfl
  simp only [afterC, CkR.bind_good, List.length_map]
  by_cases hl : r.1.length = ps.length
  · have hl1 : ¬ (r.1.length ≠ ps.length) := by simpa using hl
    rw [if_neg hl1, if_neg hl1, List.take_of_length_le hr, List.take_of_length_le (by rw [List.length_map]; omega)]
    split <;> rfl
  · rw [if_pos hl, if_pos hl]; rfl
theorem afterC_val {q : CkR (List Nat × CkS)} {ps : List (List UInt8 × Nat)} {x T : Nat} {u : Nat × CkS} (h : (q.bind fun r => if r.1.length ≠ ps.length then CkR.bad 43 x else if r.1 ≠ ps.map (·.2) then .bad 42 x else .good (T, r.2)) = .good u) : u.1 = T := by
 obtain ⟨r, _, h⟩ := CkR.bind_eq h
 split at h
 · cases h
 · split at h
   · cases h
   · injection h with h; subst h; rfl
def KpK (G : Geo) (Q : World → Prop) : Prop := ∀ w w', FrK G w w' → Q w → Q w'
theorem kp_blk {G : Geo} {C t : Nat} {cs : Array Value} (n0 : C ≠ G.g) (n1 : C ≠ G.bt) (n2 : C ≠ G.bs) (n3 : C ≠ G.bf) (nv : t ≠ 84) : KpK G (fun w => Blk w C t cs) := fun w w' f h => f.far h n0 n1 n2 n3 nv
theorem kp_own {G : Geo} (hg : GeoOk G) {t size n : Nat} {v : Value} {xs : List Value} (nv : t ≠ 84) (hz : ∀ b, blk v = some b → G.Z ≤ b) : KpK G (fun w => Own w t size v n xs) := fun w w' f h =>
 f.own h nv fun b hb => by
  have := hz b hb
  have := hg.lg; have := hg.lt; have := hg.ls; have := hg.lf
  exact ⟨by omega, by omega, by omega, by omega⟩
theorem kp_and {G : Geo} {P Q : World → Prop} (h : KpK G P) (h' : KpK G Q) : KpK G (fun w => P w ∧ Q w) := fun w w' f ⟨a, b⟩ => ⟨h w w' f a, h' w w' f b⟩
structure CkW (G : Geo) (Q : World → Prop) (w : World) (r : CkR CkS) (zs : List Nat) (k : Nat) : Prop where
 m : CkM G w r zs k
 q : Q w
 kp : KpK G Q
section
variable {G : Geo} {Q : World → Prop} {w w' : World} {s : CkS} {r r' : CkR CkS} {zs : List Nat} {k : Nat}
theorem CkW.to (h : CkW G Q w r zs k) (h' : CkM G w' r' zs k) (f : FrK G w w') : CkW G Q w' r' zs k := ⟨h', h.kp _ _ f h.q, h.kp⟩
theorem CkW.no (h : CkW G Q w r zs k) (f : Fr nob w w') : CkW G Q w' r zs k := ⟨h.m.no f, h.kp _ _ (FrK.no f) h.q, h.kp⟩
theorem CkM.Zle (h : CkM G w r zs k) : G.Z ≤ w.heap.size := by
 obtain ⟨s, e, p, h, _⟩ := h.open_
 exact h.zle
theorem kp_new (h : CkM G w r zs k) {C : Nat} (hC : w.heap.size ≤ C) {t : TypeId} {cs : Array Value} (nv : t ≠ 84) : KpK G (fun w => Blk w C t cs) := by
 obtain ⟨h1, h2, h3, h4⟩ := h.slot_lt
 exact kp_blk (by omega) (by omega) (by omega) (by omega) nv
theorem FrK.app {w0 w w' : World} {v : Value} (f : FrK G w0 w) (f' : Fr (obl (blk v)) w w') (hv : ∀ b, blk v = some b → w0.heap.size ≤ b) : FrK G w0 w' :=
 Fr.trans f f' (fun _ _ x => x) (fun b hb hm => absurd hb (by have := hv b hm; omega))
theorem CkM.app {t size n : Nat} {v : Value} {xs : List Value} (h : CkM G w r zs k) (ho : Own w t size v n xs) (nv : t ≠ 84) (hz : ∀ b, blk v = some b → G.Z ≤ b) (f : Fr (obl (blk v)) w w') : CkM G w' r zs k :=
 h.other f fun b hm _ => ⟨hz b hm, not_var ho nv hm⟩
theorem CkM.kidrow (h : CkM G w r zs k) {x : Nat} {nd : NodeM} (hx : G.ns[x]? = some nd) {A : Option Addr} {n c : Nat} (hlv : G.lvs[x]? = some (.slice A n c)) {j a : Nat} (ha : nd.l[j]? = some a) : ∃ kb, A = some ⟨kb, 0, none⟩ ∧ w.cell? ⟨kb, j, none⟩ = some (.int .i64 (a : Nat)) ∧ n = nd.l.length ∧ n ≤ c := by
 have ho : Own w 3 1 (.slice A n c) nd.l.length (ints nd.l) := h.tree.tree.below.get hx hlv
 obtain ⟨kb', c', e, hc', hc⟩ := kids_get ho (by have := (List.getElem?_eq_some_iff.1 ha).1; omega)
 injection e with e e2 e3
 exact ⟨kb', e, hc j a ha, e2, by omega⟩
theorem CkM.parrow (h : CkM G w r zs k) {j : Nat} {f : FuncM} (hf : G.fs[j]? = some f) {A : Option Addr} {n c : Nat} (hpv : G.pvs[j]? = some (.slice A n c)) {i : Nat} {q : List UInt8 × Nat} (hq : f.params[i]? = some q) : ∃ pb, A = some ⟨pb, 0, none⟩ ∧ w.cell? ⟨pb, i * 2, none⟩ = some (.string (bs q.1)) ∧ w.cell? ⟨pb, i * 2 + 1, none⟩ = some (.int .i64 (q.2 : Nat)) := by
 have ho : Own w 80 2 (.slice A n c) f.params.length (paramCells f.params) := h.tree.tree.pars.get hf hpv
 have h0 : 0 < f.params.length := by have := (List.getElem?_eq_some_iff.1 hq).1; omega
 have hn := ho.capn.2.2
 subst hn
 obtain ⟨pb, e, hc⟩ := ho.some h0
 exact ⟨pb, e, hc _ _ (paramCells_get hq).1, hc _ _ (paramCells_get hq).2⟩
theorem CkM.three (h : CkM G w r zs k) {j : Nat} {f : FuncM} (hf : G.fs[j]? = some f) {pb n c : Nat} (hpv : G.pvs[j]? = some (.slice (some ⟨pb, 0, none⟩) n c)) {i : Nat} {q : List UInt8 × Nat} (hq : f.params[i]? = some q) {D t : Nat} {cs : Array Value} (hD : Blk w D t cs) {u : Value} (hc : cs[2]? = some u)
  {tb m c' : Nat} {tl : List Nat} (ho : Own w 3 1 (.slice (some ⟨tb, 0, none⟩) m c') m (ints tl)) {ti : Nat} (ht : tl[i]? = some ti) : w.cell? ⟨D, 2, none⟩ = some u ∧ w.cell? ⟨tb, i, none⟩ = some (.int .i64 (ti : Nat)) ∧ w.cell? ⟨pb, i * 2 + 1, none⟩ = some (.int .i64 (q.2 : Nat)) := by
 obtain ⟨pb', e, -, p1⟩ := h.parrow hf hpv hq
 injection e with e
 injection e with e
 subst e
 have hl : (ints tl).length = m * 1 := ho.len
 have hi := (List.getElem?_eq_some_iff.1 ht).1
 obtain ⟨tb', e, hcc⟩ := ho.some (by simp [ints] at hl; omega)
 injection e with e
 injection e with e
 subst e
 exact ⟨(hD.cell 2).trans hc, hcc i (.int .i64 (ti : Nat)) (by simp [ints, ht]), p1⟩
theorem CkM.fnc (h : CkM G w r zs k) {j : Nat} {f : FuncM} (hf : G.fs[j]? = some f) : ∃ fb fc pv, G.fv = .slice (some ⟨fb, 0, none⟩) G.fs.length fc ∧ fb < w.heap.size ∧ w.cell? ⟨G.g, 1, none⟩ = some (.slice (some ⟨fb, 0, none⟩) G.fs.length fc) ∧
  G.pvs[j]? = some pv ∧ Own w 80 2 pv f.params.length (paramCells f.params) ∧
  w.cell? ⟨fb, j * 5, none⟩ = some (.string (bs f.name)) ∧ w.cell? ⟨fb, j * 5 + 1, none⟩ = some (.int .i64 f.line) ∧ w.cell? ⟨fb, j * 5 + 2, none⟩ = some pv ∧ w.cell? ⟨fb, j * 5 + 3, none⟩ = some (.int .i64 f.ret) ∧ w.cell? ⟨fb, j * 5 + 4, none⟩ = some (.int .i64 f.body) := by
 have hlt := (List.getElem?_eq_some_iff.1 hf).1
 have htr := h.tree.tree
 obtain ⟨s, e, p, h0, _⟩ := h.open_
 obtain ⟨zv, vv, _, c1, _⟩ := h0.cells
 obtain ⟨A, c, e, hc, _⟩ := htr.fns.cap
 have hno := htr.fns
 rw [e] at hno
 obtain ⟨fb, e2, hcell⟩ := hno.some (by omega)
 subst e2
 obtain ⟨pv, hpv⟩ : ∃ pv, G.pvs[j]? = some pv := ⟨_, List.getElem?_eq_getElem (by have := htr.samef; omega)⟩
 have key := fnCells_all hf hpv
 exact ⟨fb, c, pv, e, hno.blk_lt (by simp [blk]; omega), by rw [← e]; exact c1, hpv, htr.pars.get hf hpv, hcell _ _ (key 0 _ rfl), hcell _ _ (key 1 _ rfl), hcell _ _ (key 2 _ rfl), hcell _ _ (key 3 _ rfl), hcell _ _ (key 4 _ rfl)⟩
end
section
variable {G : Geo} {w w' : World} {s : CkS} {zs : List Nat} {k : Nat} {ex : Nat → CkS → CkR (Nat × CkS)}
set_option maxHeartbeats 8000000 in
set_option maxRecDepth 100000 in
theorem ccall_any (hu : (G.fs.map (·.name)).Nodup) {x line : Nat} {nm : List UInt8} {l : List Nat} (h : Ck G w s zs k 0 0) (hx : G.ns[x]? = some ⟨21, line, 0, nm, l⟩) (hl : ∀ a ∈ l, CexOk G zs k ex a) :
  Calls Tryd.prog 69 #[.pointer (some ⟨G.g, 0, none⟩), .int .i64 x] w (TellsK G zs k (callC G.fs ex x ⟨21, line, 0, nm, l⟩ s) w) := by
 have M0 := hid (show CkM G w (.good s) zs k from h)
 obtain ⟨nb, nc, kv, hnv, hkv, hown, nlt, hx3, c0, x0, x1, x2, x3, x4⟩ := M0.out.node hx
 dsimp only at hown x0 x1 x2 x3 x4
 have hx4 : (G.ns.length : Int) ≤ 300 := by have := h.geo.few; omega
 have glt := h.g_lt
 have gn : ¬ G.g = w.heap.size := by omega
 have nn : ¬ nb = w.heap.size := by omega
 obtain ⟨KA, KC, rfl, -, -⟩ := hown.cap
 have HK := hid (And.intro hx hkv)
 have hl3 : l.length ≤ 300 := h.geo.fewk _ (List.mem_of_getElem? hx)
 have hf6 : (G.fs.length : Int) ≤ 6 := by have := h.geo.fewf; omega
 have hf0 : 0 < G.fs.length := by have := h.kk; omega
 obtain ⟨f0, hf0⟩ : ∃ f, G.fs[0]? = some f := ⟨_, List.getElem?_eq_getElem hf0⟩
 have HL := hid hl
 have HU := hid hu
 obtain ⟨fb, fc, pv0, hfv, flt, c1, -⟩ := M0.out.fnc hf0
 have HFV := hid hfv
 have C1 := hid (CkC.new M0.out 49 #[.int .i64 21, .int .i64 line, .int .i64 0, .string (bs nm), .slice KA l.length KC] (by decide))
 have F1 := hid (show Fr nob w (w.alloc (.cells #[.int .i64 21, .int .i64 line, .int .i64 0, .string (bs nm), .slice KA l.length KC] 49)) from (Fr.refl nob w).alloc _)
 have HF0 := hid hf0
 clear h hx hkv hown hl hu hf0 hfv
 go_enter Tryd.func69, Tryd.ntmps69
 go_wp2_with fail
 clear c0 x0 x1 x2 x3 x4 glt gn nlt nn c1 flt
 generalize w.alloc (.cells #[.int .i64 21, .int .i64 line, .int .i64 0, .string (bs nm), .slice KA l.length KC] 49) = w1 at *
 generalize hC : w.heap.size = C at *
 have HC := hid hC
 clear hC
 go_loopw [6, 7] (fun q i wr => ∃ j : Nat, j ≤ G.fs.length ∧ i = .int .i64 j ∧ q = .int .i64 (placeI (findF (G.fs.take j) nm)) ∧ Hid (Fr nob w1 wr)) (fun q i _ => G.fs.length - (intOf i).toNat)
 case atStart => exact ⟨0, Nat.zero_le _, rfl, rfl, hid (Fr.refl nob w1)⟩
 case round =>
  obtain ⟨j, hj, rfl, rfl, FR⟩ := hrel
  have C2 := hid (C1.out.no FR.out)
  by_cases hlt : j < G.fs.length
  · have hlt2 : (j : Int) < (G.fs.length : Int) := by omega
    have hj6 : (j : Int) ≤ 6 := by omega
    obtain ⟨f, hf⟩ : ∃ f, G.fs[j]? = some f := ⟨_, List.getElem?_eq_getElem hlt⟩
    obtain ⟨fb', fc', pv, hfv, flt, c1, -, -, y0, -⟩ := C2.out.m.fnc hf
    have d3 : wr.cell? ⟨C, 3, none⟩ = some (.string (bs nm)) := by simpa using C2.out.b.cell 3
    have HT := hid (findF_take HU.out hf nm)
    clear hf hfv
    by_cases he : f.name = nm
    · have q0 : ((bs f.name).toList == (bs nm).toList) = true := bs_eq.2 he
      rw [if_pos he] at HT
      clear he
      go_wp2_with fail
      go_quiet (fail)
      go_wp2_with fail
      go_roundw
      case rel => exact ⟨j + 1, by omega, by go_num, by rw [HT.out]; rfl, hid (by first | exact FR.out | exact FR.out.drewN _)⟩
      case measure => simp [intOf]; omega
    · have q0 : ((bs f.name).toList == (bs nm).toList) = false := by
        rw [Bool.eq_false_iff]; intro x; exact he (bs_eq.1 x)
      rw [if_neg he] at HT
      clear he
      go_wp2_with fail
      go_quiet (fail)
      go_wp2_with fail
      go_roundw
      case rel => exact ⟨j + 1, by omega, by go_num, by rw [HT.out], hid (by first | exact FR.out | exact FR.out.drewN _)⟩
      case measure => simp [intOf]; omega
  · have hle : (G.fs.length : Int) ≤ (j : Int) := by omega
    rw [List.take_of_length_le (by omega)]
    obtain ⟨_, _, _, hfv, flt, c1, -⟩ := C2.out.m.fnc HF0.out
    rw [HFV.out] at hfv
    injection hfv with e1 e2 e3
    injection e1 with e1
    injection e1 with e1
    subst e1
    subst e3
    cases hF : findF G.fs nm with
    | none =>
      have E := hid (show callC G.fs ex x ⟨21, line, 0, nm, l⟩ s = .bad 40 x from by unfold callC; rw [hF])
      clear hF e2
      go_wp2_with fail
      refine (C2.out.m.fails 40 x (by decide) (by decide)).mono ?_
      rintro en w3 ⟨rfl, h3, f3⟩
      have M3 := hid h3
      have F3 := hid f3
      clear h3 f3
      go_wp2_with fail
      go_ret
      refine ⟨0, rfl, ?_, (FrK.no (F1.out.tr FR.out)).trans F3.out, fun q hq => ?_⟩
      · rw [E.out]; exact M3.out
      · rw [E.out] at hq; cases hq
    | some q =>
      have hq : q < G.fs.length := by unfold findF at hF; exact (List.findIdx?_eq_some_iff_getElem.1 hF).1
      obtain ⟨f, hf⟩ : ∃ f, G.fs[q]? = some f := ⟨_, List.getElem?_eq_getElem hq⟩
      have E := hid (show callC G.fs ex x ⟨21, line, 0, nm, l⟩ s = (argsC ex l s).bind fun r => if r.1.length ≠ f.params.length then .bad 43 x else if r.1 ≠ f.params.map (·.2) then .bad 42 x else .good (f.ret, r.2) from by
        unfold callC
        rw [hF]
        simp only [hf, Option.map_some, Option.getD_some])
      have hq3 : (q : Int) < (G.fs.length : Int) := by omega
      obtain ⟨_, _, pv, hfv, -, -, hpv, hpo, y0, y1, y2, y3, y4⟩ := C2.out.m.fnc hf
      rw [HFV.out] at hfv
      injection hfv with e1 e2 e3
      injection e1 with e1
      injection e1 with e1
      subst e1
      obtain ⟨PA, PC, rfl, -, -⟩ := hpo.cap
      have gn : ¬ G.g = wr.heap.size := by have := C2.out.m.slot_lt; omega
      have fn : ¬ fb = wr.heap.size := by omega
      have hq0 : ¬ (q : Int) < 0 := by omega
      clear e2 e3 hF
      rw [show placeI (some q) = ((q : Nat) : Int) from rfl]
      have HQ := hid (And.intro hf hpv)
      have hpl : f.params.length ≤ 3 := C2.out.m.geo.fewp f (List.mem_of_getElem? hf)
      have hpl2 : (f.params.length : Int) ≤ 3 := by omega
      have hll2 : (l.length : Int) ≤ 300 := by omega
      have hll4 : (l.length : Int) ≤ 9223372036854775807 := by omega
      clear hf hpv hpo
      have D0 := hid (show Blk ((wr.alloc (.cells #[.string (bs f.name), .int .i64 f.line, .slice PA f.params.length PC, .int .i64 f.ret, .int .i64 f.body] 43)).alloc (.cells #[] 3)) wr.heap.size 43 #[.string (bs f.name), .int .i64 f.line, .slice PA f.params.length PC, .int .i64 f.ret, .int .i64 f.body] from (Blk.new wr _ _).alloc _)
      have F2 := hid (show Fr nob wr ((wr.alloc (.cells #[.string (bs f.name), .int .i64 f.line, .slice PA f.params.length PC, .int .i64 f.ret, .int .i64 f.body] 43)).alloc (.cells #[] 3)) from ((Fr.refl nob wr).alloc _).alloc _)
      have W0 := hid (show CkW G (fun w => Blk w C 49 #[.int .i64 21, .int .i64 line, .int .i64 0, .string (bs nm), .slice KA l.length KC] ∧ Blk w wr.heap.size 43 #[.string (bs f.name), .int .i64 f.line, .slice PA f.params.length PC, .int .i64 f.ret, .int .i64 f.body]) ((wr.alloc (.cells #[.string (bs f.name), .int .i64 f.line, .slice PA f.params.length PC, .int .i64 f.ret, .int .i64 f.body] 43)).alloc (.cells #[] 3)) (.good s) zs k from ⟨C2.out.m.no F2.out, ⟨C2.out.b.fr F2.out (fun x => x), D0.out⟩, kp_and (kp_blk C2.out.n0 C2.out.n1 C2.out.n2 C2.out.n3 (by decide)) (kp_new C2.out.m (Nat.le_refl _) (by decide))⟩)
      have O0 := hid (show Own ((wr.alloc (.cells #[.string (bs f.name), .int .i64 f.line, .slice PA f.params.length PC, .int .i64 f.ret, .int .i64 f.body] 43)).alloc (.cells #[] 3)) 3 1 (.slice (some ⟨wr.heap.size + 1, 0, none⟩) 0 0) 0 (ints []) from Own.empty _ _ _ _)
      have FK := hid (show FrK G w ((wr.alloc (.cells #[.string (bs f.name), .int .i64 f.line, .slice PA f.params.length PC, .int .i64 f.ret, .int .i64 f.body] 43)).alloc (.cells #[] 3)) from FrK.no ((F1.out.tr FR.out).tr F2.out))
      have HZ := hid (show G.Z ≤ C from by rw [← HC.out]; exact M0.out.Zle)
      go_wp2_with fail
      clear y0 y1 y2 y3 y4 gn fn flt c1 D0 F2
      generalize (wr.alloc (.cells #[.string (bs f.name), .int .i64 f.line, .slice PA f.params.length PC, .int .i64 f.ret, .int .i64 f.body] 43)).alloc (.cells #[] 3) = w3 at *
      generalize wr.heap.size = D at *
      clear C2 FR C1 F1
      go_loopw [9, 10] (fun tv i wq => ∃ (j : Nat) (tl : List Nat) (A : Option Addr) (c : Nat), j ≤ l.length ∧ i = .int .i64 j ∧ tv = .slice A j c ∧ Hid (CkW G (fun w => Blk w C 49 #[.int .i64 21, .int .i64 line, .int .i64 0, .string (bs nm), .slice KA l.length KC] ∧ Blk w D 43 #[.string (bs f.name), .int .i64 f.line, .slice PA f.params.length PC, .int .i64 f.ret, .int .i64 f.body]) wq ((argsC ex (l.take j) s).map (·.2)) zs k) ∧ Hid (Own wq 3 1 (.slice A j c) j (ints tl)) ∧ Hid (∀ b, blk (.slice A j c) = some b → C ≤ b) ∧ Hid (∀ q, argsC ex (l.take j) s = .good q → q.1 = tl) ∧ Hid (FrK G w wq)) (fun _ i _ => l.length - (intOf i).toNat)
      case atStart => exact ⟨0, [], _, _, Nat.zero_le _, rfl, rfl, W0, O0, hid (fun b hb => by simp [blk] at hb), hid (fun q hq => by injection hq with hq; subst hq; rfl), FK⟩
      case round =>
        clear W0 O0 FK
        obtain ⟨j2, tl, A, c, hj2, rfl, rfl, W, O, OB, HG, FK⟩ := hrel
        have htl : tl.length = j2 := by have := O.out.len; simpa [ints] using this
        obtain ⟨s', e, p, hck, hm⟩ := W.out.m.open_
        obtain ⟨_, _, -, -, -, -, -, -, -, -, -, c9, -⟩ := hck.cells
        have d4 : wr.cell? ⟨C, 4, none⟩ = some (.slice KA l.length KC) := by simpa using W.out.q.1.cell 4
        by_cases hgo : j2 < l.length ∧ e = 0
        · obtain ⟨hlt, rfl⟩ := hgo
          have hlt2 : (j2 : Int) < (l.length : Int) := by omega
          obtain ⟨a, ha⟩ : ∃ a, l[j2]? = some a := ⟨_, List.getElem?_eq_getElem hlt⟩
          obtain ⟨kb, e, k0, -, hkc⟩ := W.out.m.kidrow HK.out.1 HK.out.2 (j := j2) ha
          subst e
          have HA := hid (HL.out a (List.mem_of_getElem? ha))
          have HT := hid (show l.take (j2 + 1) = l.take j2 ++ [a] from by rw [List.take_add_one, ha]; rfl)
          have HTL := hid htl
          have HHJ := hid hlt
          clear hck hm ha htl
          go_wp2_with fail
          refine (HA.out wr _ W.out.m).mono ?_
          rintro en w4 ⟨t, rfl, h4, f4, hq4⟩
          have W4 := hid (W.out.to h4 f4)
          have O4 := hid (kp_own W.out.m.geo (by decide) (fun b hb => Nat.le_trans HZ.out (OB.out b hb)) _ _ f4 O.out)
          have F4 := hid (FK.out.trans f4)
          have HQ4 := hid hq4
          clear h4 f4 hq4 c9 d4 k0
          go_wp2_with (at_builtin; go_loud (refine wpList_append (m := 1) (news := [.int .i64 (t : Nat)]) rfl _ _ rfl TyInts rfl rfl (O4.out.alloc _) (Rd.ofBlk (n := 1) (cs := [.int .i64 (t : Nat)]) (Blk.new _ _ _) rfl (by decide)) (by simp [Value.oneCell']) (by omega) (by unfold maxLen; omega) ?_); intro A5 c5 w5 ho5 hf5 hv5; have O5 := hid ho5; have F5 := hid hf5; have V5 := hid hv5; clear ho5 hf5 hv5)
          have hov := hid (fun b (hb : blk (.slice A j2 c) = some b) => not_var (O4.out.alloc (.cells #[.int .i64 (t : Nat)] 3)) (by decide) hb)
          have W5 := hid (show CkW G _ w5 _ zs k from ⟨(W4.out.m.no ((Fr.refl nob w4).alloc (.cells #[.int .i64 (t : Nat)] 3))).app (O4.out.alloc _) (by decide) (fun b hb => Nat.le_trans HZ.out (OB.out b hb)) F5.out,
            ⟨(W4.out.q.1.alloc _).fr F5.out (fun hm => (O4.out.alloc (.cells #[.int .i64 (t : Nat)] 3)).blk_ne (W4.out.q.1.alloc (.cells #[.int .i64 (t : Nat)] 3)) (by decide) hm), (W4.out.q.2.alloc _).fr F5.out (fun hm => (O4.out.alloc (.cells #[.int .i64 (t : Nat)] 3)).blk_ne (W4.out.q.2.alloc (.cells #[.int .i64 (t : Nat)] 3)) (by decide) hm)⟩, W4.out.kp⟩)
          have FK5 := hid ((F4.out.trans (FrK.no ((Fr.refl nob w4).alloc (.cells #[.int .i64 (t : Nat)] 3)))).app F5.out (fun b hb => by rw [HC.out]; exact OB.out b hb))
          have OB5 := hid (show ∀ b, blk (.slice A5 (j2 + 1) c5) = some b → C ≤ b from fun b hb => by
            rcases V5.out with h9 | h9
            · exact OB.out b (h9 ▸ hb)
            · rw [hb] at h9; injection h9 with h9
              have := F4.out.size; rw [HC.out] at this; simp at h9; omega)
          go_roundw
          case rel =>
            refine ⟨j2 + 1, tl ++ [t], A5, c5, by have := HHJ.out; omega, by go_num, rfl, hid ?_, hid ?_, OB5, hid ?_, FK5⟩
            · have h9 := W5.out
              rw [HT.out, argsC_snoc]
              have e9 : ((((argsC ex (l.take j2) s).map (·.2)).bind (ex a)).map (·.2)) = ((argsC ex (l.take j2) s).bind fun r => (ex a r.2).map fun q => (r.1 ++ [q.1], q.2)).map (·.2) := by
                cases argsC ex (l.take j2) s with
                | bad e p => rfl
                | good u =>
                  simp only [CkR.map_good, CkR.bind_good]
                  cases ex a u.2 <;> rfl
              rw [← e9]; exact h9
            · have h9 := O5.out
              rw [show ints (tl ++ [t]) = ints tl ++ [.int .i64 (t : Nat)] by simp [ints]]
              exact h9
            · intro q9 hq9
              rw [HT.out, argsC_snoc] at hq9
              obtain ⟨u, hu9, hq9⟩ := CkR.bind_eq hq9
              obtain ⟨v, hv9, hq9⟩ := CkR.map_eq hq9
              subst hq9
              have h8 := HG.out u hu9
              have h7 := HQ4.out v (by rw [hu9]; exact hv9)
              show u.1 ++ [v.1] = _
              rw [h8, h7]
          case measure => simp [intOf]; have := HHJ.out; omega
        · have EX := hid (show CkW G (fun w => Blk w C 49 #[.int .i64 21, .int .i64 line, .int .i64 0, .string (bs nm), .slice KA l.length KC] ∧ Blk w D 43 #[.string (bs f.name), .int .i64 f.line, .slice PA f.params.length PC, .int .i64 f.ret, .int .i64 f.body]) wr ((argsC ex l s).map (·.2)) zs k ∧ (∀ q, argsC ex l s = .good q → q.1 = tl) from by
            by_cases hj9 : j2 < l.length
            · have he : e ≠ 0 := fun h => hgo ⟨hj9, h⟩
              rcases hm with ⟨h0, _⟩ | ⟨_, h99, hm⟩
              · exact absurd h0 he
              · have hb : argsC ex (l.take j2) s = .bad e p := by
                  cases hA : argsC ex (l.take j2) s with
                  | bad e' p' => rw [hA] at hm; simpa using hm
                  | good u => rw [hA] at hm; cases hm
                have hb2 : argsC ex l s = .bad e p := by
                  have := argsC_bad (l.take j2) (l.drop j2) s hb
                  rwa [List.take_append_drop] at this
                refine ⟨⟨?_, W.out.q, W.out.kp⟩, fun q hq => by rw [hb2] at hq; cases hq⟩
                rw [hb2]; exact ⟨he, h99, s', hck⟩
            · have : l.take j2 = l := List.take_of_length_le (by omega)
              have h1 := W.out
              have h2 := HG.out
              rw [this] at h1 h2
              exact ⟨h1, h2⟩)
          have HTL := hid htl
          have hj7 : (j2 : Int) ≤ 300 := by omega
          have d2 : wr.cell? ⟨D, 2, none⟩ = some (.slice PA f.params.length PC) := by simpa using W.out.q.2.cell 2
          have LE := hid (show ∀ r, argsC ex l s = .good r → r.1.length = l.length from fun r hr => argsC_len l s hr)
          have tail : ∀ (wz : World), Hid (CkW G (fun w => Blk w C 49 #[.int .i64 21, .int .i64 line, .int .i64 0, .string (bs nm), .slice KA l.length KC] ∧ Blk w D 43 #[.string (bs f.name), .int .i64 f.line, .slice PA f.params.length PC, .int .i64 f.ret, .int .i64 f.body]) wz (afterC (argsC ex l s) (f.params.map (·.2)) x 0) zs k) → True := fun _ _ => trivial
          clear tail
          by_cases hp : l.length = f.params.length
          · have hpb : ((l.length : Int) != (f.params.length : Int)) = false := by rw [hp]; simp
            have W3 := hid (show CkW G _ wr (afterC (argsC ex l s) (f.params.map (·.2)) x 0) zs k from by
              rw [← afterC_zero_eq (fun r hr => by rw [LE.out r hr, List.length_map]; exact hp)]; exact EX.out.1)
            by_cases hlt : j2 < l.length
            · have hlt2 : (j2 : Int) < (l.length : Int) := by omega
              have he : ((e : Int) == 0) = false := beq_eq_false_iff_ne.2 (by intro h; exact hgo ⟨hlt, by omega⟩)
              clear hgo hm hck hp hlt htl
              go_wp2_with fail
              have WX := W3
              have OX := O
              have FX := FK
              have EX2 := hid EX.out.2
              clear W3
              go_loopw [12] (fun i wq => ∃ i2 : Nat, i2 ≤ j2 ∧ i = .int .i64 i2 ∧ Hid (CkW G (fun w => Blk w C 49 #[.int .i64 21, .int .i64 line, .int .i64 0, .string (bs nm), .slice KA l.length KC] ∧ Blk w D 43 #[.string (bs f.name), .int .i64 f.line, .slice PA f.params.length PC, .int .i64 f.ret, .int .i64 f.body]) wq (afterC (argsC ex l s) (f.params.map (·.2)) x i2) zs k) ∧ Hid (Own wq 3 1 (.slice A j2 c) j2 (ints tl)) ∧ Hid (FrK G w wq)) (fun i _ => j2 - (intOf i).toNat)
              case atStart => exact ⟨0, Nat.zero_le _, rfl, WX, OX, FX⟩
              case round =>
                clear WX OX FX
                try clear W O FK EX c9 d4 d2
                obtain ⟨i2, hi2, rfl, W7, O7, F7⟩ := hrel
                obtain ⟨s7, e7, p7, hck, hm⟩ := W7.out.m.open_
                obtain ⟨_, _, -, -, -, -, -, -, -, -, -, c9, -⟩ := hck.cells
                have d2 : wr.cell? ⟨D, 2, none⟩ = some (.slice PA f.params.length PC) := by simpa using W7.out.q.2.cell 2
                have d3 : wr.cell? ⟨D, 3, none⟩ = some (.int .i64 f.ret) := by simpa using W7.out.q.2.cell 3
                by_cases hgo : i2 < j2 ∧ e7 = 0
                · obtain ⟨hlt, rfl⟩ := hgo
                  have hlt2 : (i2 : Int) < (j2 : Int) := by omega
                  have hR : ∃ r, argsC ex l s = .good r ∧ r.1.length = f.params.length := by
                    rcases hm with ⟨_, _, hm⟩ | ⟨h0, _⟩
                    · obtain ⟨r, hr, hm⟩ := CkR.bind_eq hm
                      refine ⟨r, hr, ?_⟩
                      split at hm
                      · cases hm
                      · rename_i h9; simpa using h9
                    · exact absurd rfl h0
                  obtain ⟨r, hr, hrl⟩ := hR
                  have hrt := EX2.out r hr
                  have hi9 : i2 < f.params.length := by rw [← hrl, hrt, HTL.out]; exact hlt
                  have hi8 : (i2 : Int) < (f.params.length : Int) := by omega
                  obtain ⟨qq, hqq⟩ : ∃ qq, f.params[i2]? = some qq := ⟨_, List.getElem?_eq_getElem hi9⟩
                  obtain ⟨ti, hti⟩ : ∃ ti, tl[i2]? = some ti := ⟨_, List.getElem?_eq_getElem (by rw [HTL.out]; exact hlt)⟩
                  obtain ⟨pb, e, -, p1⟩ := W7.out.m.parrow HQ.out.1 HQ.out.2 hqq
                  obtain ⟨tb, e', hc⟩ := O7.out.some (by omega)
                  have t0 := hc i2 (.int .i64 (ti : Nat)) (by simp [ints, hti])
                  subst e
                  subst e'
                  obtain ⟨b, hb⟩ : ∃ b, ((ti : Int) == (qq.2 : Int)) = b := ⟨_, rfl⟩
                  have HS := hid (show ((afterC (argsC ex l s) (f.params.map (·.2)) x i2).bind fun s => if b = true then CkR.good s else .bad 42 x) = afterC (argsC ex l s) (f.params.map (·.2)) x (i2 + 1) from
                    afterC_step (fun r hr _ _ => by
                      rw [EX2.out r hr, hti, List.getElem?_map, hqq, ← hb, Bool.eq_iff_iff]
                      simp only [Option.map_some, Option.some.injEq, beq_iff_eq, decide_eq_true_eq]
                      omega) (fun r hr => by rw [EX2.out r hr, HTL.out]; exact hlt))
                  have K2 := hid d2
                  have KP := hid p1
                  have KT := hid t0
                  have HI := hid hlt
                  have HQQ := hid hqq
                  have HTI := hid hti
                  clear hck hm hr hrl hrt hqq hti hc d3
                  clear hi9 hlt
                  go_wp2_with fail
                  go_region_held3 (fun wx => wx.cell? ⟨D, 2, none⟩ = some (.slice (some ⟨pb, 0, none⟩) f.params.length PC) ∧ wx.cell? ⟨tb, i2, none⟩ = some (.int .i64 (ti : Nat)) ∧ wx.cell? ⟨pb, i2 * 2 + 1, none⟩ = some (.int .i64 (qq.2 : Nat))) (first | exact ⟨K2.out, KT.out, KP.out⟩ | exact K8.out) (first | (go_at_call 60; go_loud (with_reducible refine ((W7.out.m.no ((Fr.refl nob wr).drew)).must _ x).mono ?_); go_loud (rintro en w8 ⟨rfl, h8, f8⟩); go_loud (have W8 := hid ((W7.out.no ((Fr.refl nob wr).drew)).to h8 f8)); go_loud (have O8 := hid (kp_own W8.out.m.geo (by decide) (fun b hb => Nat.le_trans HZ.out (OB.out b hb)) _ _ ((FrK.no ((Fr.refl nob wr).drew)).trans f8) O7.out)); go_loud (have F8 := hid (F7.out.trans ((FrK.no ((Fr.refl nob wr).drew)).trans f8))); go_loud (have K8 := hid (W8.out.m.three HQ.out.1 HQ.out.2 HQQ.out W8.out.q.2 rfl O8.out HTI.out)); go_loud (clear h8 f8)))
                  go_wp2_with fail
                  go_roundw
                  case rel => exact ⟨i2 + 1, by have := HI.out; omega, by go_num, hid (by rw [← HS.out]; first | exact W8.out | exact W8.out.no ((Fr.refl nob _).drew)), hid (by first | exact O8.out | exact O8.out.drewN _), hid (by first | exact F8.out | exact F8.out.trans (FrK.no ((Fr.refl nob _).drew)))⟩
                  case measure => simp [intOf]; have := HI.out; omega
                · have HF := hid (show CkM G wr ((callC G.fs ex x ⟨21, line, 0, nm, l⟩ s).map (·.2)) zs k from by
                    rw [E.out, ← afterC_fin (i := j2) (fun r hr => by rw [EX2.out r hr, HTL.out]; exact Nat.le_refl _)]
                    rcases hm with ⟨h0, _, hm⟩ | ⟨h0, h99, hm⟩
                    · have : i2 = j2 := by
                        by_cases h : i2 < j2
                        · exact absurd ⟨h, h0⟩ hgo
                        · omega
                      rw [← this]; exact W7.out.m
                    · rw [afterC_bad hm hi2]; exact ⟨h0, h99, s7, hck⟩)
                  by_cases hlt : i2 < j2
                  · have hlt2 : (i2 : Int) < (j2 : Int) := by omega
                    have he : ((e7 : Int) == 0) = false := beq_eq_false_iff_ne.2 (by intro h; exact hgo ⟨hlt, by omega⟩)
                    clear hgo hm hck hlt
                    go_wp2_with fail
                    go_ret
                    exact ⟨f.ret, rfl, HF.out, F7.out, fun u hu => by rw [E.out] at hu; exact afterC_val hu⟩
                  · have hle : (j2 : Int) ≤ (i2 : Int) := by omega
                    clear hgo hm hck hlt
                    go_wp2_with fail
                    go_ret
                    exact ⟨f.ret, rfl, HF.out, F7.out, fun u hu => by rw [E.out] at hu; exact afterC_val hu⟩
            · have hle : (l.length : Int) ≤ (j2 : Int) := by omega
              clear hgo hm hck hp hlt htl
              go_wp2_with fail
              have WX := W3
              have OX := O
              have FX := FK
              have EX2 := hid EX.out.2
              clear W3
              go_loopw [12] (fun i wq => ∃ i2 : Nat, i2 ≤ j2 ∧ i = .int .i64 i2 ∧ Hid (CkW G (fun w => Blk w C 49 #[.int .i64 21, .int .i64 line, .int .i64 0, .string (bs nm), .slice KA l.length KC] ∧ Blk w D 43 #[.string (bs f.name), .int .i64 f.line, .slice PA f.params.length PC, .int .i64 f.ret, .int .i64 f.body]) wq (afterC (argsC ex l s) (f.params.map (·.2)) x i2) zs k) ∧ Hid (Own wq 3 1 (.slice A j2 c) j2 (ints tl)) ∧ Hid (FrK G w wq)) (fun i _ => j2 - (intOf i).toNat)
              case atStart => exact ⟨0, Nat.zero_le _, rfl, WX, OX, FX⟩
              case round =>
                clear WX OX FX
                try clear W O FK EX c9 d4 d2
                obtain ⟨i2, hi2, rfl, W7, O7, F7⟩ := hrel
                obtain ⟨s7, e7, p7, hck, hm⟩ := W7.out.m.open_
                obtain ⟨_, _, -, -, -, -, -, -, -, -, -, c9, -⟩ := hck.cells
                have d2 : wr.cell? ⟨D, 2, none⟩ = some (.slice PA f.params.length PC) := by simpa using W7.out.q.2.cell 2
                have d3 : wr.cell? ⟨D, 3, none⟩ = some (.int .i64 f.ret) := by simpa using W7.out.q.2.cell 3
                by_cases hgo : i2 < j2 ∧ e7 = 0
                · obtain ⟨hlt, rfl⟩ := hgo
                  have hlt2 : (i2 : Int) < (j2 : Int) := by omega
                  have hR : ∃ r, argsC ex l s = .good r ∧ r.1.length = f.params.length := by
                    rcases hm with ⟨_, _, hm⟩ | ⟨h0, _⟩
                    · obtain ⟨r, hr, hm⟩ := CkR.bind_eq hm
                      refine ⟨r, hr, ?_⟩
                      split at hm
                      · cases hm
                      · rename_i h9; simpa using h9
                    · exact absurd rfl h0
                  obtain ⟨r, hr, hrl⟩ := hR
                  have hrt := EX2.out r hr
                  have hi9 : i2 < f.params.length := by rw [← hrl, hrt, HTL.out]; exact hlt
                  have hi8 : (i2 : Int) < (f.params.length : Int) := by omega
                  obtain ⟨qq, hqq⟩ : ∃ qq, f.params[i2]? = some qq := ⟨_, List.getElem?_eq_getElem hi9⟩
                  obtain ⟨ti, hti⟩ : ∃ ti, tl[i2]? = some ti := ⟨_, List.getElem?_eq_getElem (by rw [HTL.out]; exact hlt)⟩
                  obtain ⟨pb, e, -, p1⟩ := W7.out.m.parrow HQ.out.1 HQ.out.2 hqq
                  obtain ⟨tb, e', hc⟩ := O7.out.some (by omega)
                  have t0 := hc i2 (.int .i64 (ti : Nat)) (by simp [ints, hti])
                  subst e
                  subst e'
                  obtain ⟨b, hb⟩ : ∃ b, ((ti : Int) == (qq.2 : Int)) = b := ⟨_, rfl⟩
                  have HS := hid (show ((afterC (argsC ex l s) (f.params.map (·.2)) x i2).bind fun s => if b = true then CkR.good s else .bad 42 x) = afterC (argsC ex l s) (f.params.map (·.2)) x (i2 + 1) from
                    afterC_step (fun r hr _ _ => by
                      rw [EX2.out r hr, hti, List.getElem?_map, hqq, ← hb, Bool.eq_iff_iff]
                      simp only [Option.map_some, Option.some.injEq, beq_iff_eq, decide_eq_true_eq]
                      omega) (fun r hr => by rw [EX2.out r hr, HTL.out]; exact hlt))
                  have K2 := hid d2
                  have KP := hid p1
                  have KT := hid t0
                  have HI := hid hlt
                  have HQQ := hid hqq
                  have HTI := hid hti
                  clear hck hm hr hrl hrt hqq hti hc d3
                  clear hi9 hlt
                  go_wp2_with fail
                  go_region_held3 (fun wx => wx.cell? ⟨D, 2, none⟩ = some (.slice (some ⟨pb, 0, none⟩) f.params.length PC) ∧ wx.cell? ⟨tb, i2, none⟩ = some (.int .i64 (ti : Nat)) ∧ wx.cell? ⟨pb, i2 * 2 + 1, none⟩ = some (.int .i64 (qq.2 : Nat))) (first | exact ⟨K2.out, KT.out, KP.out⟩ | exact K8.out) (first | (go_at_call 60; go_loud (with_reducible refine ((W7.out.m.no ((Fr.refl nob wr).drew)).must _ x).mono ?_); go_loud (rintro en w8 ⟨rfl, h8, f8⟩); go_loud (have W8 := hid ((W7.out.no ((Fr.refl nob wr).drew)).to h8 f8)); go_loud (have O8 := hid (kp_own W8.out.m.geo (by decide) (fun b hb => Nat.le_trans HZ.out (OB.out b hb)) _ _ ((FrK.no ((Fr.refl nob wr).drew)).trans f8) O7.out)); go_loud (have F8 := hid (F7.out.trans ((FrK.no ((Fr.refl nob wr).drew)).trans f8))); go_loud (have K8 := hid (W8.out.m.three HQ.out.1 HQ.out.2 HQQ.out W8.out.q.2 rfl O8.out HTI.out)); go_loud (clear h8 f8)))
                  go_wp2_with fail
                  go_roundw
                  case rel => exact ⟨i2 + 1, by have := HI.out; omega, by go_num, hid (by rw [← HS.out]; first | exact W8.out | exact W8.out.no ((Fr.refl nob _).drew)), hid (by first | exact O8.out | exact O8.out.drewN _), hid (by first | exact F8.out | exact F8.out.trans (FrK.no ((Fr.refl nob _).drew)))⟩
                  case measure => simp [intOf]; have := HI.out; omega
                · have HF := hid (show CkM G wr ((callC G.fs ex x ⟨21, line, 0, nm, l⟩ s).map (·.2)) zs k from by
                    rw [E.out, ← afterC_fin (i := j2) (fun r hr => by rw [EX2.out r hr, HTL.out]; exact Nat.le_refl _)]
                    rcases hm with ⟨h0, _, hm⟩ | ⟨h0, h99, hm⟩
                    · have : i2 = j2 := by
                        by_cases h : i2 < j2
                        · exact absurd ⟨h, h0⟩ hgo
                        · omega
                      rw [← this]; exact W7.out.m
                    · rw [afterC_bad hm hi2]; exact ⟨h0, h99, s7, hck⟩)
                  by_cases hlt : i2 < j2
                  · have hlt2 : (i2 : Int) < (j2 : Int) := by omega
                    have he : ((e7 : Int) == 0) = false := beq_eq_false_iff_ne.2 (by intro h; exact hgo ⟨hlt, by omega⟩)
                    clear hgo hm hck hlt
                    go_wp2_with fail
                    go_ret
                    exact ⟨f.ret, rfl, HF.out, F7.out, fun u hu => by rw [E.out] at hu; exact afterC_val hu⟩
                  · have hle : (j2 : Int) ≤ (i2 : Int) := by omega
                    clear hgo hm hck hlt
                    go_wp2_with fail
                    go_ret
                    exact ⟨f.ret, rfl, HF.out, F7.out, fun u hu => by rw [E.out] at hu; exact afterC_val hu⟩
          · have hpb : ((l.length : Int) != (f.params.length : Int)) = true := by rw [bne, beq_eq_false_iff_ne.2 (by omega)]; rfl
            have HN := hid (fun r (hr : argsC ex l s = .good r) => show r.1.length ≠ (f.params.map (·.2)).length by rw [LE.out r hr, List.length_map]; exact hp)
            by_cases hlt : j2 < l.length
            · have hlt2 : (j2 : Int) < (l.length : Int) := by omega
              have he : ((e : Int) == 0) = false := beq_eq_false_iff_ne.2 (by intro h; exact hgo ⟨hlt, by omega⟩)
              clear hgo hm hck hp hlt htl
              go_wp2_with fail
              refine (EX.out.1.m.fails 43 x (by decide) (by decide)).mono ?_
              rintro en w6 ⟨rfl, h6, f6⟩
              have WX := hid (show CkW G _ w6 (afterC (argsC ex l s) (f.params.map (·.2)) x 0) zs k from by rw [← afterC_zero_ne HN.out]; exact EX.out.1.to h6 f6)
              have OX := hid (kp_own W.out.m.geo (by decide) (fun b hb => Nat.le_trans HZ.out (OB.out b hb)) _ _ f6 O.out)
              have FX := hid (FK.out.trans f6)
              have EX2 := hid EX.out.2
              clear h6 f6 W O FK EX c9 d4 d2
              go_wp2_with fail
              go_loopw [12] (fun i wq => ∃ i2 : Nat, i2 ≤ j2 ∧ i = .int .i64 i2 ∧ Hid (CkW G (fun w => Blk w C 49 #[.int .i64 21, .int .i64 line, .int .i64 0, .string (bs nm), .slice KA l.length KC] ∧ Blk w D 43 #[.string (bs f.name), .int .i64 f.line, .slice PA f.params.length PC, .int .i64 f.ret, .int .i64 f.body]) wq (afterC (argsC ex l s) (f.params.map (·.2)) x i2) zs k) ∧ Hid (Own wq 3 1 (.slice A j2 c) j2 (ints tl)) ∧ Hid (FrK G w wq)) (fun i _ => j2 - (intOf i).toNat)
              case atStart => exact ⟨0, Nat.zero_le _, rfl, WX, OX, FX⟩
              case round =>
                clear WX OX FX
                try clear W O FK EX c9 d4 d2
                obtain ⟨i2, hi2, rfl, W7, O7, F7⟩ := hrel
                obtain ⟨s7, e7, p7, hck, hm⟩ := W7.out.m.open_
                obtain ⟨_, _, -, -, -, -, -, -, -, -, -, c9, -⟩ := hck.cells
                have d2 : wr.cell? ⟨D, 2, none⟩ = some (.slice PA f.params.length PC) := by simpa using W7.out.q.2.cell 2
                have d3 : wr.cell? ⟨D, 3, none⟩ = some (.int .i64 f.ret) := by simpa using W7.out.q.2.cell 3
                by_cases hgo : i2 < j2 ∧ e7 = 0
                · obtain ⟨hlt, rfl⟩ := hgo
                  have hlt2 : (i2 : Int) < (j2 : Int) := by omega
                  have hR : ∃ r, argsC ex l s = .good r ∧ r.1.length = f.params.length := by
                    rcases hm with ⟨_, _, hm⟩ | ⟨h0, _⟩
                    · obtain ⟨r, hr, hm⟩ := CkR.bind_eq hm
                      refine ⟨r, hr, ?_⟩
                      split at hm
                      · cases hm
                      · rename_i h9; simpa using h9
                    · exact absurd rfl h0
                  obtain ⟨r, hr, hrl⟩ := hR
                  have hrt := EX2.out r hr
                  have hi9 : i2 < f.params.length := by rw [← hrl, hrt, HTL.out]; exact hlt
                  have hi8 : (i2 : Int) < (f.params.length : Int) := by omega
                  obtain ⟨qq, hqq⟩ : ∃ qq, f.params[i2]? = some qq := ⟨_, List.getElem?_eq_getElem hi9⟩
                  obtain ⟨ti, hti⟩ : ∃ ti, tl[i2]? = some ti := ⟨_, List.getElem?_eq_getElem (by rw [HTL.out]; exact hlt)⟩
                  obtain ⟨pb, e, -, p1⟩ := W7.out.m.parrow HQ.out.1 HQ.out.2 hqq
                  obtain ⟨tb, e', hc⟩ := O7.out.some (by omega)
                  have t0 := hc i2 (.int .i64 (ti : Nat)) (by simp [ints, hti])
                  subst e
                  subst e'
                  obtain ⟨b, hb⟩ : ∃ b, ((ti : Int) == (qq.2 : Int)) = b := ⟨_, rfl⟩
                  have HS := hid (show ((afterC (argsC ex l s) (f.params.map (·.2)) x i2).bind fun s => if b = true then CkR.good s else .bad 42 x) = afterC (argsC ex l s) (f.params.map (·.2)) x (i2 + 1) from
                    afterC_step (fun r hr _ _ => by
                      rw [EX2.out r hr, hti, List.getElem?_map, hqq, ← hb, Bool.eq_iff_iff]
                      simp only [Option.map_some, Option.some.injEq, beq_iff_eq, decide_eq_true_eq]
                      omega) (fun r hr => by rw [EX2.out r hr, HTL.out]; exact hlt))
                  have K2 := hid d2
                  have KP := hid p1
                  have KT := hid t0
                  have HI := hid hlt
                  have HQQ := hid hqq
                  have HTI := hid hti
                  clear hck hm hr hrl hrt hqq hti hc d3
                  clear hi9 hlt
                  go_wp2_with fail
                  go_region_held3 (fun wx => wx.cell? ⟨D, 2, none⟩ = some (.slice (some ⟨pb, 0, none⟩) f.params.length PC) ∧ wx.cell? ⟨tb, i2, none⟩ = some (.int .i64 (ti : Nat)) ∧ wx.cell? ⟨pb, i2 * 2 + 1, none⟩ = some (.int .i64 (qq.2 : Nat))) (first | exact ⟨K2.out, KT.out, KP.out⟩ | exact K8.out) (first | (go_at_call 60; go_loud (with_reducible refine ((W7.out.m.no ((Fr.refl nob wr).drew)).must _ x).mono ?_); go_loud (rintro en w8 ⟨rfl, h8, f8⟩); go_loud (have W8 := hid ((W7.out.no ((Fr.refl nob wr).drew)).to h8 f8)); go_loud (have O8 := hid (kp_own W8.out.m.geo (by decide) (fun b hb => Nat.le_trans HZ.out (OB.out b hb)) _ _ ((FrK.no ((Fr.refl nob wr).drew)).trans f8) O7.out)); go_loud (have F8 := hid (F7.out.trans ((FrK.no ((Fr.refl nob wr).drew)).trans f8))); go_loud (have K8 := hid (W8.out.m.three HQ.out.1 HQ.out.2 HQQ.out W8.out.q.2 rfl O8.out HTI.out)); go_loud (clear h8 f8)))
                  go_wp2_with fail
                  go_roundw
                  case rel => exact ⟨i2 + 1, by have := HI.out; omega, by go_num, hid (by rw [← HS.out]; first | exact W8.out | exact W8.out.no ((Fr.refl nob _).drew)), hid (by first | exact O8.out | exact O8.out.drewN _), hid (by first | exact F8.out | exact F8.out.trans (FrK.no ((Fr.refl nob _).drew)))⟩
                  case measure => simp [intOf]; have := HI.out; omega
                · have HF := hid (show CkM G wr ((callC G.fs ex x ⟨21, line, 0, nm, l⟩ s).map (·.2)) zs k from by
                    rw [E.out, ← afterC_fin (i := j2) (fun r hr => by rw [EX2.out r hr, HTL.out]; exact Nat.le_refl _)]
                    rcases hm with ⟨h0, _, hm⟩ | ⟨h0, h99, hm⟩
                    · have : i2 = j2 := by
                        by_cases h : i2 < j2
                        · exact absurd ⟨h, h0⟩ hgo
                        · omega
                      rw [← this]; exact W7.out.m
                    · rw [afterC_bad hm hi2]; exact ⟨h0, h99, s7, hck⟩)
                  by_cases hlt : i2 < j2
                  · have hlt2 : (i2 : Int) < (j2 : Int) := by omega
                    have he : ((e7 : Int) == 0) = false := beq_eq_false_iff_ne.2 (by intro h; exact hgo ⟨hlt, by omega⟩)
                    clear hgo hm hck hlt
                    go_wp2_with fail
                    go_ret
                    exact ⟨f.ret, rfl, HF.out, F7.out, fun u hu => by rw [E.out] at hu; exact afterC_val hu⟩
                  · have hle : (j2 : Int) ≤ (i2 : Int) := by omega
                    clear hgo hm hck hlt
                    go_wp2_with fail
                    go_ret
                    exact ⟨f.ret, rfl, HF.out, F7.out, fun u hu => by rw [E.out] at hu; exact afterC_val hu⟩
            · have hle : (l.length : Int) ≤ (j2 : Int) := by omega
              clear hgo hm hck hp hlt htl
              go_wp2_with fail
              refine (EX.out.1.m.fails 43 x (by decide) (by decide)).mono ?_
              rintro en w6 ⟨rfl, h6, f6⟩
              have WX := hid (show CkW G _ w6 (afterC (argsC ex l s) (f.params.map (·.2)) x 0) zs k from by rw [← afterC_zero_ne HN.out]; exact EX.out.1.to h6 f6)
              have OX := hid (kp_own W.out.m.geo (by decide) (fun b hb => Nat.le_trans HZ.out (OB.out b hb)) _ _ f6 O.out)
              have FX := hid (FK.out.trans f6)
              have EX2 := hid EX.out.2
              clear h6 f6 W O FK EX c9 d4 d2
              go_wp2_with fail
              go_loopw [12] (fun i wq => ∃ i2 : Nat, i2 ≤ j2 ∧ i = .int .i64 i2 ∧ Hid (CkW G (fun w => Blk w C 49 #[.int .i64 21, .int .i64 line, .int .i64 0, .string (bs nm), .slice KA l.length KC] ∧ Blk w D 43 #[.string (bs f.name), .int .i64 f.line, .slice PA f.params.length PC, .int .i64 f.ret, .int .i64 f.body]) wq (afterC (argsC ex l s) (f.params.map (·.2)) x i2) zs k) ∧ Hid (Own wq 3 1 (.slice A j2 c) j2 (ints tl)) ∧ Hid (FrK G w wq)) (fun i _ => j2 - (intOf i).toNat)
              case atStart => exact ⟨0, Nat.zero_le _, rfl, WX, OX, FX⟩
              case round =>
                clear WX OX FX
                try clear W O FK EX c9 d4 d2
                obtain ⟨i2, hi2, rfl, W7, O7, F7⟩ := hrel
                obtain ⟨s7, e7, p7, hck, hm⟩ := W7.out.m.open_
                obtain ⟨_, _, -, -, -, -, -, -, -, -, -, c9, -⟩ := hck.cells
                have d2 : wr.cell? ⟨D, 2, none⟩ = some (.slice PA f.params.length PC) := by simpa using W7.out.q.2.cell 2
                have d3 : wr.cell? ⟨D, 3, none⟩ = some (.int .i64 f.ret) := by simpa using W7.out.q.2.cell 3
                by_cases hgo : i2 < j2 ∧ e7 = 0
                · obtain ⟨hlt, rfl⟩ := hgo
                  have hlt2 : (i2 : Int) < (j2 : Int) := by omega
                  have hR : ∃ r, argsC ex l s = .good r ∧ r.1.length = f.params.length := by
                    rcases hm with ⟨_, _, hm⟩ | ⟨h0, _⟩
                    · obtain ⟨r, hr, hm⟩ := CkR.bind_eq hm
                      refine ⟨r, hr, ?_⟩
                      split at hm
                      · cases hm
                      · rename_i h9; simpa using h9
                    · exact absurd rfl h0
                  obtain ⟨r, hr, hrl⟩ := hR
                  have hrt := EX2.out r hr
                  have hi9 : i2 < f.params.length := by rw [← hrl, hrt, HTL.out]; exact hlt
                  have hi8 : (i2 : Int) < (f.params.length : Int) := by omega
                  obtain ⟨qq, hqq⟩ : ∃ qq, f.params[i2]? = some qq := ⟨_, List.getElem?_eq_getElem hi9⟩
                  obtain ⟨ti, hti⟩ : ∃ ti, tl[i2]? = some ti := ⟨_, List.getElem?_eq_getElem (by rw [HTL.out]; exact hlt)⟩
                  obtain ⟨pb, e, -, p1⟩ := W7.out.m.parrow HQ.out.1 HQ.out.2 hqq
                  obtain ⟨tb, e', hc⟩ := O7.out.some (by omega)
                  have t0 := hc i2 (.int .i64 (ti : Nat)) (by simp [ints, hti])
                  subst e
                  subst e'
                  obtain ⟨b, hb⟩ : ∃ b, ((ti : Int) == (qq.2 : Int)) = b := ⟨_, rfl⟩
                  have HS := hid (show ((afterC (argsC ex l s) (f.params.map (·.2)) x i2).bind fun s => if b = true then CkR.good s else .bad 42 x) = afterC (argsC ex l s) (f.params.map (·.2)) x (i2 + 1) from
                    afterC_step (fun r hr _ _ => by
                      rw [EX2.out r hr, hti, List.getElem?_map, hqq, ← hb, Bool.eq_iff_iff]
                      simp only [Option.map_some, Option.some.injEq, beq_iff_eq, decide_eq_true_eq]
                      omega) (fun r hr => by rw [EX2.out r hr, HTL.out]; exact hlt))
                  have K2 := hid d2
                  have KP := hid p1
                  have KT := hid t0
                  have HI := hid hlt
                  have HQQ := hid hqq
                  have HTI := hid hti
                  clear hck hm hr hrl hrt hqq hti hc d3
                  clear hi9 hlt
                  go_wp2_with fail
                  go_region_held3 (fun wx => wx.cell? ⟨D, 2, none⟩ = some (.slice (some ⟨pb, 0, none⟩) f.params.length PC) ∧ wx.cell? ⟨tb, i2, none⟩ = some (.int .i64 (ti : Nat)) ∧ wx.cell? ⟨pb, i2 * 2 + 1, none⟩ = some (.int .i64 (qq.2 : Nat))) (first | exact ⟨K2.out, KT.out, KP.out⟩ | exact K8.out) (first | (go_at_call 60; go_loud (with_reducible refine ((W7.out.m.no ((Fr.refl nob wr).drew)).must _ x).mono ?_); go_loud (rintro en w8 ⟨rfl, h8, f8⟩); go_loud (have W8 := hid ((W7.out.no ((Fr.refl nob wr).drew)).to h8 f8)); go_loud (have O8 := hid (kp_own W8.out.m.geo (by decide) (fun b hb => Nat.le_trans HZ.out (OB.out b hb)) _ _ ((FrK.no ((Fr.refl nob wr).drew)).trans f8) O7.out)); go_loud (have F8 := hid (F7.out.trans ((FrK.no ((Fr.refl nob wr).drew)).trans f8))); go_loud (have K8 := hid (W8.out.m.three HQ.out.1 HQ.out.2 HQQ.out W8.out.q.2 rfl O8.out HTI.out)); go_loud (clear h8 f8)))
                  go_wp2_with fail
                  go_roundw
                  case rel => exact ⟨i2 + 1, by have := HI.out; omega, by go_num, hid (by rw [← HS.out]; first | exact W8.out | exact W8.out.no ((Fr.refl nob _).drew)), hid (by first | exact O8.out | exact O8.out.drewN _), hid (by first | exact F8.out | exact F8.out.trans (FrK.no ((Fr.refl nob _).drew)))⟩
                  case measure => simp [intOf]; have := HI.out; omega
                · have HF := hid (show CkM G wr ((callC G.fs ex x ⟨21, line, 0, nm, l⟩ s).map (·.2)) zs k from by
                    rw [E.out, ← afterC_fin (i := j2) (fun r hr => by rw [EX2.out r hr, HTL.out]; exact Nat.le_refl _)]
                    rcases hm with ⟨h0, _, hm⟩ | ⟨h0, h99, hm⟩
                    · have : i2 = j2 := by
                        by_cases h : i2 < j2
                        · exact absurd ⟨h, h0⟩ hgo
                        · omega
                      rw [← this]; exact W7.out.m
                    · rw [afterC_bad hm hi2]; exact ⟨h0, h99, s7, hck⟩)
                  by_cases hlt : i2 < j2
                  · have hlt2 : (i2 : Int) < (j2 : Int) := by omega
                    have he : ((e7 : Int) == 0) = false := beq_eq_false_iff_ne.2 (by intro h; exact hgo ⟨hlt, by omega⟩)
                    clear hgo hm hck hlt
                    go_wp2_with fail
                    go_ret
                    exact ⟨f.ret, rfl, HF.out, F7.out, fun u hu => by rw [E.out] at hu; exact afterC_val hu⟩
                  · have hle : (j2 : Int) ≤ (i2 : Int) := by omega
                    clear hgo hm hck hlt
                    go_wp2_with fail
                    go_ret
                    exact ⟨f.ret, rfl, HF.out, F7.out, fun u hu => by rw [E.out] at hu; exact afterC_val hu⟩
end
theorem Own.cellj {w : World} {e n c b : Nat} {xs : List Value} (h : Own w e 1 (.slice (Option.some ⟨b, 0, none⟩) n c) n xs) {j : Nat} (hj : j < n) : (∃ u, w.cell? ⟨b, j, none⟩ = Option.some u) ∧ w.frozen? ⟨b, j, none⟩ = false := by
 obtain ⟨hl, A', c', hv', ⟨_, h2⟩ | ⟨g', cur, h1, _, hb, hnc, hcm, hsz, ht⟩⟩ := h
 · omega
 · injection hv' with e1 _ e3
   rw [← e1] at h1
   injection h1 with h1
   injection h1 with h1
   subst h1
   refine ⟨⟨cur[j]'(by omega), ?_⟩, hb.frozen j⟩
   rw [hb.cell, Array.getElem?_eq_getElem (by omega)]
section
variable {G : Geo} {w w' : World} {s : CkS} {r : CkR CkS} {zs : List Nat} {k : Nat} {ex : Nat → CkS → CkR (Nat × CkS)}
set_option maxHeartbeats 4000000 in
set_option maxRecDepth 100000 in
theorem ctells_call (hu : (G.fs.map (·.name)).Nodup) {x line : Nat} {nm : List UInt8} {l : List Nat} (h : Ck G w s zs k 0 0) (hx : G.ns[x]? = some ⟨21, line, 0, nm, l⟩) (hl : ∀ a ∈ l, CexOk G zs k ex a) :
  Calls Tryd.prog 66 #[.pointer (some ⟨G.g, 0, none⟩), .int .i64 x] w (TellsK G zs k (tellsC G.fs ex x ⟨21, line, 0, nm, l⟩ s) w) := by
 have M0 := hid (show CkM G w (.good s) zs k from h)
 obtain ⟨nb, nc, kv, hnv, hkv, hown, nlt, hx3, c0, x0, x1, x2, x3, x4⟩ := M0.out.node hx
 dsimp only at hown x0 x1 x2 x3 x4
 have hx4 : (G.ns.length : Int) ≤ 300 := by have := h.geo.few; omega
 have glt := h.g_lt
 have gn : ¬ G.g = w.heap.size := by omega
 have nn : ¬ nb = w.heap.size := by omega
 obtain ⟨KA, KC, rfl, -, -⟩ := hown.cap
 have HC := hid (ccall_any hu (h.no ((Fr.refl nob w).alloc (.cells #[.int .i64 21, .int .i64 line, .int .i64 0, .string (bs nm), .slice KA l.length KC] 49))) hx hl)
 clear h hx hkv hown hl hu
 rw [show tellsC G.fs ex x ⟨21, line, 0, nm, l⟩ s = callC G.fs ex x ⟨21, line, 0, nm, l⟩ s from rfl]
 go_enter Tryd.func66, Tryd.ntmps66
 go_wp2_with fail
 refine HC.out.mono ?_
 rintro en w2 ⟨t, rfl, h2, f2, hq⟩
 have M2 := hid h2
 have F2 := hid ((FrK.no ((Fr.refl nob w).alloc _)).trans f2)
 have HQ := hid hq
 clear h2 f2 hq
 go_wp2_with fail
 go_ret
 exact ⟨t, rfl, M2.out, F2.out, HQ.out⟩
theorem ctells_any (hu : (G.fs.map (·.name)).Nodup) {x : Nat} {nd : NodeM} (h : Ck G w s zs k 0 0) (hx : G.ns[x]? = some nd) (hok : NodeOk (G.ns.take x) nd) (hR : clsR nd.kind = true) (hl : ∀ a ∈ nd.l, CexOk G zs k ex a) :
  Calls Tryd.prog 66 #[.pointer (some ⟨G.g, 0, none⟩), .int .i64 x] w (TellsK G zs k (tellsC G.fs ex x nd s) w) := by
 cases hok with
 | int line n hn => exact ctells_int h hx
 | bool line n hn => exact ctells_bool h hx
 | text line nm => exact ctells_text h hx
 | var line nm => exact ctells_var h hx
 | index line nm a ha => exact ctells_index h hx (hl a (by simp))
 | len line a ha => exact ctells_len h hx (hl a (by simp))
 | neg line a ha => exact ctells_neg h hx (hl a (by simp))
 | not line a ha => exact ctells_not h hx (hl a (by simp))
 | bin line nm a b hs ha hb => exact ctells_bin h hx hs (hl a (by simp)) (hl b (by simp))
 | input line => exact ctells_input h hx
 | new line a ha => exact ctells_new h hx (hl a (by simp))
 | call line nm l hk => exact ctells_call hu h hx hl
 | _ => simp [clsR, clsE] at hR
set_option maxHeartbeats 4000000 in
set_option maxRecDepth 100000 in
theorem cexpr_step (hu : (G.fs.map (·.name)).Nodup) {x f : Nat} {nd : NodeM} (hx : G.ns[x]? = some nd) (hok : NodeOk (G.ns.take x) nd) (hR : clsR nd.kind = true) (hl : ∀ a ∈ nd.l, CexOk G zs k (exprC G.ns G.fs k f) a) : CexOk G zs k (exprC G.ns G.fs k (f + 1)) x := by
 intro w r h
 have hx3 : (x : Int) < (G.ns.length : Int) := by have := (List.getElem?_eq_some_iff.1 hx).1; omega
 have hx4 : (G.ns.length : Int) ≤ 300 := by have := h.geo.few; omega
 cases r with
 | bad e p =>
  have M0 := hid h
  obtain ⟨he, h99, s, hck⟩ := h
  obtain ⟨_, _, -, -, -, -, -, -, -, -, -, c9, -⟩ := hck.cells
  have heb : ((e : Int) != 0) = true := by rw [bne, beq_eq_false_iff_ne.2 (by omega)]; rfl
  clear hck he hl hx hok hR hu
  go_enter Tryd.func59, Tryd.ntmps59
  go_wp2_with fail
  go_ret
  exact ⟨0, rfl, M0.out, FrK.refl _ _, fun q hq => by cases hq⟩
 | good s =>
  have hck : Ck G w s zs k 0 0 := h
  obtain ⟨_, _, -, -, -, -, -, -, -, -, -, c9, -⟩ := hck.cells
  have HT := hid (ctells_any hu hck hx hok hR hl)
  have E := hid (show (CkR.good s).bind (exprC G.ns G.fs k (f + 1) x) = (tellsC G.fs (exprC G.ns G.fs k f) x nd s).map fun r => (r.1, { r.2 with types := r.2.types.set x r.1, fn := r.2.fn.set x k }) from by
    show exprC G.ns G.fs k (f + 1) x s = _
    unfold exprC
    rw [hx])
  clear h hck hx hok hR hl hu
  generalize tellsC G.fs (exprC G.ns G.fs k f) x nd s = q at *
  rw [E.out]
  clear E
  go_enter Tryd.func59, Tryd.ntmps59
  go_wp2_with fail
  refine HT.out.mono ?_
  rintro en w1 ⟨t, rfl, h1, f1, hq⟩
  have F1 := hid f1
  have HQ := hid hq
  obtain ⟨s', e, p, hck, hm⟩ := h1.open_
  have K1 := hid hck
  have HM := hid hm
  clear h1 f1 hq hm c9
  obtain ⟨_, _, -, -, c2, -, -, -, -, -, -, -, -, -⟩ := hck.cells
  obtain ⟨⟨u, bt⟩, zt⟩ := hck.types.cellj (j := x) (by omega)
  have S2 := hid (hck.setT x t)
  clear hck
  go_wp2_with fail
  clear c2 bt zt
  generalize w1.setCell ⟨G.bt, x, none⟩ (.int .i64 (t : Nat)) = w2 at *
  obtain ⟨_, _, -, -, -, -, c4, -, c6, -⟩ := S2.out.1.cells
  obtain ⟨⟨u2, bf⟩, zf⟩ := S2.out.1.fn.cellj (j := x) (by omega)
  obtain ⟨n1, n2, n3⟩ := S2.out.1.gne
  have D4 := hid c4
  have D6 := hid c6
  have e4 := hid ((World.cell?_setCell_other w2.drew ⟨G.bf, x, none⟩ ⟨G.g, 4, none⟩ (.int .i64 (k : Nat)) (by intro e; injection e with e; exact n3 e.symm)).trans c4)
  have e6 := hid ((World.cell?_setCell_other w2.drew ⟨G.bf, x, none⟩ ⟨G.g, 6, none⟩ (.int .i64 (k : Nat)) (by intro e; injection e with e; exact n3 e.symm)).trans c6)
  have S3 := hid (S2.out.1.setF x k)
  clear n1 n2 n3
  go_region_held3 (fun wx => wx.cell? ⟨G.g, 4, none⟩ = some (.slice (some ⟨G.bf, 0, none⟩) G.ns.length G.cf) ∧ wx.cell? ⟨G.g, 6, none⟩ = some (.int .i64 (k : Nat))) (first | exact ⟨D4.out, D6.out⟩ | exact ⟨e4.out, e6.out⟩) (first | fail)
  clear c4 c6 bf zf D4 D6 e4 e6
  generalize w2.setCell ⟨G.bf, x, none⟩ (.int .i64 (k : Nat)) = w3 at *
  go_wp2_with fail
  go_ret
  refine ⟨t, rfl, ?_, ((F1.out.trans S2.out.2).trans S3.out.2).trans (FrK.no ((Fr.refl nob w3).drew)), fun u hu => ?_⟩
  · refine CkM.no ?_ ((Fr.refl nob w3).drew)
    have hm := HM.out
    cases q with
    | bad e' p' =>
     rcases hm with ⟨_, _, h9⟩ | ⟨h0, h9, h8⟩
     · cases h9
     · injection h8 with h8 h7
       subst h8; subst h7
       exact ⟨h0, h9, _, S3.out.1⟩
    | good v =>
     rcases hm with ⟨h0, h8, h9⟩ | ⟨_, _, h8⟩
     · injection h9 with h9
       subst h9; subst h0; subst h8
       have := HQ.out v rfl
       subst this
       exact S3.out.1
     · cases h8
  · obtain ⟨v, hv, hu⟩ := CkR.map_eq hu
    subst hu
    exact HQ.out v hv
theorem cexpr_any (hg : GeoOk G) (hu : (G.fs.map (·.name)).Nodup) : ∀ (f x : Nat) (nd : NodeM), x < f → G.ns[x]? = some nd → clsR nd.kind = true → CexOk G zs k (exprC G.ns G.fs k f) x
 | 0, x, nd, h, _, _ => absurd h (Nat.not_lt_zero _)
 | f + 1, x, nd, h, hx, hR => by
  have hok := hg.ok.nodes x nd hx
  refine cexpr_step hu hx hok hR fun a ha => ?_
  have key : ∀ {cls : Nat → Bool} {a : Nat}, (∀ n, cls n = true → clsR n = true) → Kid (G.ns.take x) cls a → CexOk G zs k (exprC G.ns G.fs k f) a := fun {cls a} hc hk => by
   obtain ⟨hlt, c, hc1, hc2⟩ := hk.take
   exact cexpr_any hg hu f a c (by omega) hc1 (hc _ hc2)
  have hE : ∀ n, clsE n = true → clsR n = true := fun n h => by unfold clsR; rw [h]; rfl
  cases hok with
  | int line n hn => cases ha
  | bool line n hn => cases ha
  | text line nm => cases ha
  | var line nm => cases ha
  | index line nm b hb => rw [List.mem_singleton.1 ha]; exact key hE hb
  | len line b hb => rw [List.mem_singleton.1 ha]; exact key hE hb
  | neg line b hb => rw [List.mem_singleton.1 ha]; exact key hE hb
  | not line b hb => rw [List.mem_singleton.1 ha]; exact key hE hb
  | bin line nm b c hs hb hc =>
   rcases List.mem_cons.1 ha with e | ha
   · rw [e]; exact key hE hb
   · rw [List.mem_singleton.1 ha]; exact key hE hc
  | input line => cases ha
  | new line b hb => rw [List.mem_singleton.1 ha]; exact key hE hb
  | call line nm l hk => exact key hE (hk a ha)
  | _ => simp [clsR, clsE] at hR
end
end Go.Proofs.YtlbjicjinnnboaaDoor
