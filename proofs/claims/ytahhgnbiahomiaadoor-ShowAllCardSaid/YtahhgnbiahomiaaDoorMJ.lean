/- MJ: WRefJ, WRefK, WRefL, WRefM, WRefN, WRefT. -/
import Derived.Test.YtahhgnbiahomiaaDoorMI
/- Show: the reference: word. -/
namespace Go.Proofs.YtahhgnbiahomiaaDoor
open Go.RowKit
set_option linter.unusedVariables false
set_option linter.unusedSimpArgs false
set_option maxRecDepth 100000 in
theorem rwordT_any (t : Nat) (h : t ≤ 4) (w : World) : Calls Tryd.prog 27 #[.int .i64 t] w fun e w' => e = .returned (.string (bs (wordT t))) ∧ Fr nob w w' := by
  rcases (by omega : t = 0 ∨ t = 1 ∨ t = 2 ∨ t = 3 ∨ t = 4) with rfl | rfl | rfl | rfl | rfl
  all_goals
    go_enter Tryd.func27, Tryd.ntmps27
    go_wp2
    go_ret
    exact ⟨rfl, (Fr.refl nob w).alloc _⟩
end Go.Proofs.YtahhgnbiahomiaaDoor
/- Show: the reference: block. -/
namespace Go.Proofs.YtahhgnbiahomiaaDoor
open Go.RowKit
set_option linter.unusedVariables false
set_option linter.unusedSimpArgs false
section
variable {nv fv : Value} {lvs pvs : List Value} {ns : List NodeM} {fs : List FuncM} {w w' : World}
/-- The tree's copy, a row of numbers. -/
def RB (nv fv : Value) (lvs pvs : List Value) (ns : List NodeM) (fs : List FuncM) (b : Nat) (kv : Value) (l : List Nat) (w : World) : Prop := RS nv fv lvs pvs ns fs w ∧ Blk w b 26 #[nv, fv] ∧ Own w 3 1 kv l.length (ints l)
theorem RB.no {b : Nat} {kv : Value} {l : List Nat} (h : RB nv fv lvs pvs ns fs b kv l w) (f : Fr nob w w') : RB nv fv lvs pvs ns fs b kv l w' :=
  ⟨h.1.no f, h.2.1.fr f (fun x => x), h.2.2.fr f (fun _ _ x => x)⟩
theorem RB.cells {b : Nat} {kv : Value} {l : List Nat} (h : RB nv fv lvs pvs ns fs b kv l w) : w.cell? ⟨b, 0, none⟩ = some nv ∧ w.cell? ⟨b, 1, none⟩ = some fv :=
  ⟨by simpa using h.2.1.cell 0, by simpa using h.2.1.cell 1⟩
theorem RB.kid {b kb kc : Nat} {l : List Nat} (h : RB nv fv lvs pvs ns fs b (.slice (some ⟨kb, 0, none⟩) l.length kc) l w) (j a : Nat) (ha : l[j]? = some a) : w.cell? ⟨kb, j, none⟩ = some (.int .i64 (a : Nat)) := by
  have hl := (List.getElem?_eq_some_iff.1 ha).1
  obtain ⟨kb', c', e, _, hc⟩ := kids_get h.2.2 (by omega)
  injection e with e1 e2 e3
  injection e1 with e1
  injection e1 with e1
  subst e1
  exact hc j a ha
theorem RB.same {b : Nat} {kv : Value} {l : List Nat} (h : RB nv fv lvs pvs ns fs b kv l w) {wa : World} (he : wa.heap = w.heap) (ho : wa.os = w.os) (hp : wa.output = w.output) (ht : wa.tape = w.tape) : RB nv fv lvs pvs ns fs b kv l wa :=
  h.no ⟨ho, ht, hp, by rw [he]; exact Nat.le_refl _, fun j _ _ => by rw [he]⟩
/-- The reference's statement, block show a node. -/
def RstmOk (cls : Nat → Bool) (f : FuncId) (nv fv : Value) (lvs pvs : List Value) (ns : List NodeM) (fs : List FuncM) (x : Nat) : Prop :=
  ∀ (w : World), RS nv fv lvs pvs ns fs w → Kid ns cls x → (txt ns x).length ≤ 100000000 →
    Calls Tryd.prog f #[.agg #[nv, fv], .int .i64 x] w fun e w' => e = .returned (.string (bs (txt ns x))) ∧ Fr nob w w'
set_option maxHeartbeats 600000 in
set_option maxRecDepth 100000 in
theorem rblock_any {x line : Nat} {l : List Nat} (hx : ns[x]? = some ⟨18, line, 0, [], l⟩) (hl : ∀ a ∈ l, RstmOk clsS 47 nv fv lvs pvs ns fs a ∧ Kid ns clsS a) (h : RS nv fv lvs pvs ns fs w) (hlen : 4 + (l.flatMap (txt ns)).length ≤ 100000000) :
    Calls Tryd.prog 28 #[.agg #[nv, fv], .int .i64 x] w fun e w' => e = .returned (.string (bs ([123, 10] ++ l.flatMap (txt ns) ++ [125, 10]))) ∧ Fr nob w w' := by
  obtain ⟨nb, c, kv, rfl, hc, hkv, x0, x1, x2, x3, x4⟩ := h.tree.node hx
  obtain ⟨FA, FC, rfl, _, _⟩ := h.tree.fns.cap
  have hlt := (List.getElem?_eq_some_iff.1 hx).1
  have hx3 : (x : Int) < (ns.length : Int) := by omega
  have hx4 : (ns.length : Int) ≤ 9223372036854775807 := by have := h.tree.nodes.cap; obtain ⟨A, c2, e, h1, h2⟩ := this; unfold maxLen at h2; omega
  have n3 : nb < w.heap.size := World.block_lt_of_cell? w ⟨nb, x * 5, none⟩ x0
  have n2 : ¬ nb = w.heap.size := by omega
  dsimp only at x0 x1 x2 x3 x4 hkv
  obtain ⟨KA, KC, rfl, hk1, hk2⟩ := hkv.cap
  have hl4 : (l.length : Int) ≤ 9223372036854775807 := by unfold maxLen at hk2; change l.length ≤ KC at hk1; omega
  have HK := hid hl
  have S1 := hid (show RB (.slice (some ⟨nb, 0, none⟩) ns.length c) (.slice FA fs.length FC) lvs pvs ns fs w.heap.size (.slice KA l.length KC) l (w.alloc (.cells #[.slice (some ⟨nb, 0, none⟩) ns.length c, .slice FA fs.length FC] 26)) from ⟨h.no ((Fr.refl nob w).alloc _), Blk.new w _ _, hkv.alloc _⟩)
  have F1 := hid (show Fr nob w (w.alloc (.cells #[.slice (some ⟨nb, 0, none⟩) ns.length c, .slice FA fs.length FC] 26)) from (Fr.refl nob w).alloc _)
  have HL := hid hlen
  clear h hlen hkv hx hlt hc hl hk1 hk2
  go_enter Tryd.func28, Tryd.ntmps28
  go_wp2_with fail
  clear n2 n3 x0 x1 x2 x3 x4 hx3 hx4
  generalize hB : w.heap.size = B at *
  clear hB
  generalize hw1 : w.alloc (.cells #[.slice (some ⟨nb, 0, none⟩) ns.length c, .slice FA fs.length FC] 26) = w1 at *
  clear hw1
  go_loopw [5, 7] (fun s i wr => ∃ j : Nat, j ≤ l.length ∧ i = .int .i64 j ∧ s = .string (bs ([123, 10] ++ (l.take j).flatMap (txt ns))) ∧ Hid (RB (.slice (some ⟨nb, 0, none⟩) ns.length c) (.slice FA fs.length FC) lvs pvs ns fs B (.slice KA l.length KC) l wr) ∧ Hid (Fr nob w wr)) (fun _ i _ => l.length - (intOf i).toNat)
  case atStart => exact ⟨0, Nat.zero_le _, rfl, rfl, S1, F1⟩
  case round =>
    obtain ⟨j, hj, rfl, rfl, S, FR⟩ := hrel
    obtain ⟨d0, d1⟩ := S.out.cells
    by_cases hlt : j < l.length
    · have hlt2 : (j : Int) < (l.length : Int) := by omega
      obtain ⟨a, ha⟩ : ∃ a, l[j]? = some a := ⟨_, List.getElem?_eq_getElem hlt⟩
      obtain ⟨kb, c', e, _, hq⟩ := kids_get S.out.2.2 (by omega)
      injection e with e1 e2 e3
      subst e1
      have k0 := hq j a ha
      clear hq e2 e3
      have HF := hid (flat_lt (f := txt ns) ha)
      have HTK := hid (flat_take (f := txt ns) ha)
      obtain ⟨hxa, hka⟩ := HK.out a (List.mem_of_getElem? ha)
      have CK : ∀ (wa wx : World), Fr nob wa wx → wa.heap = wr.heap → wa.os = wr.os → wa.output = wr.output → wa.tape = wr.tape → wx.cell? ⟨B, 0, none⟩ = some (.slice (some ⟨nb, 0, none⟩) ns.length c) ∧ wx.cell? ⟨B, 1, none⟩ = some (.slice FA fs.length FC) ∧ wx.cell? ⟨kb, j, none⟩ = some (.int .i64 (a : Nat)) := fun wa wx hf e1 e2 e3 e4 => by
        have h1 := (S.out.same e1 e2 e3 e4).no hf
        exact ⟨h1.cells.1, h1.cells.2, h1.kid j a ha⟩
      have HCK := hid CK
      have HXA := hid hxa
      have HKA := hid hka
      obtain ⟨P, hP⟩ : ∃ P, P = [123, 10] ++ (l.take j).flatMap (txt ns) := ⟨_, rfl⟩
      have hPl : P.length = 2 + ((l.take j).flatMap (txt ns)).length := by rw [hP, List.length_append]; rfl
      rw [← hP]
      have HPP := hid hP
      have nl2 : ¬ 9223372036854775807 < (bs P).size + (bs (txt ns a)).size := by have h5 := HF.out; have h6 := HL.out; rw [bs_size, bs_size]; omega
      have hxl : (txt ns a).length ≤ 100000000 := by have h5 := HF.out; have h6 := HL.out; omega
      have HXL := hid hxl
      clear ha CK hxa hka hP hPl hxl
      go_wp2_with fail
      go_region_held3 (fun wx => wx.cell? ⟨B, 0, none⟩ = some (.slice (some ⟨nb, 0, none⟩) ns.length c) ∧ wx.cell? ⟨B, 1, none⟩ = some (.slice FA fs.length FC) ∧ wx.cell? ⟨kb, j, none⟩ = some (.int .i64 (a : Nat))) (first | exact K2.out | go_keep)
        (first
          | (go_at_call 47; go_loud (refine (HXA.out _ (S.out.1.no ((Fr.refl nob wr).drew)) HKA.out HXL.out).mono ?_); go_loud (rintro e w2 ⟨rfl, hf⟩); go_loud (have K2 := hid (HCK.out _ w2 hf rfl rfl rfl rfl)); have F2 := hid hf; clear hf))
      clear d0 d1 k0
      go_wp2_with fail
      go_roundw
      case rel => exact ⟨j + 1, by omega, by go_num, by
        show Value.string (bs P ++ bs (txt ns a)) = _
        rw [bs_add, HPP.out, HTK.out]; simp [List.append_assoc], hid ((S.out.no ((Fr.refl nob wr).drew)).no F2.out), hid (FR.out.drew.tr F2.out)⟩
      case measure => simp [intOf]; omega
    · have hle : (l.length : Int) ≤ (j : Int) := by omega
      obtain ⟨P, hP⟩ : ∃ P, P = [123, 10] ++ (l.take j).flatMap (txt ns) := ⟨_, rfl⟩
      have htk := List.take_of_length_le (show l.length ≤ j by omega)
      have nl1 : ¬ 9223372036854775807 < (bs P).size + 2 := by have h6 := HL.out; rw [bs_size, hP, htk, List.length_append]; show ¬ _ < 2 + _ + 2; omega
      rw [← hP]
      have HJ := hid (And.intro htk hP)
      clear htk hP
      go_wp2_with fail
      go_ret
      refine ⟨?_, FR.out⟩
      show Ending.returned (.string (bs P ++ bs [125, 10])) = _
      rw [bs_add, HJ.out.2, HJ.out.1]
      first | done | rfl | simp
end
end Go.Proofs.YtahhgnbiahomiaaDoor
/- Show: the reference: statements, by kinds. Printed by wip/tools/mkrstm.py. -/
namespace Go.Proofs.YtahhgnbiahomiaaDoor
open Go.RowKit
set_option linter.unusedVariables false
set_option linter.unusedSimpArgs false
section
variable {nv fv : Value} {lvs pvs : List Value} {ns : List NodeM} {fs : List FuncM} {w w' : World}
set_option maxHeartbeats 1000000 in
set_option maxRecDepth 100000 in
theorem rstm_let {x line : Nat} {nm : List UInt8} {a : Nat} (hxa : RexprOk nv fv lvs pvs ns fs a) (hka : Kid ns clsR a) (hx : ns[x]? = some ⟨10, line, 0, nm, [a]⟩) (h : RS nv fv lvs pvs ns fs w) (hlen : 4 + nm.length + 1 + (txt ns a).length + 2 ≤ 100000000) :
    Calls Tryd.prog 47 #[.agg #[nv, fv], .int .i64 x] w fun e w' => e = .returned (.string (bs ([108, 101, 116, 32] ++ nm ++ [61] ++ txt ns a ++ [59, 10]))) ∧ Fr nob w w' := by
  obtain ⟨nb, cc, kv, rfl, hc, hkv, x0, x1, x2, x3, x4⟩ := h.tree.node hx
  obtain ⟨FA, FC, rfl, _, _⟩ := h.tree.fns.cap
  have hlt := (List.getElem?_eq_some_iff.1 hx).1
  have hx3 : (x : Int) < (ns.length : Int) := by omega
  have hx4 : (ns.length : Int) ≤ 9223372036854775807 := by have := h.tree.nodes.cap; obtain ⟨A, c2, e, h1, h2⟩ := this; unfold maxLen at h2; omega
  have n3 : nb < w.heap.size := World.block_lt_of_cell? w ⟨nb, x * 5, none⟩ x0
  have n2 : ¬ nb = w.heap.size := by omega
  dsimp only at x0 x1 x2 x3 x4 hkv
  obtain ⟨kb, kc, rfl, _, _⟩ := kids_get hkv (show 0 < 1 by decide)
  have HXa := hid hxa
  have HKa := hid hka
  clear hxa hka
  have S0 := hid h
  have HO := hid hkv
  have HL := hid hlen
  clear h hlen hkv hx hlt hc
  have nl1 : ¬ 9223372036854775807 < 4 + (bs nm).size := by have h5 := HL.out; rw [bs_size]; omega
  have nl2 : ¬ 9223372036854775807 < 4 + (bs nm).size + 1 := by have h5 := HL.out; rw [bs_size]; omega
  have nl3 : ¬ 9223372036854775807 < 4 + (bs nm).size + 1 + (bs (txt ns a)).size := by have h5 := HL.out; rw [bs_size, bs_size]; omega
  have nl4 : ¬ 9223372036854775807 < 4 + (bs nm).size + 1 + (bs (txt ns a)).size + 2 := by have h5 := HL.out; rw [bs_size, bs_size]; omega
  go_enter Tryd.func47, Tryd.ntmps47
  go_wp2_with fail
  have S1 := hid (S0.out.copy (k := 10) (line := line) (n := 0) (name := (bs nm)) HO.out)
  have F1 := hid (show Fr nob w ((w.alloc (.cells #[.slice (some ⟨nb, 0, none⟩) ns.length cc, .slice FA fs.length FC] 26)).alloc (.cells #[.int .i64 10, .int .i64 line, .int .i64 0, .string (bs nm), .slice (some ⟨kb, 0, none⟩) [a].length kc] 34)) from ((Fr.refl nob w).alloc _).alloc _)
  clear n2 n3 x0 x1 x2 x3 x4 hx3 hx4 HO S0
  generalize hB : w.heap.size = B at *
  clear hB
  generalize hw1 : (w.alloc (.cells #[.slice (some ⟨nb, 0, none⟩) ns.length cc, .slice FA fs.length FC] 26)).alloc (.cells #[.int .i64 10, .int .i64 line, .int .i64 0, .string (bs nm), .slice (some ⟨kb, 0, none⟩) [a].length kc] 34) = w1 at *
  clear hw1
  obtain ⟨d0, d1, c0, c2, c3, c4⟩ := S1.out.cells
  have k0 := S1.out.2.2.kid 0 a rfl
  have CK : ∀ (wx : World), RK (.slice (some ⟨nb, 0, none⟩) ns.length cc) (.slice FA fs.length FC) lvs pvs ns fs B 10 line 0 (bs nm) (.slice (some ⟨kb, 0, none⟩) [a].length kc) [a] wx → wx.cell? ⟨B, 0, none⟩ = some (.slice (some ⟨nb, 0, none⟩) ns.length cc) ∧ wx.cell? ⟨B, 1, none⟩ = some (.slice FA fs.length FC) ∧ wx.cell? ⟨B + 1, 4, none⟩ = some (.slice (some ⟨kb, 0, none⟩) 1 kc) ∧ wx.cell? ⟨B + 1, 3, none⟩ = some (.string (bs nm)) ∧ wx.cell? ⟨kb, 0, none⟩ = some (.int .i64 (a : Nat)) := fun wx h1 => ⟨h1.cells.1, h1.cells.2.1, h1.cells.2.2.2.2.2, h1.cells.2.2.2.2.1, h1.2.2.kid 0 a rfl⟩
  have HCK := hid CK
  clear CK
  go_region_held3 (fun wx => wx.cell? ⟨B, 0, none⟩ = some (.slice (some ⟨nb, 0, none⟩) ns.length cc) ∧ wx.cell? ⟨B, 1, none⟩ = some (.slice FA fs.length FC) ∧ wx.cell? ⟨B + 1, 4, none⟩ = some (.slice (some ⟨kb, 0, none⟩) 1 kc) ∧ wx.cell? ⟨B + 1, 3, none⟩ = some (.string (bs nm)) ∧ wx.cell? ⟨kb, 0, none⟩ = some (.int .i64 (a : Nat))) (first | exact K2.out | go_keep)
    (first
      | (go_at_call 15; go_must (refine (HXa.out _ (S1.out.no ((Fr.refl nob w1).drew)).1 HKa.out (by have h5 := HL.out; omega)).mono ?_); go_loud (rintro e w2 ⟨rfl, hf⟩); go_loud (have S2 := hid ((S1.out.no ((Fr.refl nob w1).drew)).no hf)); go_loud (have K2 := hid (HCK.out _ S2.out)); have F2 := hid ((Fr.refl nob w1).drew.tr hf); clear hf))
  clear d0 d1 c0 c2 c3 c4 k0 HCK
  go_wp2_with fail
  go_ret
  refine ⟨?_, by first | exact (F1.out.tr F2.out) | exact ((F1.out.tr F2.out)).drewN _⟩
  show Ending.returned (.string (bs [108, 101, 116, 32] ++ bs nm ++ bs [61] ++ bs (txt ns a) ++ bs [59, 10])) = _
  rw [bs_add, bs_add, bs_add, bs_add]
  first | done | rfl | simp
set_option maxHeartbeats 1000000 in
set_option maxRecDepth 100000 in
theorem rstm_set {x line : Nat} {nm : List UInt8} {a : Nat} (hxa : RexprOk nv fv lvs pvs ns fs a) (hka : Kid ns clsR a) (hx : ns[x]? = some ⟨11, line, 0, nm, [a]⟩) (h : RS nv fv lvs pvs ns fs w) (hlen : nm.length + 1 + (txt ns a).length + 2 ≤ 100000000) :
    Calls Tryd.prog 47 #[.agg #[nv, fv], .int .i64 x] w fun e w' => e = .returned (.string (bs (nm ++ [61] ++ txt ns a ++ [59, 10]))) ∧ Fr nob w w' := by
  obtain ⟨nb, cc, kv, rfl, hc, hkv, x0, x1, x2, x3, x4⟩ := h.tree.node hx
  obtain ⟨FA, FC, rfl, _, _⟩ := h.tree.fns.cap
  have hlt := (List.getElem?_eq_some_iff.1 hx).1
  have hx3 : (x : Int) < (ns.length : Int) := by omega
  have hx4 : (ns.length : Int) ≤ 9223372036854775807 := by have := h.tree.nodes.cap; obtain ⟨A, c2, e, h1, h2⟩ := this; unfold maxLen at h2; omega
  have n3 : nb < w.heap.size := World.block_lt_of_cell? w ⟨nb, x * 5, none⟩ x0
  have n2 : ¬ nb = w.heap.size := by omega
  dsimp only at x0 x1 x2 x3 x4 hkv
  obtain ⟨kb, kc, rfl, _, _⟩ := kids_get hkv (show 0 < 1 by decide)
  have HXa := hid hxa
  have HKa := hid hka
  clear hxa hka
  have S0 := hid h
  have HO := hid hkv
  have HL := hid hlen
  clear h hlen hkv hx hlt hc
  have nl1 : ¬ 9223372036854775807 < (bs nm).size + 1 := by have h5 := HL.out; rw [bs_size]; omega
  have nl2 : ¬ 9223372036854775807 < (bs nm).size + 1 + (bs (txt ns a)).size := by have h5 := HL.out; rw [bs_size, bs_size]; omega
  have nl3 : ¬ 9223372036854775807 < (bs nm).size + 1 + (bs (txt ns a)).size + 2 := by have h5 := HL.out; rw [bs_size, bs_size]; omega
  go_enter Tryd.func47, Tryd.ntmps47
  go_wp2_with fail
  have S1 := hid (S0.out.copy (k := 11) (line := line) (n := 0) (name := (bs nm)) HO.out)
  have F1 := hid (show Fr nob w ((w.alloc (.cells #[.slice (some ⟨nb, 0, none⟩) ns.length cc, .slice FA fs.length FC] 26)).alloc (.cells #[.int .i64 11, .int .i64 line, .int .i64 0, .string (bs nm), .slice (some ⟨kb, 0, none⟩) [a].length kc] 34)) from ((Fr.refl nob w).alloc _).alloc _)
  clear n2 n3 x0 x1 x2 x3 x4 hx3 hx4 HO S0
  generalize hB : w.heap.size = B at *
  clear hB
  generalize hw1 : (w.alloc (.cells #[.slice (some ⟨nb, 0, none⟩) ns.length cc, .slice FA fs.length FC] 26)).alloc (.cells #[.int .i64 11, .int .i64 line, .int .i64 0, .string (bs nm), .slice (some ⟨kb, 0, none⟩) [a].length kc] 34) = w1 at *
  clear hw1
  obtain ⟨d0, d1, c0, c2, c3, c4⟩ := S1.out.cells
  have k0 := S1.out.2.2.kid 0 a rfl
  have CK : ∀ (wx : World), RK (.slice (some ⟨nb, 0, none⟩) ns.length cc) (.slice FA fs.length FC) lvs pvs ns fs B 11 line 0 (bs nm) (.slice (some ⟨kb, 0, none⟩) [a].length kc) [a] wx → wx.cell? ⟨B, 0, none⟩ = some (.slice (some ⟨nb, 0, none⟩) ns.length cc) ∧ wx.cell? ⟨B, 1, none⟩ = some (.slice FA fs.length FC) ∧ wx.cell? ⟨B + 1, 4, none⟩ = some (.slice (some ⟨kb, 0, none⟩) 1 kc) ∧ wx.cell? ⟨B + 1, 3, none⟩ = some (.string (bs nm)) ∧ wx.cell? ⟨kb, 0, none⟩ = some (.int .i64 (a : Nat)) := fun wx h1 => ⟨h1.cells.1, h1.cells.2.1, h1.cells.2.2.2.2.2, h1.cells.2.2.2.2.1, h1.2.2.kid 0 a rfl⟩
  have HCK := hid CK
  clear CK
  go_region_held3 (fun wx => wx.cell? ⟨B, 0, none⟩ = some (.slice (some ⟨nb, 0, none⟩) ns.length cc) ∧ wx.cell? ⟨B, 1, none⟩ = some (.slice FA fs.length FC) ∧ wx.cell? ⟨B + 1, 4, none⟩ = some (.slice (some ⟨kb, 0, none⟩) 1 kc) ∧ wx.cell? ⟨B + 1, 3, none⟩ = some (.string (bs nm)) ∧ wx.cell? ⟨kb, 0, none⟩ = some (.int .i64 (a : Nat))) (first | exact K2.out | go_keep)
    (first
      | (go_at_call 15; go_must (refine (HXa.out _ (S1.out.no ((Fr.refl nob w1).drew)).1 HKa.out (by have h5 := HL.out; omega)).mono ?_); go_loud (rintro e w2 ⟨rfl, hf⟩); go_loud (have S2 := hid ((S1.out.no ((Fr.refl nob w1).drew)).no hf)); go_loud (have K2 := hid (HCK.out _ S2.out)); have F2 := hid ((Fr.refl nob w1).drew.tr hf); clear hf))
  clear d0 d1 c0 c2 c3 c4 k0 HCK
  go_wp2_with fail
  go_ret
  refine ⟨?_, by first | exact (F1.out.tr F2.out) | exact ((F1.out.tr F2.out)).drewN _⟩
  show Ending.returned (.string (bs nm ++ bs [61] ++ bs (txt ns a) ++ bs [59, 10])) = _
  rw [bs_add, bs_add, bs_add]
  first | done | rfl | simp
set_option maxHeartbeats 1000000 in
set_option maxRecDepth 100000 in
theorem rstm_do {x line : Nat} {a : Nat} (hxa : RexprOk nv fv lvs pvs ns fs a) (hka : Kid ns clsR a) (hx : ns[x]? = some ⟨13, line, 0, [], [a]⟩) (h : RS nv fv lvs pvs ns fs w) (hlen : (txt ns a).length + 2 ≤ 100000000) :
    Calls Tryd.prog 47 #[.agg #[nv, fv], .int .i64 x] w fun e w' => e = .returned (.string (bs (txt ns a ++ [59, 10]))) ∧ Fr nob w w' := by
  obtain ⟨nb, cc, kv, rfl, hc, hkv, x0, x1, x2, x3, x4⟩ := h.tree.node hx
  obtain ⟨FA, FC, rfl, _, _⟩ := h.tree.fns.cap
  have hlt := (List.getElem?_eq_some_iff.1 hx).1
  have hx3 : (x : Int) < (ns.length : Int) := by omega
  have hx4 : (ns.length : Int) ≤ 9223372036854775807 := by have := h.tree.nodes.cap; obtain ⟨A, c2, e, h1, h2⟩ := this; unfold maxLen at h2; omega
  have n3 : nb < w.heap.size := World.block_lt_of_cell? w ⟨nb, x * 5, none⟩ x0
  have n2 : ¬ nb = w.heap.size := by omega
  dsimp only at x0 x1 x2 x3 x4 hkv
  obtain ⟨kb, kc, rfl, _, _⟩ := kids_get hkv (show 0 < 1 by decide)
  have HXa := hid hxa
  have HKa := hid hka
  clear hxa hka
  have S0 := hid h
  have HO := hid hkv
  have HL := hid hlen
  clear h hlen hkv hx hlt hc
  have nl1 : ¬ 9223372036854775807 < (bs (txt ns a)).size + 2 := by have h5 := HL.out; rw [bs_size]; omega
  go_enter Tryd.func47, Tryd.ntmps47
  go_wp2_with fail
  have S1 := hid (S0.out.copy (k := 13) (line := line) (n := 0) (name := (bs [])) HO.out)
  have F1 := hid (show Fr nob w ((w.alloc (.cells #[.slice (some ⟨nb, 0, none⟩) ns.length cc, .slice FA fs.length FC] 26)).alloc (.cells #[.int .i64 13, .int .i64 line, .int .i64 0, .string (bs []), .slice (some ⟨kb, 0, none⟩) [a].length kc] 34)) from ((Fr.refl nob w).alloc _).alloc _)
  clear n2 n3 x0 x1 x2 x3 x4 hx3 hx4 HO S0
  generalize hB : w.heap.size = B at *
  clear hB
  generalize hw1 : (w.alloc (.cells #[.slice (some ⟨nb, 0, none⟩) ns.length cc, .slice FA fs.length FC] 26)).alloc (.cells #[.int .i64 13, .int .i64 line, .int .i64 0, .string (bs []), .slice (some ⟨kb, 0, none⟩) [a].length kc] 34) = w1 at *
  clear hw1
  obtain ⟨d0, d1, c0, c2, c3, c4⟩ := S1.out.cells
  have k0 := S1.out.2.2.kid 0 a rfl
  have CK : ∀ (wx : World), RK (.slice (some ⟨nb, 0, none⟩) ns.length cc) (.slice FA fs.length FC) lvs pvs ns fs B 13 line 0 (bs []) (.slice (some ⟨kb, 0, none⟩) [a].length kc) [a] wx → wx.cell? ⟨B, 0, none⟩ = some (.slice (some ⟨nb, 0, none⟩) ns.length cc) ∧ wx.cell? ⟨B, 1, none⟩ = some (.slice FA fs.length FC) ∧ wx.cell? ⟨B + 1, 4, none⟩ = some (.slice (some ⟨kb, 0, none⟩) 1 kc) ∧ wx.cell? ⟨kb, 0, none⟩ = some (.int .i64 (a : Nat)) := fun wx h1 => ⟨h1.cells.1, h1.cells.2.1, h1.cells.2.2.2.2.2, h1.2.2.kid 0 a rfl⟩
  have HCK := hid CK
  clear CK
  go_region_held3 (fun wx => wx.cell? ⟨B, 0, none⟩ = some (.slice (some ⟨nb, 0, none⟩) ns.length cc) ∧ wx.cell? ⟨B, 1, none⟩ = some (.slice FA fs.length FC) ∧ wx.cell? ⟨B + 1, 4, none⟩ = some (.slice (some ⟨kb, 0, none⟩) 1 kc) ∧ wx.cell? ⟨kb, 0, none⟩ = some (.int .i64 (a : Nat))) (first | exact K2.out | go_keep)
    (first
      | (go_at_call 15; go_must (refine (HXa.out _ (S1.out.no ((Fr.refl nob w1).drew)).1 HKa.out (by have h5 := HL.out; omega)).mono ?_); go_loud (rintro e w2 ⟨rfl, hf⟩); go_loud (have S2 := hid ((S1.out.no ((Fr.refl nob w1).drew)).no hf)); go_loud (have K2 := hid (HCK.out _ S2.out)); have F2 := hid ((Fr.refl nob w1).drew.tr hf); clear hf))
  clear d0 d1 c0 c2 c3 c4 k0 HCK
  go_wp2_with fail
  go_ret
  refine ⟨?_, by first | exact (F1.out.tr F2.out) | exact ((F1.out.tr F2.out)).drewN _⟩
  show Ending.returned (.string (bs (txt ns a) ++ bs [59, 10])) = _
  rw [bs_add]
  first | done | rfl | simp
set_option maxHeartbeats 1000000 in
set_option maxRecDepth 100000 in
theorem rstm_print {x line : Nat} {a : Nat} (hxa : RexprOk nv fv lvs pvs ns fs a) (hka : Kid ns clsR a) (hx : ns[x]? = some ⟨14, line, 0, [], [a]⟩) (h : RS nv fv lvs pvs ns fs w) (hlen : 6 + (txt ns a).length + 2 ≤ 100000000) :
    Calls Tryd.prog 47 #[.agg #[nv, fv], .int .i64 x] w fun e w' => e = .returned (.string (bs ([112, 114, 105, 110, 116, 32] ++ txt ns a ++ [59, 10]))) ∧ Fr nob w w' := by
  obtain ⟨nb, cc, kv, rfl, hc, hkv, x0, x1, x2, x3, x4⟩ := h.tree.node hx
  obtain ⟨FA, FC, rfl, _, _⟩ := h.tree.fns.cap
  have hlt := (List.getElem?_eq_some_iff.1 hx).1
  have hx3 : (x : Int) < (ns.length : Int) := by omega
  have hx4 : (ns.length : Int) ≤ 9223372036854775807 := by have := h.tree.nodes.cap; obtain ⟨A, c2, e, h1, h2⟩ := this; unfold maxLen at h2; omega
  have n3 : nb < w.heap.size := World.block_lt_of_cell? w ⟨nb, x * 5, none⟩ x0
  have n2 : ¬ nb = w.heap.size := by omega
  dsimp only at x0 x1 x2 x3 x4 hkv
  obtain ⟨kb, kc, rfl, _, _⟩ := kids_get hkv (show 0 < 1 by decide)
  have HXa := hid hxa
  have HKa := hid hka
  clear hxa hka
  have S0 := hid h
  have HO := hid hkv
  have HL := hid hlen
  clear h hlen hkv hx hlt hc
  have nl1 : ¬ 9223372036854775807 < 6 + (bs (txt ns a)).size := by have h5 := HL.out; rw [bs_size]; omega
  have nl2 : ¬ 9223372036854775807 < 6 + (bs (txt ns a)).size + 2 := by have h5 := HL.out; rw [bs_size]; omega
  go_enter Tryd.func47, Tryd.ntmps47
  go_wp2_with fail
  have S1 := hid (S0.out.copy (k := 14) (line := line) (n := 0) (name := (bs [])) HO.out)
  have F1 := hid (show Fr nob w ((w.alloc (.cells #[.slice (some ⟨nb, 0, none⟩) ns.length cc, .slice FA fs.length FC] 26)).alloc (.cells #[.int .i64 14, .int .i64 line, .int .i64 0, .string (bs []), .slice (some ⟨kb, 0, none⟩) [a].length kc] 34)) from ((Fr.refl nob w).alloc _).alloc _)
  clear n2 n3 x0 x1 x2 x3 x4 hx3 hx4 HO S0
  generalize hB : w.heap.size = B at *
  clear hB
  generalize hw1 : (w.alloc (.cells #[.slice (some ⟨nb, 0, none⟩) ns.length cc, .slice FA fs.length FC] 26)).alloc (.cells #[.int .i64 14, .int .i64 line, .int .i64 0, .string (bs []), .slice (some ⟨kb, 0, none⟩) [a].length kc] 34) = w1 at *
  clear hw1
  obtain ⟨d0, d1, c0, c2, c3, c4⟩ := S1.out.cells
  have k0 := S1.out.2.2.kid 0 a rfl
  have CK : ∀ (wx : World), RK (.slice (some ⟨nb, 0, none⟩) ns.length cc) (.slice FA fs.length FC) lvs pvs ns fs B 14 line 0 (bs []) (.slice (some ⟨kb, 0, none⟩) [a].length kc) [a] wx → wx.cell? ⟨B, 0, none⟩ = some (.slice (some ⟨nb, 0, none⟩) ns.length cc) ∧ wx.cell? ⟨B, 1, none⟩ = some (.slice FA fs.length FC) ∧ wx.cell? ⟨B + 1, 4, none⟩ = some (.slice (some ⟨kb, 0, none⟩) 1 kc) ∧ wx.cell? ⟨kb, 0, none⟩ = some (.int .i64 (a : Nat)) := fun wx h1 => ⟨h1.cells.1, h1.cells.2.1, h1.cells.2.2.2.2.2, h1.2.2.kid 0 a rfl⟩
  have HCK := hid CK
  clear CK
  go_region_held3 (fun wx => wx.cell? ⟨B, 0, none⟩ = some (.slice (some ⟨nb, 0, none⟩) ns.length cc) ∧ wx.cell? ⟨B, 1, none⟩ = some (.slice FA fs.length FC) ∧ wx.cell? ⟨B + 1, 4, none⟩ = some (.slice (some ⟨kb, 0, none⟩) 1 kc) ∧ wx.cell? ⟨kb, 0, none⟩ = some (.int .i64 (a : Nat))) (first | exact K2.out | go_keep)
    (first
      | (go_at_call 15; go_must (refine (HXa.out _ (S1.out.no ((Fr.refl nob w1).drew)).1 HKa.out (by have h5 := HL.out; omega)).mono ?_); go_loud (rintro e w2 ⟨rfl, hf⟩); go_loud (have S2 := hid ((S1.out.no ((Fr.refl nob w1).drew)).no hf)); go_loud (have K2 := hid (HCK.out _ S2.out)); have F2 := hid ((Fr.refl nob w1).drew.tr hf); clear hf))
  clear d0 d1 c0 c2 c3 c4 k0 HCK
  go_wp2_with fail
  go_ret
  refine ⟨?_, by first | exact (F1.out.tr F2.out) | exact ((F1.out.tr F2.out)).drewN _⟩
  show Ending.returned (.string (bs [112, 114, 105, 110, 116, 32] ++ bs (txt ns a) ++ bs [59, 10])) = _
  rw [bs_add, bs_add]
  first | done | rfl | simp
set_option maxHeartbeats 1000000 in
set_option maxRecDepth 100000 in
theorem rstm_ret0 {x line : Nat} (hx : ns[x]? = some ⟨17, line, 0, [], []⟩) (h : RS nv fv lvs pvs ns fs w) (hlen : 8 ≤ 100000000) :
    Calls Tryd.prog 47 #[.agg #[nv, fv], .int .i64 x] w fun e w' => e = .returned (.string (bs ([114, 101, 116, 117, 114, 110, 59, 10]))) ∧ Fr nob w w' := by
  obtain ⟨nb, cc, kv, rfl, hc, hkv, x0, x1, x2, x3, x4⟩ := h.tree.node hx
  obtain ⟨FA, FC, rfl, _, _⟩ := h.tree.fns.cap
  have hlt := (List.getElem?_eq_some_iff.1 hx).1
  have hx3 : (x : Int) < (ns.length : Int) := by omega
  have hx4 : (ns.length : Int) ≤ 9223372036854775807 := by have := h.tree.nodes.cap; obtain ⟨A, c2, e, h1, h2⟩ := this; unfold maxLen at h2; omega
  have n3 : nb < w.heap.size := World.block_lt_of_cell? w ⟨nb, x * 5, none⟩ x0
  have n2 : ¬ nb = w.heap.size := by omega
  dsimp only at x0 x1 x2 x3 x4 hkv
  obtain ⟨KA, KC, rfl, _, _⟩ := hkv.cap
  have S0 := hid h
  have HO := hid hkv
  have HL := hid hlen
  clear h hlen hkv hx hlt hc
  go_enter Tryd.func47, Tryd.ntmps47
  go_wp2_with fail
  go_ret
  exact ⟨rfl, ((Fr.refl nob w).alloc _).alloc _⟩
set_option maxHeartbeats 1000000 in
set_option maxRecDepth 100000 in
theorem rstm_ret1 {x line : Nat} {a : Nat} (hxa : RexprOk nv fv lvs pvs ns fs a) (hka : Kid ns clsR a) (hx : ns[x]? = some ⟨17, line, 0, [], [a]⟩) (h : RS nv fv lvs pvs ns fs w) (hlen : 7 + (txt ns a).length + 2 ≤ 100000000) :
    Calls Tryd.prog 47 #[.agg #[nv, fv], .int .i64 x] w fun e w' => e = .returned (.string (bs ([114, 101, 116, 117, 114, 110, 32] ++ txt ns a ++ [59, 10]))) ∧ Fr nob w w' := by
  obtain ⟨nb, cc, kv, rfl, hc, hkv, x0, x1, x2, x3, x4⟩ := h.tree.node hx
  obtain ⟨FA, FC, rfl, _, _⟩ := h.tree.fns.cap
  have hlt := (List.getElem?_eq_some_iff.1 hx).1
  have hx3 : (x : Int) < (ns.length : Int) := by omega
  have hx4 : (ns.length : Int) ≤ 9223372036854775807 := by have := h.tree.nodes.cap; obtain ⟨A, c2, e, h1, h2⟩ := this; unfold maxLen at h2; omega
  have n3 : nb < w.heap.size := World.block_lt_of_cell? w ⟨nb, x * 5, none⟩ x0
  have n2 : ¬ nb = w.heap.size := by omega
  dsimp only at x0 x1 x2 x3 x4 hkv
  obtain ⟨kb, kc, rfl, _, _⟩ := kids_get hkv (show 0 < 1 by decide)
  have HXa := hid hxa
  have HKa := hid hka
  clear hxa hka
  have S0 := hid h
  have HO := hid hkv
  have HL := hid hlen
  clear h hlen hkv hx hlt hc
  have nl1 : ¬ 9223372036854775807 < 7 + (bs (txt ns a)).size := by have h5 := HL.out; rw [bs_size]; omega
  have nl2 : ¬ 9223372036854775807 < 7 + (bs (txt ns a)).size + 2 := by have h5 := HL.out; rw [bs_size]; omega
  go_enter Tryd.func47, Tryd.ntmps47
  go_wp2_with fail
  have S1 := hid (S0.out.copy (k := 17) (line := line) (n := 0) (name := (bs [])) HO.out)
  have F1 := hid (show Fr nob w ((w.alloc (.cells #[.slice (some ⟨nb, 0, none⟩) ns.length cc, .slice FA fs.length FC] 26)).alloc (.cells #[.int .i64 17, .int .i64 line, .int .i64 0, .string (bs []), .slice (some ⟨kb, 0, none⟩) [a].length kc] 34)) from ((Fr.refl nob w).alloc _).alloc _)
  clear n2 n3 x0 x1 x2 x3 x4 hx3 hx4 HO S0
  generalize hB : w.heap.size = B at *
  clear hB
  generalize hw1 : (w.alloc (.cells #[.slice (some ⟨nb, 0, none⟩) ns.length cc, .slice FA fs.length FC] 26)).alloc (.cells #[.int .i64 17, .int .i64 line, .int .i64 0, .string (bs []), .slice (some ⟨kb, 0, none⟩) [a].length kc] 34) = w1 at *
  clear hw1
  obtain ⟨d0, d1, c0, c2, c3, c4⟩ := S1.out.cells
  have k0 := S1.out.2.2.kid 0 a rfl
  have CK : ∀ (wx : World), RK (.slice (some ⟨nb, 0, none⟩) ns.length cc) (.slice FA fs.length FC) lvs pvs ns fs B 17 line 0 (bs []) (.slice (some ⟨kb, 0, none⟩) [a].length kc) [a] wx → wx.cell? ⟨B, 0, none⟩ = some (.slice (some ⟨nb, 0, none⟩) ns.length cc) ∧ wx.cell? ⟨B, 1, none⟩ = some (.slice FA fs.length FC) ∧ wx.cell? ⟨B + 1, 4, none⟩ = some (.slice (some ⟨kb, 0, none⟩) 1 kc) ∧ wx.cell? ⟨kb, 0, none⟩ = some (.int .i64 (a : Nat)) := fun wx h1 => ⟨h1.cells.1, h1.cells.2.1, h1.cells.2.2.2.2.2, h1.2.2.kid 0 a rfl⟩
  have HCK := hid CK
  clear CK
  go_region_held3 (fun wx => wx.cell? ⟨B, 0, none⟩ = some (.slice (some ⟨nb, 0, none⟩) ns.length cc) ∧ wx.cell? ⟨B, 1, none⟩ = some (.slice FA fs.length FC) ∧ wx.cell? ⟨B + 1, 4, none⟩ = some (.slice (some ⟨kb, 0, none⟩) 1 kc) ∧ wx.cell? ⟨kb, 0, none⟩ = some (.int .i64 (a : Nat))) (first | exact K2.out | go_keep)
    (first
      | (go_at_call 15; go_must (refine (HXa.out _ (S1.out.no ((Fr.refl nob w1).drew)).1 HKa.out (by have h5 := HL.out; omega)).mono ?_); go_loud (rintro e w2 ⟨rfl, hf⟩); go_loud (have S2 := hid ((S1.out.no ((Fr.refl nob w1).drew)).no hf)); go_loud (have K2 := hid (HCK.out _ S2.out)); have F2 := hid ((Fr.refl nob w1).drew.tr hf); clear hf))
  clear d0 d1 c0 c2 c3 c4 k0 HCK
  go_wp2_with fail
  go_ret
  refine ⟨?_, by first | exact (F1.out.tr F2.out) | exact ((F1.out.tr F2.out)).drewN _⟩
  show Ending.returned (.string (bs [114, 101, 116, 117, 114, 110, 32] ++ bs (txt ns a) ++ bs [59, 10])) = _
  rw [bs_add, bs_add]
  first | done | rfl | simp
end
end Go.Proofs.YtahhgnbiahomiaaDoor
/- Show: the reference: statements, by kinds: more. Printed by wip/tools/mkrstm.py. -/
namespace Go.Proofs.YtahhgnbiahomiaaDoor
open Go.RowKit
set_option linter.unusedVariables false
set_option linter.unusedSimpArgs false
section
variable {nv fv : Value} {lvs pvs : List Value} {ns : List NodeM} {fs : List FuncM} {w w' : World}
set_option maxHeartbeats 1000000 in
set_option maxRecDepth 100000 in
theorem rstm_put {x line : Nat} {nm : List UInt8} {a b : Nat} (hxa : RexprOk nv fv lvs pvs ns fs a) (hka : Kid ns clsR a) (hxb : RexprOk nv fv lvs pvs ns fs b) (hkb : Kid ns clsR b) (hx : ns[x]? = some ⟨12, line, 0, nm, [a, b]⟩) (h : RS nv fv lvs pvs ns fs w) (hlen : nm.length + 1 + (txt ns a).length + 2 + (txt ns b).length + 2 ≤ 100000000) :
    Calls Tryd.prog 47 #[.agg #[nv, fv], .int .i64 x] w fun e w' => e = .returned (.string (bs (nm ++ [91] ++ txt ns a ++ [93, 61] ++ txt ns b ++ [59, 10]))) ∧ Fr nob w w' := by
  obtain ⟨nb, cc, kv, rfl, hc, hkv, x0, x1, x2, x3, x4⟩ := h.tree.node hx
  obtain ⟨FA, FC, rfl, _, _⟩ := h.tree.fns.cap
  have hlt := (List.getElem?_eq_some_iff.1 hx).1
  have hx3 : (x : Int) < (ns.length : Int) := by omega
  have hx4 : (ns.length : Int) ≤ 9223372036854775807 := by have := h.tree.nodes.cap; obtain ⟨A, c2, e, h1, h2⟩ := this; unfold maxLen at h2; omega
  have n3 : nb < w.heap.size := World.block_lt_of_cell? w ⟨nb, x * 5, none⟩ x0
  have n2 : ¬ nb = w.heap.size := by omega
  dsimp only at x0 x1 x2 x3 x4 hkv
  obtain ⟨kb, kc, rfl, _, _⟩ := kids_get hkv (show 0 < 2 by decide)
  have HXa := hid hxa
  have HKa := hid hka
  clear hxa hka
  have HXb := hid hxb
  have HKb := hid hkb
  clear hxb hkb
  have S0 := hid h
  have HO := hid hkv
  have HL := hid hlen
  clear h hlen hkv hx hlt hc
  have nl1 : ¬ 9223372036854775807 < (bs nm).size + 1 := by have h5 := HL.out; rw [bs_size]; omega
  have nl2 : ¬ 9223372036854775807 < (bs nm).size + 1 + (bs (txt ns a)).size := by have h5 := HL.out; rw [bs_size, bs_size]; omega
  have nl3 : ¬ 9223372036854775807 < (bs nm).size + 1 + (bs (txt ns a)).size + 2 := by have h5 := HL.out; rw [bs_size, bs_size]; omega
  have nl4 : ¬ 9223372036854775807 < (bs nm).size + 1 + (bs (txt ns a)).size + 2 + (bs (txt ns b)).size := by have h5 := HL.out; rw [bs_size, bs_size, bs_size]; omega
  have nl5 : ¬ 9223372036854775807 < (bs nm).size + 1 + (bs (txt ns a)).size + 2 + (bs (txt ns b)).size + 2 := by have h5 := HL.out; rw [bs_size, bs_size, bs_size]; omega
  go_enter Tryd.func47, Tryd.ntmps47
  go_wp2_with fail
  have S1 := hid (S0.out.copy (k := 12) (line := line) (n := 0) (name := (bs nm)) HO.out)
  have F1 := hid (show Fr nob w ((w.alloc (.cells #[.slice (some ⟨nb, 0, none⟩) ns.length cc, .slice FA fs.length FC] 26)).alloc (.cells #[.int .i64 12, .int .i64 line, .int .i64 0, .string (bs nm), .slice (some ⟨kb, 0, none⟩) [a, b].length kc] 34)) from ((Fr.refl nob w).alloc _).alloc _)
  clear n2 n3 x0 x1 x2 x3 x4 hx3 hx4 HO S0
  generalize hB : w.heap.size = B at *
  clear hB
  generalize hw1 : (w.alloc (.cells #[.slice (some ⟨nb, 0, none⟩) ns.length cc, .slice FA fs.length FC] 26)).alloc (.cells #[.int .i64 12, .int .i64 line, .int .i64 0, .string (bs nm), .slice (some ⟨kb, 0, none⟩) [a, b].length kc] 34) = w1 at *
  clear hw1
  obtain ⟨d0, d1, c0, c2, c3, c4⟩ := S1.out.cells
  have k0 := S1.out.2.2.kid 0 a rfl
  have k1 := S1.out.2.2.kid 1 b rfl
  have CK : ∀ (wx : World), RK (.slice (some ⟨nb, 0, none⟩) ns.length cc) (.slice FA fs.length FC) lvs pvs ns fs B 12 line 0 (bs nm) (.slice (some ⟨kb, 0, none⟩) [a, b].length kc) [a, b] wx → wx.cell? ⟨B, 0, none⟩ = some (.slice (some ⟨nb, 0, none⟩) ns.length cc) ∧ wx.cell? ⟨B, 1, none⟩ = some (.slice FA fs.length FC) ∧ wx.cell? ⟨B + 1, 4, none⟩ = some (.slice (some ⟨kb, 0, none⟩) 2 kc) ∧ wx.cell? ⟨B + 1, 3, none⟩ = some (.string (bs nm)) ∧ wx.cell? ⟨kb, 0, none⟩ = some (.int .i64 (a : Nat)) ∧ wx.cell? ⟨kb, 1, none⟩ = some (.int .i64 (b : Nat)) := fun wx h1 => ⟨h1.cells.1, h1.cells.2.1, h1.cells.2.2.2.2.2, h1.cells.2.2.2.2.1, h1.2.2.kid 0 a rfl, h1.2.2.kid 1 b rfl⟩
  have HCK := hid CK
  clear CK
  go_region_held3 (fun wx => wx.cell? ⟨B, 0, none⟩ = some (.slice (some ⟨nb, 0, none⟩) ns.length cc) ∧ wx.cell? ⟨B, 1, none⟩ = some (.slice FA fs.length FC) ∧ wx.cell? ⟨B + 1, 4, none⟩ = some (.slice (some ⟨kb, 0, none⟩) 2 kc) ∧ wx.cell? ⟨B + 1, 3, none⟩ = some (.string (bs nm)) ∧ wx.cell? ⟨kb, 0, none⟩ = some (.int .i64 (a : Nat)) ∧ wx.cell? ⟨kb, 1, none⟩ = some (.int .i64 (b : Nat))) (first | exact K3.out | exact K2.out | go_keep)
    (first
      | (go_at_call 15; have tok := S2; go_must (refine (HXb.out _ S2.out.1 HKb.out (by have h5 := HL.out; omega)).mono ?_); go_loud (rintro e w3 ⟨rfl, hf⟩); go_loud (have S3 := hid (S2.out.no hf)); go_loud (have K3 := hid (HCK.out _ S3.out)); have F3 := hid (F2.out.tr hf); clear hf tok)
      | (go_at_call 15; go_must (refine (HXa.out _ (S1.out.no ((Fr.refl nob w1).drew)).1 HKa.out (by have h5 := HL.out; omega)).mono ?_); go_loud (rintro e w2 ⟨rfl, hf⟩); go_loud (have S2 := hid ((S1.out.no ((Fr.refl nob w1).drew)).no hf)); go_loud (have K2 := hid (HCK.out _ S2.out)); have F2 := hid ((Fr.refl nob w1).drew.tr hf); clear hf))
  clear d0 d1 c0 c2 c3 c4 k0 k1 HCK
  go_wp2_with fail
  go_ret
  refine ⟨?_, by first | exact (F1.out.tr F3.out) | exact ((F1.out.tr F3.out)).drewN _⟩
  show Ending.returned (.string (bs nm ++ bs [91] ++ bs (txt ns a) ++ bs [93, 61] ++ bs (txt ns b) ++ bs [59, 10])) = _
  rw [bs_add, bs_add, bs_add, bs_add, bs_add]
  first | done | rfl | simp
set_option maxHeartbeats 1000000 in
set_option maxRecDepth 100000 in
theorem rstm_loop {x line : Nat} {a b : Nat} (hxa : RexprOk nv fv lvs pvs ns fs a) (hka : Kid ns clsR a) (hxb : RstmOk clsB 28 nv fv lvs pvs ns fs b) (hkb : Kid ns clsB b) (hx : ns[x]? = some ⟨16, line, 0, [], [a, b]⟩) (h : RS nv fv lvs pvs ns fs w) (hlen : 6 + (txt ns a).length + (txt ns b).length ≤ 100000000) :
    Calls Tryd.prog 47 #[.agg #[nv, fv], .int .i64 x] w fun e w' => e = .returned (.string (bs ([119, 104, 105, 108, 101, 32] ++ txt ns a ++ txt ns b))) ∧ Fr nob w w' := by
  obtain ⟨nb, cc, kv, rfl, hc, hkv, x0, x1, x2, x3, x4⟩ := h.tree.node hx
  obtain ⟨FA, FC, rfl, _, _⟩ := h.tree.fns.cap
  have hlt := (List.getElem?_eq_some_iff.1 hx).1
  have hx3 : (x : Int) < (ns.length : Int) := by omega
  have hx4 : (ns.length : Int) ≤ 9223372036854775807 := by have := h.tree.nodes.cap; obtain ⟨A, c2, e, h1, h2⟩ := this; unfold maxLen at h2; omega
  have n3 : nb < w.heap.size := World.block_lt_of_cell? w ⟨nb, x * 5, none⟩ x0
  have n2 : ¬ nb = w.heap.size := by omega
  dsimp only at x0 x1 x2 x3 x4 hkv
  obtain ⟨kb, kc, rfl, _, _⟩ := kids_get hkv (show 0 < 2 by decide)
  have HXa := hid hxa
  have HKa := hid hka
  clear hxa hka
  have HXb := hid hxb
  have HKb := hid hkb
  clear hxb hkb
  have S0 := hid h
  have HO := hid hkv
  have HL := hid hlen
  clear h hlen hkv hx hlt hc
  have nl1 : ¬ 9223372036854775807 < 6 + (bs (txt ns a)).size := by have h5 := HL.out; rw [bs_size]; omega
  have nl2 : ¬ 9223372036854775807 < 6 + (bs (txt ns a)).size + (bs (txt ns b)).size := by have h5 := HL.out; rw [bs_size, bs_size]; omega
  go_enter Tryd.func47, Tryd.ntmps47
  go_wp2_with fail
  have S1 := hid (S0.out.copy (k := 16) (line := line) (n := 0) (name := (bs [])) HO.out)
  have F1 := hid (show Fr nob w ((w.alloc (.cells #[.slice (some ⟨nb, 0, none⟩) ns.length cc, .slice FA fs.length FC] 26)).alloc (.cells #[.int .i64 16, .int .i64 line, .int .i64 0, .string (bs []), .slice (some ⟨kb, 0, none⟩) [a, b].length kc] 34)) from ((Fr.refl nob w).alloc _).alloc _)
  clear n2 n3 x0 x1 x2 x3 x4 hx3 hx4 HO S0
  generalize hB : w.heap.size = B at *
  clear hB
  generalize hw1 : (w.alloc (.cells #[.slice (some ⟨nb, 0, none⟩) ns.length cc, .slice FA fs.length FC] 26)).alloc (.cells #[.int .i64 16, .int .i64 line, .int .i64 0, .string (bs []), .slice (some ⟨kb, 0, none⟩) [a, b].length kc] 34) = w1 at *
  clear hw1
  obtain ⟨d0, d1, c0, c2, c3, c4⟩ := S1.out.cells
  have k0 := S1.out.2.2.kid 0 a rfl
  have k1 := S1.out.2.2.kid 1 b rfl
  have CK : ∀ (wx : World), RK (.slice (some ⟨nb, 0, none⟩) ns.length cc) (.slice FA fs.length FC) lvs pvs ns fs B 16 line 0 (bs []) (.slice (some ⟨kb, 0, none⟩) [a, b].length kc) [a, b] wx → wx.cell? ⟨B, 0, none⟩ = some (.slice (some ⟨nb, 0, none⟩) ns.length cc) ∧ wx.cell? ⟨B, 1, none⟩ = some (.slice FA fs.length FC) ∧ wx.cell? ⟨B + 1, 4, none⟩ = some (.slice (some ⟨kb, 0, none⟩) 2 kc) ∧ wx.cell? ⟨kb, 0, none⟩ = some (.int .i64 (a : Nat)) ∧ wx.cell? ⟨kb, 1, none⟩ = some (.int .i64 (b : Nat)) := fun wx h1 => ⟨h1.cells.1, h1.cells.2.1, h1.cells.2.2.2.2.2, h1.2.2.kid 0 a rfl, h1.2.2.kid 1 b rfl⟩
  have HCK := hid CK
  clear CK
  go_region_held3 (fun wx => wx.cell? ⟨B, 0, none⟩ = some (.slice (some ⟨nb, 0, none⟩) ns.length cc) ∧ wx.cell? ⟨B, 1, none⟩ = some (.slice FA fs.length FC) ∧ wx.cell? ⟨B + 1, 4, none⟩ = some (.slice (some ⟨kb, 0, none⟩) 2 kc) ∧ wx.cell? ⟨kb, 0, none⟩ = some (.int .i64 (a : Nat)) ∧ wx.cell? ⟨kb, 1, none⟩ = some (.int .i64 (b : Nat))) (first | exact K3.out | exact K2.out | go_keep)
    (first
      | (go_at_call 28; have tok := S2; go_must (refine (HXb.out _ S2.out.1 HKb.out (by have h5 := HL.out; omega)).mono ?_); go_loud (rintro e w3 ⟨rfl, hf⟩); go_loud (have S3 := hid (S2.out.no hf)); go_loud (have K3 := hid (HCK.out _ S3.out)); have F3 := hid (F2.out.tr hf); clear hf tok)
      | (go_at_call 15; go_must (refine (HXa.out _ (S1.out.no ((Fr.refl nob w1).drew)).1 HKa.out (by have h5 := HL.out; omega)).mono ?_); go_loud (rintro e w2 ⟨rfl, hf⟩); go_loud (have S2 := hid ((S1.out.no ((Fr.refl nob w1).drew)).no hf)); go_loud (have K2 := hid (HCK.out _ S2.out)); have F2 := hid ((Fr.refl nob w1).drew.tr hf); clear hf))
  clear d0 d1 c0 c2 c3 c4 k0 k1 HCK
  go_wp2_with fail
  go_ret
  refine ⟨?_, by first | exact (F1.out.tr F3.out) | exact ((F1.out.tr F3.out)).drewN _⟩
  show Ending.returned (.string (bs [119, 104, 105, 108, 101, 32] ++ bs (txt ns a) ++ bs (txt ns b))) = _
  rw [bs_add, bs_add]
  first | done | rfl | simp
set_option maxHeartbeats 1000000 in
set_option maxRecDepth 100000 in
theorem rstm_if2 {x line : Nat} {a b : Nat} (hxa : RexprOk nv fv lvs pvs ns fs a) (hka : Kid ns clsR a) (hxb : RstmOk clsB 28 nv fv lvs pvs ns fs b) (hkb : Kid ns clsB b) (hx : ns[x]? = some ⟨15, line, 0, [], [a, b]⟩) (h : RS nv fv lvs pvs ns fs w) (hlen : 3 + (txt ns a).length + (txt ns b).length ≤ 100000000) :
    Calls Tryd.prog 47 #[.agg #[nv, fv], .int .i64 x] w fun e w' => e = .returned (.string (bs ([105, 102, 32] ++ txt ns a ++ txt ns b))) ∧ Fr nob w w' := by
  obtain ⟨nb, cc, kv, rfl, hc, hkv, x0, x1, x2, x3, x4⟩ := h.tree.node hx
  obtain ⟨FA, FC, rfl, _, _⟩ := h.tree.fns.cap
  have hlt := (List.getElem?_eq_some_iff.1 hx).1
  have hx3 : (x : Int) < (ns.length : Int) := by omega
  have hx4 : (ns.length : Int) ≤ 9223372036854775807 := by have := h.tree.nodes.cap; obtain ⟨A, c2, e, h1, h2⟩ := this; unfold maxLen at h2; omega
  have n3 : nb < w.heap.size := World.block_lt_of_cell? w ⟨nb, x * 5, none⟩ x0
  have n2 : ¬ nb = w.heap.size := by omega
  dsimp only at x0 x1 x2 x3 x4 hkv
  obtain ⟨kb, kc, rfl, _, _⟩ := kids_get hkv (show 0 < 2 by decide)
  have HXa := hid hxa
  have HKa := hid hka
  clear hxa hka
  have HXb := hid hxb
  have HKb := hid hkb
  clear hxb hkb
  have S0 := hid h
  have HO := hid hkv
  have HL := hid hlen
  clear h hlen hkv hx hlt hc
  have nl1 : ¬ 9223372036854775807 < 3 + (bs (txt ns a)).size := by have h5 := HL.out; rw [bs_size]; omega
  have nl2 : ¬ 9223372036854775807 < 3 + (bs (txt ns a)).size + (bs (txt ns b)).size := by have h5 := HL.out; rw [bs_size, bs_size]; omega
  go_enter Tryd.func47, Tryd.ntmps47
  go_wp2_with fail
  have S1 := hid (S0.out.copy (k := 15) (line := line) (n := 0) (name := (bs [])) HO.out)
  have F1 := hid (show Fr nob w ((w.alloc (.cells #[.slice (some ⟨nb, 0, none⟩) ns.length cc, .slice FA fs.length FC] 26)).alloc (.cells #[.int .i64 15, .int .i64 line, .int .i64 0, .string (bs []), .slice (some ⟨kb, 0, none⟩) [a, b].length kc] 34)) from ((Fr.refl nob w).alloc _).alloc _)
  clear n2 n3 x0 x1 x2 x3 x4 hx3 hx4 HO S0
  generalize hB : w.heap.size = B at *
  clear hB
  generalize hw1 : (w.alloc (.cells #[.slice (some ⟨nb, 0, none⟩) ns.length cc, .slice FA fs.length FC] 26)).alloc (.cells #[.int .i64 15, .int .i64 line, .int .i64 0, .string (bs []), .slice (some ⟨kb, 0, none⟩) [a, b].length kc] 34) = w1 at *
  clear hw1
  obtain ⟨d0, d1, c0, c2, c3, c4⟩ := S1.out.cells
  have k0 := S1.out.2.2.kid 0 a rfl
  have k1 := S1.out.2.2.kid 1 b rfl
  have CK : ∀ (wx : World), RK (.slice (some ⟨nb, 0, none⟩) ns.length cc) (.slice FA fs.length FC) lvs pvs ns fs B 15 line 0 (bs []) (.slice (some ⟨kb, 0, none⟩) [a, b].length kc) [a, b] wx → wx.cell? ⟨B, 0, none⟩ = some (.slice (some ⟨nb, 0, none⟩) ns.length cc) ∧ wx.cell? ⟨B, 1, none⟩ = some (.slice FA fs.length FC) ∧ wx.cell? ⟨B + 1, 4, none⟩ = some (.slice (some ⟨kb, 0, none⟩) 2 kc) ∧ wx.cell? ⟨kb, 0, none⟩ = some (.int .i64 (a : Nat)) ∧ wx.cell? ⟨kb, 1, none⟩ = some (.int .i64 (b : Nat)) := fun wx h1 => ⟨h1.cells.1, h1.cells.2.1, h1.cells.2.2.2.2.2, h1.2.2.kid 0 a rfl, h1.2.2.kid 1 b rfl⟩
  have HCK := hid CK
  clear CK
  go_region_held3 (fun wx => wx.cell? ⟨B, 0, none⟩ = some (.slice (some ⟨nb, 0, none⟩) ns.length cc) ∧ wx.cell? ⟨B, 1, none⟩ = some (.slice FA fs.length FC) ∧ wx.cell? ⟨B + 1, 4, none⟩ = some (.slice (some ⟨kb, 0, none⟩) 2 kc) ∧ wx.cell? ⟨kb, 0, none⟩ = some (.int .i64 (a : Nat)) ∧ wx.cell? ⟨kb, 1, none⟩ = some (.int .i64 (b : Nat))) (first | exact K3.out | exact K2.out | go_keep)
    (first
      | (go_at_call 28; have tok := S2; go_must (refine (HXb.out _ S2.out.1 HKb.out (by have h5 := HL.out; omega)).mono ?_); go_loud (rintro e w3 ⟨rfl, hf⟩); go_loud (have S3 := hid (S2.out.no hf)); go_loud (have K3 := hid (HCK.out _ S3.out)); have F3 := hid (F2.out.tr hf); clear hf tok)
      | (go_at_call 15; go_must (refine (HXa.out _ (S1.out.no ((Fr.refl nob w1).drew)).1 HKa.out (by have h5 := HL.out; omega)).mono ?_); go_loud (rintro e w2 ⟨rfl, hf⟩); go_loud (have S2 := hid ((S1.out.no ((Fr.refl nob w1).drew)).no hf)); go_loud (have K2 := hid (HCK.out _ S2.out)); have F2 := hid ((Fr.refl nob w1).drew.tr hf); clear hf))
  clear d0 d1 c0 c2 c3 c4 k0 k1 HCK
  obtain ⟨d0, d1, c0, c2, c3, c4⟩ := S3.out.cells
  go_wp2_with fail
  go_ret
  refine ⟨?_, by first | exact (F1.out.tr F3.out) | exact ((F1.out.tr F3.out)).drewN _⟩
  show Ending.returned (.string (bs [105, 102, 32] ++ bs (txt ns a) ++ bs (txt ns b))) = _
  rw [bs_add, bs_add]
  first | done | rfl | simp
set_option maxHeartbeats 1000000 in
set_option maxRecDepth 100000 in
theorem rstm_if3 {x line : Nat} {a b c : Nat} (hxa : RexprOk nv fv lvs pvs ns fs a) (hka : Kid ns clsR a) (hxb : RstmOk clsB 28 nv fv lvs pvs ns fs b) (hkb : Kid ns clsB b) (hxc : RstmOk clsB 28 nv fv lvs pvs ns fs c) (hkc : Kid ns clsB c) (hx : ns[x]? = some ⟨15, line, 0, [], [a, b, c]⟩) (h : RS nv fv lvs pvs ns fs w) (hlen : 3 + (txt ns a).length + (txt ns b).length + 4 + (txt ns c).length ≤ 100000000) :
    Calls Tryd.prog 47 #[.agg #[nv, fv], .int .i64 x] w fun e w' => e = .returned (.string (bs ([105, 102, 32] ++ txt ns a ++ txt ns b ++ [101, 108, 115, 101] ++ txt ns c))) ∧ Fr nob w w' := by
  obtain ⟨nb, cc, kv, rfl, hc, hkv, x0, x1, x2, x3, x4⟩ := h.tree.node hx
  obtain ⟨FA, FC, rfl, _, _⟩ := h.tree.fns.cap
  have hlt := (List.getElem?_eq_some_iff.1 hx).1
  have hx3 : (x : Int) < (ns.length : Int) := by omega
  have hx4 : (ns.length : Int) ≤ 9223372036854775807 := by have := h.tree.nodes.cap; obtain ⟨A, c2, e, h1, h2⟩ := this; unfold maxLen at h2; omega
  have n3 : nb < w.heap.size := World.block_lt_of_cell? w ⟨nb, x * 5, none⟩ x0
  have n2 : ¬ nb = w.heap.size := by omega
  dsimp only at x0 x1 x2 x3 x4 hkv
  obtain ⟨kb, kc, rfl, _, _⟩ := kids_get hkv (show 0 < 3 by decide)
  have HXa := hid hxa
  have HKa := hid hka
  clear hxa hka
  have HXb := hid hxb
  have HKb := hid hkb
  clear hxb hkb
  have HXc := hid hxc
  have HKc := hid hkc
  clear hxc hkc
  have S0 := hid h
  have HO := hid hkv
  have HL := hid hlen
  clear h hlen hkv hx hlt hc
  have nl1 : ¬ 9223372036854775807 < 3 + (bs (txt ns a)).size := by have h5 := HL.out; rw [bs_size]; omega
  have nl2 : ¬ 9223372036854775807 < 3 + (bs (txt ns a)).size + (bs (txt ns b)).size := by have h5 := HL.out; rw [bs_size, bs_size]; omega
  go_enter Tryd.func47, Tryd.ntmps47
  go_wp2_with fail
  have S1 := hid (S0.out.copy (k := 15) (line := line) (n := 0) (name := (bs [])) HO.out)
  have F1 := hid (show Fr nob w ((w.alloc (.cells #[.slice (some ⟨nb, 0, none⟩) ns.length cc, .slice FA fs.length FC] 26)).alloc (.cells #[.int .i64 15, .int .i64 line, .int .i64 0, .string (bs []), .slice (some ⟨kb, 0, none⟩) [a, b, c].length kc] 34)) from ((Fr.refl nob w).alloc _).alloc _)
  clear n2 n3 x0 x1 x2 x3 x4 hx3 hx4 HO S0
  generalize hB : w.heap.size = B at *
  clear hB
  generalize hw1 : (w.alloc (.cells #[.slice (some ⟨nb, 0, none⟩) ns.length cc, .slice FA fs.length FC] 26)).alloc (.cells #[.int .i64 15, .int .i64 line, .int .i64 0, .string (bs []), .slice (some ⟨kb, 0, none⟩) [a, b, c].length kc] 34) = w1 at *
  clear hw1
  obtain ⟨d0, d1, c0, c2, c3, c4⟩ := S1.out.cells
  have k0 := S1.out.2.2.kid 0 a rfl
  have k1 := S1.out.2.2.kid 1 b rfl
  have CK : ∀ (wx : World), RK (.slice (some ⟨nb, 0, none⟩) ns.length cc) (.slice FA fs.length FC) lvs pvs ns fs B 15 line 0 (bs []) (.slice (some ⟨kb, 0, none⟩) [a, b, c].length kc) [a, b, c] wx → wx.cell? ⟨B, 0, none⟩ = some (.slice (some ⟨nb, 0, none⟩) ns.length cc) ∧ wx.cell? ⟨B, 1, none⟩ = some (.slice FA fs.length FC) ∧ wx.cell? ⟨B + 1, 4, none⟩ = some (.slice (some ⟨kb, 0, none⟩) 3 kc) ∧ wx.cell? ⟨kb, 0, none⟩ = some (.int .i64 (a : Nat)) ∧ wx.cell? ⟨kb, 1, none⟩ = some (.int .i64 (b : Nat)) := fun wx h1 => ⟨h1.cells.1, h1.cells.2.1, h1.cells.2.2.2.2.2, h1.2.2.kid 0 a rfl, h1.2.2.kid 1 b rfl⟩
  have HCK := hid CK
  clear CK
  go_region_held3 (fun wx => wx.cell? ⟨B, 0, none⟩ = some (.slice (some ⟨nb, 0, none⟩) ns.length cc) ∧ wx.cell? ⟨B, 1, none⟩ = some (.slice FA fs.length FC) ∧ wx.cell? ⟨B + 1, 4, none⟩ = some (.slice (some ⟨kb, 0, none⟩) 3 kc) ∧ wx.cell? ⟨kb, 0, none⟩ = some (.int .i64 (a : Nat)) ∧ wx.cell? ⟨kb, 1, none⟩ = some (.int .i64 (b : Nat))) (first | exact K3.out | exact K2.out | go_keep)
    (first
      | (go_at_call 28; have tok := S2; go_must (refine (HXb.out _ S2.out.1 HKb.out (by have h5 := HL.out; omega)).mono ?_); go_loud (rintro e w3 ⟨rfl, hf⟩); go_loud (have S3 := hid (S2.out.no hf)); go_loud (have K3 := hid (HCK.out _ S3.out)); have F3 := hid (F2.out.tr hf); clear hf tok)
      | (go_at_call 15; go_must (refine (HXa.out _ (S1.out.no ((Fr.refl nob w1).drew)).1 HKa.out (by have h5 := HL.out; omega)).mono ?_); go_loud (rintro e w2 ⟨rfl, hf⟩); go_loud (have S2 := hid ((S1.out.no ((Fr.refl nob w1).drew)).no hf)); go_loud (have K2 := hid (HCK.out _ S2.out)); have F2 := hid ((Fr.refl nob w1).drew.tr hf); clear hf))
  clear d0 d1 c0 c2 c3 c4 k0 k1 HCK
  obtain ⟨d0, d1, c0, c2, c3, c4⟩ := S3.out.cells
  have ml0 : ¬ 9223372036854775807 < 3 + (bs (txt ns a)).size + (bs (txt ns b)).size + 4 := by have h5 := HL.out; rw [bs_size, bs_size]; omega
  have ml1 : ¬ 9223372036854775807 < 3 + (bs (txt ns a)).size + (bs (txt ns b)).size + 4 + (bs (txt ns c)).size := by have h5 := HL.out; rw [bs_size, bs_size, bs_size]; omega
  go_wp2_with fail
  clear d0 d1 c0 c2 c3 c4
  obtain ⟨d0, d1, c0, c2, c3, c4⟩ := S3.out.cells
  have k2 := S3.out.2.2.kid 2 c rfl
  have CK : ∀ (wx : World), RK (.slice (some ⟨nb, 0, none⟩) ns.length cc) (.slice FA fs.length FC) lvs pvs ns fs B 15 line 0 (bs []) (.slice (some ⟨kb, 0, none⟩) [a, b, c].length kc) [a, b, c] wx → wx.cell? ⟨B, 0, none⟩ = some (.slice (some ⟨nb, 0, none⟩) ns.length cc) ∧ wx.cell? ⟨B, 1, none⟩ = some (.slice FA fs.length FC) ∧ wx.cell? ⟨B + 1, 4, none⟩ = some (.slice (some ⟨kb, 0, none⟩) 3 kc) ∧ wx.cell? ⟨kb, 2, none⟩ = some (.int .i64 (c : Nat)) := fun wx h1 => ⟨h1.cells.1, h1.cells.2.1, h1.cells.2.2.2.2.2, h1.2.2.kid 2 c rfl⟩
  have HCK := hid CK
  clear CK
  go_region_held3 (fun wx => wx.cell? ⟨B, 0, none⟩ = some (.slice (some ⟨nb, 0, none⟩) ns.length cc) ∧ wx.cell? ⟨B, 1, none⟩ = some (.slice FA fs.length FC) ∧ wx.cell? ⟨B + 1, 4, none⟩ = some (.slice (some ⟨kb, 0, none⟩) 3 kc) ∧ wx.cell? ⟨kb, 2, none⟩ = some (.int .i64 (c : Nat))) (first | exact K4.out | go_keep)
    (first
      | (go_at_call 28; go_must (refine (HXc.out _ (S3.out.no ((Fr.refl nob w3).drew)).1 HKc.out (by have h5 := HL.out; omega)).mono ?_); go_loud (rintro e w4 ⟨rfl, hf⟩); go_loud (have S4 := hid ((S3.out.no ((Fr.refl nob w3).drew)).no hf)); go_loud (have K4 := hid (HCK.out _ S4.out)); have F4 := hid ((Fr.refl nob w3).drew.tr hf); clear hf))
  clear d0 d1 c0 c2 c3 c4 k2 HCK
  go_wp2_with fail
  go_ret
  refine ⟨?_, by first | exact ((F1.out.tr F3.out).tr F4.out) | exact (((F1.out.tr F3.out).tr F4.out)).drewN _⟩
  show Ending.returned (.string (bs [105, 102, 32] ++ bs (txt ns a) ++ bs (txt ns b) ++ bs [101, 108, 115, 101] ++ bs (txt ns c))) = _
  rw [bs_add, bs_add, bs_add, bs_add]
  first | done | rfl | simp
end
end Go.Proofs.YtahhgnbiahomiaaDoor
/- Show: the reference: statements and blocks, whole. -/
namespace Go.Proofs.YtahhgnbiahomiaaDoor
open Go.RowKit
set_option linter.unusedVariables false
set_option linter.unusedSimpArgs false
section
variable {nv fv : Value} {lvs pvs : List Value} {ns : List NodeM} {fs : List FuncM}
theorem rstm_ok (hok : NodesOk ns) : ∀ x, RstmOk clsS 47 nv fv lvs pvs ns fs x ∧ RstmOk clsB 28 nv fv lvs pvs ns fs x := by
  intro x
  induction x using Nat.strongRecOn with
  | _ x ih =>
    have kid : ∀ {a}, Kid (ns.take x) clsE a → RexprOk nv fv lvs pvs ns fs a ∧ Kid ns clsR a ∧ shV (ns.take x) a = shV ns a := fun {a} hk => by
      obtain ⟨h1, h2⟩ := hk.take
      exact ⟨rexpr_ok hok a, h2.le (fun k hk => by unfold clsR; rw [hk]; rfl), shV_take h1⟩
    have kidR : ∀ {a}, Kid (ns.take x) clsR a → RexprOk nv fv lvs pvs ns fs a ∧ Kid ns clsR a ∧ shV (ns.take x) a = shV ns a := fun {a} hk => by
      obtain ⟨h1, h2⟩ := hk.take
      exact ⟨rexpr_ok hok a, h2, shV_take h1⟩
    have kidC : ∀ {a}, Kid (ns.take x) clsC a → RexprOk nv fv lvs pvs ns fs a ∧ Kid ns clsR a ∧ shV (ns.take x) a = shV ns a := fun {a} hk => by
      obtain ⟨h1, h2⟩ := hk.take
      exact ⟨rexpr_ok hok a, h2.le (fun k hk => by unfold clsC at hk; have := of_decide_eq_true hk; subst this; rfl), shV_take h1⟩
    have kidB : ∀ {a}, Kid (ns.take x) clsB a → RstmOk clsB 28 nv fv lvs pvs ns fs a ∧ Kid ns clsB a ∧ shV (ns.take x) a = shV ns a := fun {a} hk => by
      obtain ⟨h1, h2⟩ := hk.take
      exact ⟨(ih a h1).2, h2, shV_take h1⟩
    have kidS : ∀ {a}, Kid (ns.take x) clsS a → RstmOk clsS 47 nv fv lvs pvs ns fs a ∧ Kid ns clsS a ∧ shV (ns.take x) a = shV ns a := fun {a} hk => by
      obtain ⟨h1, h2⟩ := hk.take
      exact ⟨(ih a h1).1, h2, shV_take h1⟩
    constructor
    · intro w h hk hlen
      obtain ⟨nd, hx, hcl⟩ := hk
      have hN := hok x nd hx
      rw [txt_eq hx] at hlen ⊢
      cases hN with
      | let_ line y a ha =>
        obtain ⟨k1, k2, k3⟩ := kidR ha
        have e : textN (fun i => shV (ns.take x) i) ⟨10, line, 0, y, [a]⟩ = [108, 101, 116, 32] ++ y ++ [61] ++ txt ns a ++ [59, 10] := by
          show [108, 101, 116, 32] ++ y ++ [61] ++ (shV (ns.take x) a).1 ++ [59, 10] = _
          rw [k3]; rfl
        rw [e] at hlen ⊢
        refine rstm_let k1 k2 hx h ?_
        simp only [List.length_cons, List.length_append, List.length_nil] at hlen; omega
      | set line y a ha =>
        obtain ⟨k1, k2, k3⟩ := kidR ha
        have e : textN (fun i => shV (ns.take x) i) ⟨11, line, 0, y, [a]⟩ = y ++ [61] ++ txt ns a ++ [59, 10] := by
          show y ++ [61] ++ (shV (ns.take x) a).1 ++ [59, 10] = _
          rw [k3]; rfl
        rw [e] at hlen ⊢
        refine rstm_set k1 k2 hx h ?_
        simp only [List.length_cons, List.length_append, List.length_nil] at hlen; omega
      | put line y a b ha hb =>
        obtain ⟨k1, k2, k3⟩ := kid ha
        obtain ⟨l1, l2, l3⟩ := kid hb
        have e : textN (fun i => shV (ns.take x) i) ⟨12, line, 0, y, [a, b]⟩ = y ++ [91] ++ txt ns a ++ [93, 61] ++ txt ns b ++ [59, 10] := by
          show y ++ [91] ++ (shV (ns.take x) a).1 ++ [93, 61] ++ (shV (ns.take x) b).1 ++ [59, 10] = _
          rw [k3, l3]; rfl
        rw [e] at hlen ⊢
        refine rstm_put k1 k2 l1 l2 hx h ?_
        simp only [List.length_cons, List.length_append, List.length_nil] at hlen; omega
      | do_ line a ha =>
        obtain ⟨k1, k2, k3⟩ := kidC ha
        have e : textN (fun i => shV (ns.take x) i) ⟨13, line, 0, [], [a]⟩ = txt ns a ++ [59, 10] := by
          show (shV (ns.take x) a).1 ++ [59, 10] = _
          rw [k3]; rfl
        rw [e] at hlen ⊢
        refine rstm_do k1 k2 hx h ?_
        simp only [List.length_cons, List.length_append, List.length_nil] at hlen; omega
      | print line a ha =>
        obtain ⟨k1, k2, k3⟩ := kid ha
        have e : textN (fun i => shV (ns.take x) i) ⟨14, line, 0, [], [a]⟩ = [112, 114, 105, 110, 116, 32] ++ txt ns a ++ [59, 10] := by
          show [112, 114, 105, 110, 116, 32] ++ (shV (ns.take x) a).1 ++ [59, 10] = _
          rw [k3]; rfl
        rw [e] at hlen ⊢
        refine rstm_print k1 k2 hx h ?_
        simp only [List.length_cons, List.length_append, List.length_nil] at hlen; omega
      | if2 line a b ha hb =>
        obtain ⟨k1, k2, k3⟩ := kid ha
        obtain ⟨l1, l2, l3⟩ := kidB hb
        have e : textN (fun i => shV (ns.take x) i) ⟨15, line, 0, [], [a, b]⟩ = [105, 102, 32] ++ txt ns a ++ txt ns b := by
          show [105, 102, 32] ++ (shV (ns.take x) a).1 ++ (shV (ns.take x) b).1 ++ [] = _
          rw [k3, l3, List.append_nil]; rfl
        rw [e] at hlen ⊢
        refine rstm_if2 k1 k2 l1 l2 hx h ?_
        simp only [List.length_cons, List.length_append, List.length_nil] at hlen; omega
      | if3 line a b c ha hb hc =>
        obtain ⟨k1, k2, k3⟩ := kid ha
        obtain ⟨l1, l2, l3⟩ := kidB hb
        obtain ⟨m1, m2, m3⟩ := kidB hc
        have e : textN (fun i => shV (ns.take x) i) ⟨15, line, 0, [], [a, b, c]⟩ = [105, 102, 32] ++ txt ns a ++ txt ns b ++ [101, 108, 115, 101] ++ txt ns c := by
          show [105, 102, 32] ++ (shV (ns.take x) a).1 ++ (shV (ns.take x) b).1 ++ ([101, 108, 115, 101] ++ (shV (ns.take x) c).1 ++ []) = _
          rw [k3, l3, m3]; simp [txt, List.append_assoc]
        rw [e] at hlen ⊢
        refine rstm_if3 k1 k2 l1 l2 m1 m2 hx h ?_
        simp only [List.length_cons, List.length_append, List.length_nil] at hlen; omega
      | loop line a b ha hb =>
        obtain ⟨k1, k2, k3⟩ := kid ha
        obtain ⟨l1, l2, l3⟩ := kidB hb
        have e : textN (fun i => shV (ns.take x) i) ⟨16, line, 0, [], [a, b]⟩ = [119, 104, 105, 108, 101, 32] ++ txt ns a ++ txt ns b := by
          show [119, 104, 105, 108, 101, 32] ++ (shV (ns.take x) a).1 ++ (shV (ns.take x) b).1 = _
          rw [k3, l3]; rfl
        rw [e] at hlen ⊢
        refine rstm_loop k1 k2 l1 l2 hx h ?_
        simp only [List.length_cons, List.length_append, List.length_nil] at hlen; omega
      | ret0 line =>
        exact rstm_ret0 hx h (by decide)
      | ret1 line a ha =>
        obtain ⟨k1, k2, k3⟩ := kid ha
        have e : textN (fun i => shV (ns.take x) i) ⟨17, line, 0, [], [a]⟩ = [114, 101, 116, 117, 114, 110, 32] ++ txt ns a ++ [59, 10] := by
          show [114, 101, 116, 117, 114, 110] ++ (32 :: (shV (ns.take x) a).1 ++ []) ++ [59, 10] = _
          rw [k3]; simp [txt, List.append_assoc]
        rw [e] at hlen ⊢
        refine rstm_ret1 k1 k2 hx h ?_
        simp only [List.length_cons, List.length_append, List.length_nil] at hlen; omega
      | _ => simp [clsS] at hcl
    · intro w h hk hlen
      obtain ⟨nd, hx, hcl⟩ := hk
      have hN := hok x nd hx
      rw [txt_eq hx] at hlen ⊢
      cases hN with
      | block line l hl =>
        have e : textN (fun i => shV (ns.take x) i) ⟨18, line, 0, [], l⟩ = [123, 10] ++ l.flatMap (txt ns) ++ [125, 10] := by
          show [123, 10] ++ l.flatMap (fun c => (shV (ns.take x) c).1) ++ [125, 10] = _
          rw [show l.flatMap (fun c => (shV (ns.take x) c).1) = l.flatMap (txt ns) from by
            rw [List.flatMap_def, List.flatMap_def]
            congr 1
            exact List.map_congr_left (fun a ha => by rw [(kidS (hl a ha)).2.2]; rfl)]
        rw [e] at hlen ⊢
        refine rblock_any hx (fun a ha => ⟨(kidS (hl a ha)).1, (kidS (hl a ha)).2.1⟩) h ?_
        simp only [List.length_cons, List.length_append, List.length_nil] at hlen; omega
      | _ => simp [clsB] at hcl
end
end Go.Proofs.YtahhgnbiahomiaaDoor
/- Show: the reference: Text. -/
namespace Go.Proofs.YtahhgnbiahomiaaDoor
open Go.RowKit
set_option linter.unusedVariables false
set_option linter.unusedSimpArgs false
section
variable {nv fv : Value} {lvs pvs : List Value} {ns : List NodeM} {fs : List FuncM} {w w' : World}
/-- The tree's copy; and a function's. -/
def RT (nv fv : Value) (lvs pvs : List Value) (ns : List NodeM) (fs : List FuncM) (b : Nat) (w : World) : Prop := RS nv fv lvs pvs ns fs w ∧ Blk w b 26 #[nv, fv]
theorem RT.no {b : Nat} (h : RT nv fv lvs pvs ns fs b w) (f : Fr nob w w') : RT nv fv lvs pvs ns fs b w' := ⟨h.1.no f, h.2.fr f (fun x => x)⟩
theorem RT.cells {b : Nat} (h : RT nv fv lvs pvs ns fs b w) : w.cell? ⟨b, 0, none⟩ = some nv ∧ w.cell? ⟨b, 1, none⟩ = some fv := ⟨by simpa using h.2.cell 0, by simpa using h.2.cell 1⟩
def RF (nv fv : Value) (lvs pvs : List Value) (ns : List NodeM) (fs : List FuncM) (b c line ret body : Nat) (name : ByteArray) (pv : Value) (ps : List (List UInt8 × Nat)) (w : World) : Prop :=
  RT nv fv lvs pvs ns fs b w ∧ Blk w c 37 #[.string name, .int .i64 line, pv, .int .i64 ret, .int .i64 body] ∧ Own w 60 2 pv ps.length (paramCells ps)
theorem RF.no {b c line ret body : Nat} {name : ByteArray} {pv : Value} {ps : List (List UInt8 × Nat)} (h : RF nv fv lvs pvs ns fs b c line ret body name pv ps w) (f : Fr nob w w') : RF nv fv lvs pvs ns fs b c line ret body name pv ps w' :=
  ⟨h.1.no f, h.2.1.fr f (fun x => x), h.2.2.fr f (fun _ _ x => x)⟩
theorem RF.cells {b c line ret body : Nat} {name : ByteArray} {pv : Value} {ps : List (List UInt8 × Nat)} (h : RF nv fv lvs pvs ns fs b c line ret body name pv ps w) : w.cell? ⟨b, 0, none⟩ = some nv ∧ w.cell? ⟨b, 1, none⟩ = some fv ∧
    w.cell? ⟨c, 0, none⟩ = some (.string name) ∧ w.cell? ⟨c, 2, none⟩ = some pv ∧ w.cell? ⟨c, 3, none⟩ = some (.int .i64 ret) ∧ w.cell? ⟨c, 4, none⟩ = some (.int .i64 body) :=
  ⟨h.1.cells.1, h.1.cells.2, by simpa using h.2.1.cell 0, by simpa using h.2.1.cell 2, by simpa using h.2.1.cell 3, by simpa using h.2.1.cell 4⟩
theorem RF.par {b c line ret body pb pc : Nat} {name : ByteArray} {ps : List (List UInt8 × Nat)} (h : RF nv fv lvs pvs ns fs b c line ret body name (.slice (some ⟨pb, 0, none⟩) ps.length pc) ps w) {i : Nat} {q : List UInt8 × Nat} (hq : ps[i]? = some q) :
    w.cell? ⟨pb, i * 2, none⟩ = some (.string (bs q.1)) ∧ w.cell? ⟨pb, i * 2 + 1, none⟩ = some (.int .i64 (q.2 : Nat)) := by
  have hl := (List.getElem?_eq_some_iff.1 hq).1
  obtain ⟨pb', e, hc⟩ := h.2.2.some (by omega)
  injection e with e
  injection e with e
  subst e
  exact ⟨hc _ _ (paramCells_get hq).1, hc _ _ (paramCells_get hq).2⟩
theorem pars_join (ps : List (List UInt8 × Nat)) : rowP (fun j => parT (ps.getD j ([], 0))) ps.length = joinC (ps.map parT) := by
  rw [rowP_range]
  congr 1
  apply List.ext_getElem
  · simp
  · intro i h1 h2
    simp at h1 h2 ⊢
    simp [h2]
set_option maxHeartbeats 4000000 in
set_option maxRecDepth 100000 in
/-- The reference's Text. -/
theorem reftext_any (hok : TreeOk ns fs) (hfew : TreeFew ns fs) {w : World} (h : RS nv fv lvs pvs ns fs w) :
    Calls Tryd.prog 16 #[.agg #[nv, fv]] w fun e w' => e = .returned (.string (bs (showT ns fs))) ∧ Fr nob w w' := by
  obtain ⟨NA, NC, rfl, _, _⟩ := h.tree.nodes.cap
  obtain ⟨FA, FC, rfl, _, _⟩ := h.tree.fns.cap
  have hl2 : (fs.length : Int) ≤ 6 := by have := hok.fewf; omega
  have HLEN := hid (show_len hok hfew)
  have S0 := hid (show RT (.slice NA ns.length NC) (.slice FA fs.length FC) lvs pvs ns fs w.heap.size (w.alloc (.cells #[.slice NA ns.length NC, .slice FA fs.length FC] 26)) from ⟨h.no ((Fr.refl nob w).alloc _), Blk.new w _ _⟩)
  have HOK := hid hok
  have F0 := hid (show Fr nob w (w.alloc (.cells #[.slice NA ns.length NC, .slice FA fs.length FC] 26)) from (Fr.refl nob w).alloc _)
  clear h hok hfew
  go_enter Tryd.func16, Tryd.ntmps16
  go_wp2_with fail
  generalize hB : w.heap.size = B at *
  clear hB
  generalize hw1 : w.alloc (.cells #[.slice NA ns.length NC, .slice FA fs.length FC] 26) = w1 at *
  clear hw1
  go_loopw [3, 4] (fun s i wr => ∃ j : Nat, j ≤ fs.length ∧ i = .int .i64 j ∧ s = .string (bs ((fs.take j).flatMap (fnT ns))) ∧ Hid (RT (.slice NA ns.length NC) (.slice FA fs.length FC) lvs pvs ns fs B wr) ∧ Hid (Fr nob w wr)) (fun _ i _ => fs.length - (intOf i).toNat)
  case atStart => exact ⟨0, Nat.zero_le _, rfl, rfl, S0, F0⟩
  case round =>
    obtain ⟨j, hj, rfl, rfl, S, FR⟩ := hrel
    obtain ⟨d0, d1⟩ := S.out.cells
    by_cases hlt : j < fs.length
    · have hlt2 : (j : Int) < (fs.length : Int) := by omega
      obtain ⟨f, hf⟩ : ∃ f, fs[j]? = some f := ⟨_, List.getElem?_eq_getElem hlt⟩
      obtain ⟨fb, e, _⟩ := S.out.1.tree.fns.some (by omega)
      subst e
      obtain ⟨pv, hp, x0, x1, x2, x3, x4⟩ := S.out.1.tree.fn hf
      have hfm := List.mem_of_getElem? hf
      have HT := hid (And.intro (HOK.out.bodies f hfm) (And.intro (HOK.out.pars f hfm) (HOK.out.types f hfm)))
      have HF := hid (flatG_lt (f := fnT ns) hf)
      have HTK := hid (flatG_take (f := fnT ns) hf)
      obtain ⟨name, line, ps, ret, body⟩ := f
      dsimp only at x0 x1 x2 x3 x4 hp
      obtain ⟨PA, PC, rfl, _, _⟩ := hp.cap
      have nf1 : fb < wr.heap.size := World.block_lt_of_cell? wr ⟨fb, j * 5, none⟩ x0
      have nf2 : ¬ fb = wr.heap.size := by omega
      obtain ⟨Q, hQ⟩ : ∃ Q, Q = (fs.take j).flatMap (fnT ns) := ⟨_, rfl⟩
      rw [← hQ] at HF HTK ⊢
      have eT : fnT ns ⟨name, line, ps, ret, body⟩ = [102, 110, 32] ++ name ++ [40] ++ rowP (fun j => parT (ps.getD j ([], 0))) ps.length ++ [41] ++ wordT ret ++ txt ns body := by
        rw [pars_join]; rfl
      have hTot : Q.length + 3 + name.length + 1 + (rowP (fun j => parT (ps.getD j ([], 0))) ps.length).length + 1 + (wordT ret).length + (txt ns body).length ≤ 1000000 := by
        have h1 := HF.out
        have h2 := HLEN.out
        unfold showT at h2
        rw [eT] at h1
        simp only [List.length_cons, List.length_append, List.length_nil] at h1
        omega
      have HE := hid (And.intro HTK.out eT)
      have HL := hid hTot
      have np1 : ¬ 9223372036854775807 < (bs Q).size + 3 := by rw [bs_size]; omega
      have np2 : ¬ 9223372036854775807 < (bs Q).size + 3 + (bs name).size := by rw [bs_size, bs_size]; omega
      have np3 : ¬ 9223372036854775807 < (bs Q).size + 3 + (bs name).size + 1 := by rw [bs_size, bs_size]; omega
      have S2 := hid (show RF (.slice NA ns.length NC) (.slice (some ⟨fb, 0, none⟩) fs.length FC) lvs pvs ns fs B wr.heap.size line ret body (bs name) (.slice PA ps.length PC) ps (wr.alloc (.cells #[.string (bs name), .int .i64 line, .slice PA ps.length PC, .int .i64 ret, .int .i64 body] 37)) from
        ⟨S.out.no ((Fr.refl nob wr).alloc _), Blk.new wr _ _, hp.alloc _⟩)
      have F2 := hid (FR.out.alloc (.cells #[.string (bs name), .int .i64 line, .slice PA ps.length PC, .int .i64 ret, .int .i64 body] 37))
      have hps3 : (ps.length : Int) ≤ 3 := by have : ps.length ≤ 3 := HT.out.2.1; omega
      clear hf hfm hp hQ eT hTot HF HTK
      generalize hTT : (fun j => parT (ps.getD j ([], 0))) = T at *
      have HTT := hid hTT
      clear hTT
      go_wp2_with fail
      generalize hC : wr.heap.size = C at *
      clear hC
      generalize hw2 : wr.alloc (.cells #[.string (bs name), .int .i64 line, .slice PA ps.length PC, .int .i64 ret, .int .i64 body] 37) = w2 at *
      clear hw2 d0 d1 x0 x1 x2 x3 x4 nf1 nf2 np1 np2 np3
      go_loopw [3, 6] (fun s i wr => ∃ k : Nat, k ≤ ps.length ∧ i = .int .i64 k ∧ s = .string (bs (Q ++ [102, 110, 32] ++ name ++ [40] ++ rowP T k)) ∧ Hid (RF (.slice NA ns.length NC) (.slice (some ⟨fb, 0, none⟩) fs.length FC) lvs pvs ns fs B C line ret body (bs name) (.slice PA ps.length PC) ps wr) ∧ Hid (Fr nob w wr)) (fun _ i _ => ps.length - (intOf i).toNat)
      case atStart => exact ⟨0, Nat.zero_le _, rfl, by
        show Value.string (bs Q ++ bs [102, 110, 32] ++ bs name ++ bs [40]) = _
        rw [bs_add, bs_add, bs_add]; simp [rowP], S2, F2⟩
      case round =>
        obtain ⟨k, hk, rfl, rfl, S, FR⟩ := hrel
        obtain ⟨d0, d1, c0, c2, c3, c4⟩ := S.out.cells
        by_cases hkl : k < ps.length
        · have hkl2 : (k : Int) < (ps.length : Int) := by omega
          obtain ⟨q, hq⟩ : ∃ q, ps[k]? = some q := ⟨_, List.getElem?_eq_getElem hkl⟩
          obtain ⟨pb, e, _⟩ := S.out.2.2.some (by omega)
          subst e
          obtain ⟨k0, k1⟩ := S.out.par hq
          have hq2 : q.2 ≤ 4 := HT.out.2.2.2 q (List.mem_of_getElem? hq)
          have hTk : T k = q.1 ++ [32] ++ wordT q.2 := by
            rw [← HTT.out]
            show parT (ps.getD k ([], 0)) = _
            rw [List.getD_eq_getElem?_getD, hq]; rfl
          have HTK := hid hTk
          have HP := hid (rowP_lt (T := T) hkl)
          have CK : ∀ (wx : World), RF (.slice NA ns.length NC) (.slice (some ⟨fb, 0, none⟩) fs.length FC) lvs pvs ns fs B C line ret body (bs name) (.slice (some ⟨pb, 0, none⟩) ps.length PC) ps wx → wx.cell? ⟨C, 2, none⟩ = some (.slice (some ⟨pb, 0, none⟩) ps.length PC) ∧ wx.cell? ⟨pb, k * 2, none⟩ = some (.string (bs q.1)) ∧ wx.cell? ⟨pb, k * 2 + 1, none⟩ = some (.int .i64 (q.2 : Nat)) := fun wx h1 =>
            ⟨h1.cells.2.2.2.1, (h1.par hq).1, (h1.par hq).2⟩
          have HCK := hid CK
          obtain ⟨P, hP⟩ : ∃ P, P = Q ++ [102, 110, 32] ++ name ++ [40] ++ rowP T k := ⟨_, rfl⟩
          have hPl : P.length = Q.length + 3 + name.length + 1 + (rowP T k).length := by rw [hP]; simp; omega
          rw [← hP]
          have HPP := hid (And.intro hP hPl)
          have hsz : P.length + (if k = 0 then 0 else 1) + q.1.length + 1 + (wordT q.2).length ≤ 1000000 := by
            have h5 := HP.out; have h6 := HL.out
            rw [hTk] at h5
            simp only [List.length_append, List.length_cons, List.length_nil] at h5
            omega
          have HQ2 := hid hq2
          clear hq CK hP hPl hTk hq2
          by_cases h0 : k = 0
          · rw [if_pos h0] at hsz
            have h00 : ¬ (0 : Int) < (k : Int) := by omega
            have H0 := hid h0
            have ni1 : ¬ 9223372036854775807 < (bs P).size + (bs q.1).size := by rw [bs_size, bs_size]; omega
            have ni2 : ¬ 9223372036854775807 < (bs P).size + (bs q.1).size + 1 := by rw [bs_size, bs_size]; omega
            have ni3 : ¬ 9223372036854775807 < (bs P).size + (bs q.1).size + 1 + (bs (wordT q.2)).size := by rw [bs_size, bs_size, bs_size]; omega
            clear h0 hsz
            go_wp2_with fail
            go_region_held3 (fun wx => wx.cell? ⟨C, 2, none⟩ = some (.slice (some ⟨pb, 0, none⟩) ps.length PC) ∧ wx.cell? ⟨pb, k * 2, none⟩ = some (.string (bs q.1)) ∧ wx.cell? ⟨pb, k * 2 + 1, none⟩ = some (.int .i64 (q.2 : Nat))) (first | exact K2.out | go_keep)
              (first
                | (go_at_call 27; go_must (refine (rwordT_any q.2 HQ2.out _).mono ?_); go_loud (rintro e w3 ⟨rfl, hf⟩); go_loud (have S3 := hid ((S.out.no ((Fr.refl nob wr).drew)).no hf)); go_loud (have K2 := hid (HCK.out _ S3.out)); have F3 := hid (FR.out.drew.tr hf); clear hf))
            clear d0 d1 c0 c2 c3 c4 k0 k1
            go_wp2_with fail
            go_roundw
            case rel => exact ⟨k + 1, by omega, by go_num, by
              show Value.string (bs P ++ bs q.1 ++ bs [32] ++ bs (wordT q.2)) = _
              rw [bs_add, bs_add, bs_add, rowP, if_pos H0.out, HPP.out.1, HTK.out]; simp [List.append_assoc], S3, F3⟩
            case measure => simp [intOf]; omega
          · rw [if_neg h0] at hsz
            have h00 : (0 : Int) < (k : Int) := by omega
            have ni0 : ¬ 9223372036854775807 < (bs P).size + 1 := by rw [bs_size]; omega
            have ni1 : ¬ 9223372036854775807 < (bs P).size + 1 + (bs q.1).size := by rw [bs_size, bs_size]; omega
            have ni2 : ¬ 9223372036854775807 < (bs P).size + 1 + (bs q.1).size + 1 := by rw [bs_size, bs_size]; omega
            have ni3 : ¬ 9223372036854775807 < (bs P).size + 1 + (bs q.1).size + 1 + (bs (wordT q.2)).size := by rw [bs_size, bs_size, bs_size]; omega
            clear hsz
            have H0 := hid h0
            clear h0
            go_wp2_with fail
            go_region_held3 (fun wx => wx.cell? ⟨C, 2, none⟩ = some (.slice (some ⟨pb, 0, none⟩) ps.length PC) ∧ wx.cell? ⟨pb, k * 2, none⟩ = some (.string (bs q.1)) ∧ wx.cell? ⟨pb, k * 2 + 1, none⟩ = some (.int .i64 (q.2 : Nat))) (first | exact K2.out | go_keep)
              (first
                | (go_at_call 27; go_must (refine (rwordT_any q.2 HQ2.out _).mono ?_); go_loud (rintro e w3 ⟨rfl, hf⟩); go_loud (have S3 := hid ((S.out.no ((Fr.refl nob wr).drew)).no hf)); go_loud (have K2 := hid (HCK.out _ S3.out)); have F3 := hid (FR.out.drew.tr hf); clear hf))
            clear d0 d1 c0 c2 c3 c4 k0 k1
            go_wp2_with fail
            go_roundw
            case rel => exact ⟨k + 1, by omega, by go_num, by
              show Value.string (bs P ++ bs [44] ++ bs q.1 ++ bs [32] ++ bs (wordT q.2)) = _
              rw [bs_add, bs_add, bs_add, bs_add, rowP, if_neg H0.out, HPP.out.1, HTK.out]; simp [List.append_assoc], S3, F3⟩
            case measure => simp [intOf]; omega
        · have hle : (ps.length : Int) ≤ (k : Int) := by omega
          have hke : k = ps.length := by omega
          obtain ⟨P, hP⟩ : ∃ P, P = Q ++ [102, 110, 32] ++ name ++ [40] ++ rowP T k := ⟨_, rfl⟩
          have hPl : P.length = Q.length + 3 + name.length + 1 + (rowP T ps.length).length := by rw [hP, hke]; simp; omega
          rw [← hP]
          have HPP := hid (And.intro hke hP)
          have ni1 : ¬ 9223372036854775807 < (bs P).size + 1 := by have := HL.out; rw [bs_size]; omega
          have ni2 : ¬ 9223372036854775807 < (bs P).size + 1 + (bs (wordT ret)).size := by have := HL.out; rw [bs_size, bs_size]; omega
          have ni3 : ¬ 9223372036854775807 < (bs P).size + 1 + (bs (wordT ret)).size + (bs (txt ns body)).size := by have := HL.out; rw [bs_size, bs_size, bs_size]; omega
          clear hP hPl hke
          have HBD := hid (rstm_ok (nv := .slice NA ns.length NC) (fv := .slice (some ⟨fb, 0, none⟩) fs.length FC) (lvs := lvs) (pvs := pvs) (fs := fs) HOK.out.nodes body).2
          have CK : ∀ (wx : World), RF (.slice NA ns.length NC) (.slice (some ⟨fb, 0, none⟩) fs.length FC) lvs pvs ns fs B C line ret body (bs name) (.slice PA ps.length PC) ps wx → wx.cell? ⟨B, 0, none⟩ = some (.slice NA ns.length NC) ∧ wx.cell? ⟨B, 1, none⟩ = some (.slice (some ⟨fb, 0, none⟩) fs.length FC) ∧ wx.cell? ⟨C, 3, none⟩ = some (.int .i64 ret) ∧ wx.cell? ⟨C, 4, none⟩ = some (.int .i64 body) := fun wx h1 =>
            ⟨h1.cells.1, h1.cells.2.1, h1.cells.2.2.2.2.1, h1.cells.2.2.2.2.2⟩
          have HCK := hid CK
          clear CK
          go_wp2_with fail
          go_region_held3 (fun wx => wx.cell? ⟨B, 0, none⟩ = some (.slice NA ns.length NC) ∧ wx.cell? ⟨B, 1, none⟩ = some (.slice (some ⟨fb, 0, none⟩) fs.length FC) ∧ wx.cell? ⟨C, 3, none⟩ = some (.int .i64 ret) ∧ wx.cell? ⟨C, 4, none⟩ = some (.int .i64 body)) (first | exact K4.out | exact K3.out | go_keep)
            (first
              | (go_at_call 28; have tok := S3; go_must (refine (HBD.out _ S3.out.1.1 HT.out.1 (by have h5 := HL.out; omega)).mono ?_); go_loud (rintro e w4 ⟨rfl, hf⟩); go_loud (have S4 := hid (S3.out.no hf)); go_loud (have K4 := hid (HCK.out _ S4.out)); have F4 := hid (F3.out.tr hf); clear hf tok)
              | (go_at_call 27; go_must (refine (rwordT_any ret HT.out.2.2.1 _).mono ?_); go_loud (rintro e w3 ⟨rfl, hf⟩); go_loud (have S3 := hid ((S.out.no ((Fr.refl nob wr).drew)).no hf)); go_loud (have K3 := hid (HCK.out _ S3.out)); have F3 := hid (FR.out.drew.tr hf); clear hf))
          clear d0 d1 c0 c2 c3 c4
          go_wp2_with fail
          go_roundw
          case rel => exact ⟨j + 1, by omega, by go_num, by
            show Value.string (bs P ++ bs [41] ++ bs (wordT ret) ++ bs (txt ns body)) = _
            rw [bs_add, bs_add, bs_add, HE.out.1, HE.out.2, HPP.out.2, HPP.out.1]; simp [List.append_assoc], hid S4.out.1, F4⟩
          case measure => simp [intOf]; omega
    · have hle : (fs.length : Int) ≤ (j : Int) := by omega
      have htk := hid (List.take_of_length_le (show fs.length ≤ j by omega))
      go_wp2_with fail
      go_ret
      exact ⟨by rw [htk.out]; rfl, FR.out⟩
end
end Go.Proofs.YtahhgnbiahomiaaDoor
