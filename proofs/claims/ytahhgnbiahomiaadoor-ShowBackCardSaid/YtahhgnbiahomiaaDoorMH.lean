/- MH: WBlock, WStm, WStm2, WStmA, WFn, WText, WShown, ShLaid. -/
import Derived.Test.YtahhgnbiahomiaaDoorMG
import Derived.LoopN
import Derived.Test.YtahhgnbiahomiaaDoorRows
import Derived.ProofKit
import Derived.OpenShut
import Derived.LaidMore
import Derived.Lay
import Derived.HandedShaped
import Derived.Stop.Joined
import Derived.Lib.LaidTab
/- Show: blocks. -/
namespace Go.Proofs.YtahhgnbiahomiaaDoor
open Go.RowKit
set_option linter.unusedVariables false
set_option linter.unusedSimpArgs false
theorem flat_take {f : Nat → List UInt8} {l : List Nat} {j : Nat} {a : Nat} (h : l[j]? = some a) : (l.take (j + 1)).flatMap f = (l.take j).flatMap f ++ f a := by
  rw [List.take_add_one, h, List.flatMap_append]
  simp
theorem flat_lt {f : Nat → List UInt8} {l : List Nat} {j : Nat} {a : Nat} (h : l[j]? = some a) : ((l.take j).flatMap f).length + (f a).length ≤ (l.flatMap f).length := by
  have h1 : l.flatMap f = (l.take (j + 1)).flatMap f ++ (l.drop (j + 1)).flatMap f := by rw [← List.flatMap_append, List.take_append_drop]
  rw [h1, flat_take h]
  simp
section
variable {g : Nat} {nv fv : Value} {lvs pvs : List Value} {ns : List NodeM} {fs : List FuncM}
/-- The same, where the row's value is known. -/
theorem TreeAt.node2 {B nb c : Nat} {fv : Value} {w : World} (h : TreeAt B w (.slice (some ⟨nb, 0, none⟩) ns.length c) fv lvs pvs ns fs) {x : Nat} {nd : NodeM} (hx : ns[x]? = some nd) {lv : Value} (hlv : lvs[x]? = some lv) : Own w 3 1 lv nd.l.length (ints nd.l) ∧
    w.cell? ⟨nb, x * 5, none⟩ = some (.int .i64 nd.kind) ∧ w.cell? ⟨nb, x * 5 + 4, none⟩ = some lv := by
  have hlt := (List.getElem?_eq_some_iff.1 hx).1
  obtain ⟨nb', e, hcell⟩ := h.nodes.some (by omega)
  injection e with e
  injection e with e
  subst e
  have key := nodesCells_get hx hlv
  exact ⟨h.below.get hx hlv, hcell _ _ (key 0 _ rfl), hcell _ _ (key 4 _ rfl)⟩
theorem TreeAt.row {B : Nat} {w : World} (h : TreeAt B w nv fv lvs pvs ns fs) {x : Nat} {nd : NodeM} (hx : ns[x]? = some nd) : ∃ nb c lv, nv = .slice (some ⟨nb, 0, none⟩) ns.length c ∧ lvs[x]? = some lv := by
  have hlt := (List.getElem?_eq_some_iff.1 hx).1
  obtain ⟨A, c, rfl, hc, _⟩ := h.nodes.cap
  obtain ⟨nb, rfl, hcell⟩ := h.nodes.some (by omega)
  exact ⟨nb, c, _, rfl, List.getElem?_eq_getElem (by have := h.same; omega)⟩
/-- statement, block show a node. -/
def StmOk (cls : Nat → Bool) (f : FuncId) (g : Nat) (nv fv : Value) (lvs pvs : List Value) (ns : List NodeM) (fs : List FuncM) (x : Nat) : Prop :=
  ∀ (w0 w : World) (out : List UInt8), WS g nv fv lvs pvs ns fs w0 w out → Kid ns cls x → out.length + (txt ns x).length ≤ 100000000 →
    Calls Tryd.prog f #[.pointer (some ⟨g, 0, none⟩), .int .i64 x] w fun e w' => e = .returned (.tuple #[]) ∧ WS g nv fv lvs pvs ns fs w0 w' (out ++ txt ns x)
set_option maxHeartbeats 2000000 in
set_option maxRecDepth 100000 in
theorem block_any {x : Nat} {line : Nat} {l : List Nat} (hx : ns[x]? = some ⟨18, line, 0, [], l⟩) (hl : ∀ a ∈ l, StmOk clsS 62 g nv fv lvs pvs ns fs a ∧ Kid ns clsS a) {w0 w : World} {out : List UInt8} (h : WS g nv fv lvs pvs ns fs w0 w out) (hlen : out.length + 4 + (l.flatMap (txt ns)).length ≤ 100000000) :
    Calls Tryd.prog 41 #[.pointer (some ⟨g, 0, none⟩), .int .i64 x] w fun e w' => e = .returned (.tuple #[]) ∧ WS g nv fv lvs pvs ns fs w0 w' (out ++ ([123, 10] ++ (l.flatMap (txt ns) ++ [125, 10]))) := by
  obtain ⟨nb, c, lv, rfl, hlv⟩ := h.tree.row hx
  have hlt := (List.getElem?_eq_some_iff.1 hx).1
  have hx3 : (x : Int) < (ns.length : Int) := by omega
  have hx4 : (ns.length : Int) ≤ 9223372036854775807 := by have := h.tree.nodes.cap; obtain ⟨A, c2, e, h1, h2⟩ := this; unfold maxLen at h2; omega
  have hcap := (h.tree.node2 hx hlv).1.cap
  obtain ⟨KA, KC, rfl, hc1, hc2⟩ := hcap
  have hl4 : (l.length : Int) ≤ 9223372036854775807 := by unfold maxLen at hc2; change l.length ≤ KC at hc1; omega
  have S0 := hid h
  have HN := hid (And.intro hx hlv)
  have HK := hid hl
  have HL := hid hlen
  clear h hlen hl hx hlv hlt hc1 hc2
  go_enter Tryd.func41, Tryd.ntmps41
  go_wp2_with fail
  refine (wput1 S0.out rfl ⟨#[123, 10]⟩ (by have := HL.out; show _ + 2 ≤ _; omega)).mono ?_
  rintro e w1 ⟨rfl, h1⟩
  have S1 := hid h1
  clear h1
  obtain ⟨d0, _, hg⟩ := S1.out.cell0
  obtain ⟨ho, x0, x4⟩ := S1.out.tree.node2 HN.out.1 HN.out.2
  have W1 := hid (show WK g (.slice (some ⟨nb, 0, none⟩) ns.length c) fv lvs pvs ns fs (fun w => Own w 3 1 (.slice KA l.length KC) l.length (ints l)) w0 w1 (out ++ [123, 10]) from ⟨S1.out, ho, kept_own _ _ _ _ _ (by decide) (by decide)⟩)
  clear ho
  go_wp2_with fail
  go_loopw [19] (fun i wr => ∃ j : Nat, j ≤ l.length ∧ i = .int .i64 j ∧ Hid (WK g (.slice (some ⟨nb, 0, none⟩) ns.length c) fv lvs pvs ns fs (fun w => Own w 3 1 (.slice KA l.length KC) l.length (ints l)) w0 wr (out ++ ([123, 10] ++ (l.take j).flatMap (txt ns))))) (fun i _ => l.length - (intOf i).toNat)
  case atStart => exact ⟨0, Nat.zero_le _, rfl, hid (by simpa using W1.out)⟩
  case round =>
    obtain ⟨j, hj, rfl, S⟩ := hrel
    by_cases hlt : j < l.length
    · have hlt2 : (j : Int) < (l.length : Int) := by omega
      obtain ⟨a, ha⟩ : ∃ a, l[j]? = some a := ⟨_, List.getElem?_eq_getElem hlt⟩
      obtain ⟨kb, c', e, _, hq⟩ := kids_get S.out.keep (by omega)
      injection e with e1 e2 e3
      subst e1
      have k0 := hq j a ha
      have HA := hid ha
      have HF := hid (flat_lt (f := txt ns) ha)
      obtain ⟨hs, hk⟩ := HK.out a (List.mem_of_getElem? ha)
      have HW := hid (hs _ _ _ S.out.here hk (by have h5 := HF.out; have h6 := HL.out; rw [List.length_append, List.length_append]; show _ + (2 + _) + _ ≤ _; omega))
      clear hq ha hs hk e2 e3
      go_wp2_with fail
      refine (S.out.step HW.out).mono ?_
      rintro e w3 ⟨rfl, h3⟩
      have S3 := hid h3
      clear h3
      go_wp2_with fail
      go_roundw
      case rel => exact ⟨j + 1, by omega, by go_num, hid (by rw [flat_take HA.out]; simpa [List.append_assoc] using S3.out)⟩
      case measure => simp [intOf]; omega
    · have hle : (l.length : Int) ≤ (j : Int) := by omega
      have htk := hid (List.take_of_length_le (show l.length ≤ j by omega))
      go_wp2_with fail
      refine (wput1 S.out.st rfl ⟨#[125, 10]⟩ (by have h6 := HL.out; rw [htk.out, List.length_append, List.length_append]; show _ + (2 + _) + 2 ≤ _; omega)).mono ?_
      rintro e w2 ⟨rfl, h2⟩
      have S2 := hid h2
      clear h2
      go_wp2_with fail
      refine bodyPost_end (results_none rfl _ _ _) rfl ⟨rfl, ?_⟩
      have := S2.out
      rw [htk.out] at this
      simpa [List.append_assoc] using this
end
end Go.Proofs.YtahhgnbiahomiaaDoor
/- Show: statements, by kinds. Printed by wip/tools/mkstm.py. -/
namespace Go.Proofs.YtahhgnbiahomiaaDoor
open Go.RowKit
set_option linter.unusedVariables false
set_option linter.unusedSimpArgs false
section
variable {g : Nat} {nv fv : Value} {lvs pvs : List Value} {ns : List NodeM} {fs : List FuncM}
set_option maxHeartbeats 2000000 in
set_option maxRecDepth 100000 in
theorem stm_do (hok : NodesOk ns) {x : Nat} {line a : Nat} (hka : Kid ns clsR a) (hx : ns[x]? = some ⟨13, line, 0, [], [a]⟩) {w0 w : World} {out : List UInt8} (h : WS g nv fv lvs pvs ns fs w0 w out) (hlen : out.length + 0 + (txt ns a).length + 2 ≤ 100000000) :
    Calls Tryd.prog 62 #[.pointer (some ⟨g, 0, none⟩), .int .i64 x] w fun e w' => e = .returned (.tuple #[]) ∧ WS g nv fv lvs pvs ns fs w0 w' (out ++ ([] ++ (txt ns a ++ [59, 10]))) := by
  obtain ⟨nb, cc, kv, rfl, hc, hkv, x0, x1, x2, x3, x4⟩ := h.tree.node hx
  have hlt := (List.getElem?_eq_some_iff.1 hx).1
  have hx3 : (x : Int) < (ns.length : Int) := by omega
  have hx4 : (ns.length : Int) ≤ 9223372036854775807 := by have := h.tree.nodes.cap; obtain ⟨A, c2, e, h1, h2⟩ := this; unfold maxLen at h2; omega
  obtain ⟨d0, _, hg⟩ := h.cell0
  have n3 : nb < w.heap.size := World.block_lt_of_cell? w ⟨nb, x * 5, none⟩ x0
  have n1 : ¬ g = w.heap.size := by omega
  have n2 : ¬ nb = w.heap.size := by omega
  dsimp only at x0 x1 x2 x3 x4 hkv
  obtain ⟨kb, kc, rfl, hkc, hq⟩ := kids_get hkv (show 0 < 1 by decide)
  have hkc2 : (1 : Int) ≤ (kc : Int) := by change 1 ≤ kc at hkc; omega
  have k0 := hq 0 a rfl
  have n4 : kb < w.heap.size := World.block_lt_of_cell? w ⟨kb, 0, none⟩ k0
  have n5 : ¬ kb = w.heap.size := by omega
  clear hq hkc
  have HKa := hid hka
  clear hka
  have S0 := hid h
  have HO := hid hkv
  have HOK := hid hok
  have HL := hid hlen
  clear h hlen hok hkv hx hlt hc
  go_enter Tryd.func62, Tryd.ntmps62
  go_wp2_with fail
  have S1 := hid (S0.out.copy (k := 13) (line := line) (n := 0) (name := (bs [])) HO.out)
  have HSZ := hid (show (w.alloc (.cells #[.int .i64 13, .int .i64 line, .int .i64 0, .string (bs []), .slice (some ⟨kb, 0, none⟩) [a].length kc] 34)).heap.size = w.heap.size + 1 by simp)
  clear d0 hg n1 n2 n3 x0 x1 x2 x3 x4 hx3 hx4 HO S0 n4 n5 k0
  generalize hB : w.heap.size = B at *
  clear hB
  generalize hw1 : w.alloc (.cells #[.int .i64 13, .int .i64 line, .int .i64 0, .string (bs []), .slice (some ⟨kb, 0, none⟩) [a].length kc] 34) = w1 at *
  clear hw1
  refine (S1.out.step (around_any (expr_ok HOK.out a) HKa.out ⟨#[]⟩ ⟨#[59, 10]⟩ S1.out.here (by have h5 := HL.out; show _ + 0 + _ + 2 ≤ _; omega))).mono ?_
  rintro e w2 ⟨rfl, h2⟩
  have S2 := hid h2
  clear h2
  go_wp2_with fail
  first | refine bodyPost_end (results_none rfl _ _ _) rfl ⟨rfl, ?_⟩ | refine bodyPost_ret (results_none rfl _ _ _) rfl ⟨rfl, ?_⟩
  have := S2.out.st
  simpa [List.append_assoc, bs_list] using this
set_option maxHeartbeats 2000000 in
set_option maxRecDepth 100000 in
theorem stm_print (hok : NodesOk ns) {x : Nat} {line a : Nat} (hka : Kid ns clsR a) (hx : ns[x]? = some ⟨14, line, 0, [], [a]⟩) {w0 w : World} {out : List UInt8} (h : WS g nv fv lvs pvs ns fs w0 w out) (hlen : out.length + 6 + (txt ns a).length + 2 ≤ 100000000) :
    Calls Tryd.prog 62 #[.pointer (some ⟨g, 0, none⟩), .int .i64 x] w fun e w' => e = .returned (.tuple #[]) ∧ WS g nv fv lvs pvs ns fs w0 w' (out ++ ([112, 114, 105, 110, 116, 32] ++ (txt ns a ++ [59, 10]))) := by
  obtain ⟨nb, cc, kv, rfl, hc, hkv, x0, x1, x2, x3, x4⟩ := h.tree.node hx
  have hlt := (List.getElem?_eq_some_iff.1 hx).1
  have hx3 : (x : Int) < (ns.length : Int) := by omega
  have hx4 : (ns.length : Int) ≤ 9223372036854775807 := by have := h.tree.nodes.cap; obtain ⟨A, c2, e, h1, h2⟩ := this; unfold maxLen at h2; omega
  obtain ⟨d0, _, hg⟩ := h.cell0
  have n3 : nb < w.heap.size := World.block_lt_of_cell? w ⟨nb, x * 5, none⟩ x0
  have n1 : ¬ g = w.heap.size := by omega
  have n2 : ¬ nb = w.heap.size := by omega
  dsimp only at x0 x1 x2 x3 x4 hkv
  obtain ⟨kb, kc, rfl, hkc, hq⟩ := kids_get hkv (show 0 < 1 by decide)
  have hkc2 : (1 : Int) ≤ (kc : Int) := by change 1 ≤ kc at hkc; omega
  have k0 := hq 0 a rfl
  have n4 : kb < w.heap.size := World.block_lt_of_cell? w ⟨kb, 0, none⟩ k0
  have n5 : ¬ kb = w.heap.size := by omega
  clear hq hkc
  have HKa := hid hka
  clear hka
  have S0 := hid h
  have HO := hid hkv
  have HOK := hid hok
  have HL := hid hlen
  clear h hlen hok hkv hx hlt hc
  go_enter Tryd.func62, Tryd.ntmps62
  go_wp2_with fail
  have S1 := hid (S0.out.copy (k := 14) (line := line) (n := 0) (name := (bs [])) HO.out)
  have HSZ := hid (show (w.alloc (.cells #[.int .i64 14, .int .i64 line, .int .i64 0, .string (bs []), .slice (some ⟨kb, 0, none⟩) [a].length kc] 34)).heap.size = w.heap.size + 1 by simp)
  clear d0 hg n1 n2 n3 x0 x1 x2 x3 x4 hx3 hx4 HO S0 n4 n5 k0
  generalize hB : w.heap.size = B at *
  clear hB
  generalize hw1 : w.alloc (.cells #[.int .i64 14, .int .i64 line, .int .i64 0, .string (bs []), .slice (some ⟨kb, 0, none⟩) [a].length kc] 34) = w1 at *
  clear hw1
  refine (S1.out.step (around_any (expr_ok HOK.out a) HKa.out ⟨#[112, 114, 105, 110, 116, 32]⟩ ⟨#[59, 10]⟩ S1.out.here (by have h5 := HL.out; show _ + 6 + _ + 2 ≤ _; omega))).mono ?_
  rintro e w2 ⟨rfl, h2⟩
  have S2 := hid h2
  clear h2
  go_wp2_with fail
  first | refine bodyPost_end (results_none rfl _ _ _) rfl ⟨rfl, ?_⟩ | refine bodyPost_ret (results_none rfl _ _ _) rfl ⟨rfl, ?_⟩
  have := S2.out.st
  simpa [List.append_assoc, bs_list] using this
set_option maxHeartbeats 2000000 in
set_option maxRecDepth 100000 in
theorem stm_let (hok : NodesOk ns) {x : Nat} {line a : Nat} {nm : List UInt8} (hka : Kid ns clsR a) (hx : ns[x]? = some ⟨10, line, 0, nm, [a]⟩) {w0 w : World} {out : List UInt8} (h : WS g nv fv lvs pvs ns fs w0 w out) (hlen : out.length + 5 + nm.length + (txt ns a).length + 2 ≤ 100000000) :
    Calls Tryd.prog 62 #[.pointer (some ⟨g, 0, none⟩), .int .i64 x] w fun e w' => e = .returned (.tuple #[]) ∧ WS g nv fv lvs pvs ns fs w0 w' (out ++ (([108, 101, 116, 32] ++ nm ++ [61]) ++ (txt ns a ++ [59, 10]))) := by
  obtain ⟨nb, cc, kv, rfl, hc, hkv, x0, x1, x2, x3, x4⟩ := h.tree.node hx
  have hlt := (List.getElem?_eq_some_iff.1 hx).1
  have hx3 : (x : Int) < (ns.length : Int) := by omega
  have hx4 : (ns.length : Int) ≤ 9223372036854775807 := by have := h.tree.nodes.cap; obtain ⟨A, c2, e, h1, h2⟩ := this; unfold maxLen at h2; omega
  obtain ⟨d0, _, hg⟩ := h.cell0
  have n3 : nb < w.heap.size := World.block_lt_of_cell? w ⟨nb, x * 5, none⟩ x0
  have n1 : ¬ g = w.heap.size := by omega
  have n2 : ¬ nb = w.heap.size := by omega
  dsimp only at x0 x1 x2 x3 x4 hkv
  obtain ⟨kb, kc, rfl, hkc, hq⟩ := kids_get hkv (show 0 < 1 by decide)
  have hkc2 : (1 : Int) ≤ (kc : Int) := by change 1 ≤ kc at hkc; omega
  have k0 := hq 0 a rfl
  have n4 : kb < w.heap.size := World.block_lt_of_cell? w ⟨kb, 0, none⟩ k0
  have n5 : ¬ kb = w.heap.size := by omega
  clear hq hkc
  have HKa := hid hka
  clear hka
  have S0 := hid h
  have HO := hid hkv
  have HOK := hid hok
  have HL := hid hlen
  clear h hlen hok hkv hx hlt hc
  go_enter Tryd.func62, Tryd.ntmps62
  go_wp2_with fail
  have S1 := hid (S0.out.copy (k := 10) (line := line) (n := 0) (name := (bs nm)) HO.out)
  have HSZ := hid (show (w.alloc (.cells #[.int .i64 10, .int .i64 line, .int .i64 0, .string (bs nm), .slice (some ⟨kb, 0, none⟩) [a].length kc] 34)).heap.size = w.heap.size + 1 by simp)
  clear d0 hg n1 n2 n3 x0 x1 x2 x3 x4 hx3 hx4 HO S0 n4 n5 k0
  generalize hB : w.heap.size = B at *
  clear hB
  generalize hw1 : w.alloc (.cells #[.int .i64 10, .int .i64 line, .int .i64 0, .string (bs nm), .slice (some ⟨kb, 0, none⟩) [a].length kc] 34) = w1 at *
  clear hw1
  obtain ⟨c0, c2, c3, c4, hB⟩ := S1.out.keep.cells
  have k0 := S1.out.keep.kid 0 a rfl
  have nl0 : ¬ 9223372036854775807 < 4 + (bs nm).size := by have h5 := HL.out; rw [bs_size]; omega
  have nl : ¬ 9223372036854775807 < 4 + (bs nm).size + 1 := by have h5 := HL.out; rw [bs_size]; omega
  go_still_tail 9, (by kernel_rfl)
  change wpList _ _ _ _ _ w1.drew
  have S2 := hid (S1.out.to (S1.out.here.no ((Fr.refl nob w1).drew)))
  clear c0 c2 c3 c4 k0 hB S1
  generalize w1.drew = w2 at *
  go_wp2_with fail
  rw [show (⟨#[108, 101, 116, 32]⟩ ++ bs nm ++ ⟨#[61]⟩ : ByteArray) = bs ([108, 101, 116, 32] ++ nm ++ [61]) from (congrArg (· ++ bs [61]) (bs_add [108, 101, 116, 32] nm)).trans (bs_add _ _)]
  refine (S2.out.step (around_any (expr_ok HOK.out a) HKa.out (bs ([108, 101, 116, 32] ++ nm ++ [61])) ⟨#[59, 10]⟩ S2.out.here (by have h5 := HL.out; rw [bs_size]; simp only [List.length_append, List.length_cons, List.length_nil]; show _ + _ + _ + 2 ≤ _; omega))).mono ?_
  rintro e w3 ⟨rfl, h3⟩
  have S3 := hid h3
  clear h3
  go_wp2_with fail
  first | refine bodyPost_end (results_none rfl _ _ _) rfl ⟨rfl, ?_⟩ | refine bodyPost_ret (results_none rfl _ _ _) rfl ⟨rfl, ?_⟩
  have := S3.out.st
  simpa [List.append_assoc, bs_list] using this
set_option maxHeartbeats 2000000 in
set_option maxRecDepth 100000 in
theorem stm_set (hok : NodesOk ns) {x : Nat} {line a : Nat} {nm : List UInt8} (hka : Kid ns clsR a) (hx : ns[x]? = some ⟨11, line, 0, nm, [a]⟩) {w0 w : World} {out : List UInt8} (h : WS g nv fv lvs pvs ns fs w0 w out) (hlen : out.length + 1 + nm.length + (txt ns a).length + 2 ≤ 100000000) :
    Calls Tryd.prog 62 #[.pointer (some ⟨g, 0, none⟩), .int .i64 x] w fun e w' => e = .returned (.tuple #[]) ∧ WS g nv fv lvs pvs ns fs w0 w' (out ++ ((nm ++ [61]) ++ (txt ns a ++ [59, 10]))) := by
  obtain ⟨nb, cc, kv, rfl, hc, hkv, x0, x1, x2, x3, x4⟩ := h.tree.node hx
  have hlt := (List.getElem?_eq_some_iff.1 hx).1
  have hx3 : (x : Int) < (ns.length : Int) := by omega
  have hx4 : (ns.length : Int) ≤ 9223372036854775807 := by have := h.tree.nodes.cap; obtain ⟨A, c2, e, h1, h2⟩ := this; unfold maxLen at h2; omega
  obtain ⟨d0, _, hg⟩ := h.cell0
  have n3 : nb < w.heap.size := World.block_lt_of_cell? w ⟨nb, x * 5, none⟩ x0
  have n1 : ¬ g = w.heap.size := by omega
  have n2 : ¬ nb = w.heap.size := by omega
  dsimp only at x0 x1 x2 x3 x4 hkv
  obtain ⟨kb, kc, rfl, hkc, hq⟩ := kids_get hkv (show 0 < 1 by decide)
  have hkc2 : (1 : Int) ≤ (kc : Int) := by change 1 ≤ kc at hkc; omega
  have k0 := hq 0 a rfl
  have n4 : kb < w.heap.size := World.block_lt_of_cell? w ⟨kb, 0, none⟩ k0
  have n5 : ¬ kb = w.heap.size := by omega
  clear hq hkc
  have HKa := hid hka
  clear hka
  have S0 := hid h
  have HO := hid hkv
  have HOK := hid hok
  have HL := hid hlen
  clear h hlen hok hkv hx hlt hc
  go_enter Tryd.func62, Tryd.ntmps62
  go_wp2_with fail
  have S1 := hid (S0.out.copy (k := 11) (line := line) (n := 0) (name := (bs nm)) HO.out)
  have HSZ := hid (show (w.alloc (.cells #[.int .i64 11, .int .i64 line, .int .i64 0, .string (bs nm), .slice (some ⟨kb, 0, none⟩) [a].length kc] 34)).heap.size = w.heap.size + 1 by simp)
  clear d0 hg n1 n2 n3 x0 x1 x2 x3 x4 hx3 hx4 HO S0 n4 n5 k0
  generalize hB : w.heap.size = B at *
  clear hB
  generalize hw1 : w.alloc (.cells #[.int .i64 11, .int .i64 line, .int .i64 0, .string (bs nm), .slice (some ⟨kb, 0, none⟩) [a].length kc] 34) = w1 at *
  clear hw1
  obtain ⟨c0, c2, c3, c4, hB⟩ := S1.out.keep.cells
  have k0 := S1.out.keep.kid 0 a rfl
  have nl : ¬ 9223372036854775807 < (bs nm).size + 1 := by have h5 := HL.out; rw [bs_size]; omega
  go_still_tail 8, (by kernel_rfl)
  change wpList _ _ _ _ _ w1.drew
  have S2 := hid (S1.out.to (S1.out.here.no ((Fr.refl nob w1).drew)))
  clear c0 c2 c3 c4 k0 hB S1
  generalize w1.drew = w2 at *
  go_wp2_with fail
  rw [show (bs nm ++ ⟨#[61]⟩ : ByteArray) = bs (nm ++ [61]) from bs_add nm [61]]
  refine (S2.out.step (around_any (expr_ok HOK.out a) HKa.out (bs (nm ++ [61])) ⟨#[59, 10]⟩ S2.out.here (by have h5 := HL.out; rw [bs_size]; simp only [List.length_append, List.length_cons, List.length_nil]; show _ + _ + _ + 2 ≤ _; omega))).mono ?_
  rintro e w3 ⟨rfl, h3⟩
  have S3 := hid h3
  clear h3
  go_wp2_with fail
  first | refine bodyPost_end (results_none rfl _ _ _) rfl ⟨rfl, ?_⟩ | refine bodyPost_ret (results_none rfl _ _ _) rfl ⟨rfl, ?_⟩
  have := S3.out.st
  simpa [List.append_assoc, bs_list] using this
end
end Go.Proofs.YtahhgnbiahomiaaDoor
/- Show: statements, the other kinds. Printed by wip/tools/mkstm.py. -/
namespace Go.Proofs.YtahhgnbiahomiaaDoor
open Go.RowKit
set_option linter.unusedVariables false
set_option linter.unusedSimpArgs false
section
variable {g : Nat} {nv fv : Value} {lvs pvs : List Value} {ns : List NodeM} {fs : List FuncM}
set_option maxHeartbeats 2000000 in
set_option maxRecDepth 100000 in
theorem stm_put (hok : NodesOk ns) {x : Nat} {line a b : Nat} {nm : List UInt8} (hka : Kid ns clsR a) (hkb : Kid ns clsR b) (hx : ns[x]? = some ⟨12, line, 0, nm, [a, b]⟩) {w0 w : World} {out : List UInt8} (h : WS g nv fv lvs pvs ns fs w0 w out) (hlen : out.length + nm.length + 1 + (txt ns a).length + 2 + (txt ns b).length + 2 ≤ 100000000) :
    Calls Tryd.prog 62 #[.pointer (some ⟨g, 0, none⟩), .int .i64 x] w fun e w' => e = .returned (.tuple #[]) ∧ WS g nv fv lvs pvs ns fs w0 w' (out ++ (((nm ++ [91]) ++ (txt ns a ++ [93, 61])) ++ (txt ns b ++ [59, 10]))) := by
  obtain ⟨nb, cc, kv, rfl, hc, hkv, x0, x1, x2, x3, x4⟩ := h.tree.node hx
  have hlt := (List.getElem?_eq_some_iff.1 hx).1
  have hx3 : (x : Int) < (ns.length : Int) := by omega
  have hx4 : (ns.length : Int) ≤ 9223372036854775807 := by have := h.tree.nodes.cap; obtain ⟨A, c2, e, h1, h2⟩ := this; unfold maxLen at h2; omega
  obtain ⟨d0, _, hg⟩ := h.cell0
  have n3 : nb < w.heap.size := World.block_lt_of_cell? w ⟨nb, x * 5, none⟩ x0
  have n1 : ¬ g = w.heap.size := by omega
  have n2 : ¬ nb = w.heap.size := by omega
  dsimp only at x0 x1 x2 x3 x4 hkv
  obtain ⟨kb, kc, rfl, hkc, hq⟩ := kids_get hkv (show 0 < 2 by decide)
  have hkc2 : (2 : Int) ≤ (kc : Int) := by change 2 ≤ kc at hkc; omega
  have k0 := hq 0 a rfl
  have k1 := hq 1 b rfl
  have n4 : kb < w.heap.size := World.block_lt_of_cell? w ⟨kb, 0, none⟩ k0
  have n5 : ¬ kb = w.heap.size := by omega
  clear hq hkc
  have HKa := hid hka
  clear hka
  have HKb := hid hkb
  clear hkb
  have S0 := hid h
  have HO := hid hkv
  have HOK := hid hok
  have HL := hid hlen
  clear h hlen hok hkv hx hlt hc
  go_enter Tryd.func62, Tryd.ntmps62
  go_wp2_with fail
  have S1 := hid (S0.out.copy (k := 12) (line := line) (n := 0) (name := (bs nm)) HO.out)
  have HSZ := hid (show (w.alloc (.cells #[.int .i64 12, .int .i64 line, .int .i64 0, .string (bs nm), .slice (some ⟨kb, 0, none⟩) [a, b].length kc] 34)).heap.size = w.heap.size + 1 by simp)
  clear d0 hg n1 n2 n3 x0 x1 x2 x3 x4 hx3 hx4 HO S0 n4 n5 k0 k1
  generalize hB : w.heap.size = B at *
  clear hB
  generalize hw1 : w.alloc (.cells #[.int .i64 12, .int .i64 line, .int .i64 0, .string (bs nm), .slice (some ⟨kb, 0, none⟩) [a, b].length kc] 34) = w1 at *
  clear hw1
  obtain ⟨c0, c2, c3, c4, hB⟩ := S1.out.keep.cells
  have k0 := S1.out.keep.kid 0 a rfl
  have nl : ¬ 9223372036854775807 < (bs nm).size + 1 := by have h5 := HL.out; rw [bs_size]; omega
  go_still_tail 8, (by kernel_rfl)
  change wpList _ _ _ _ _ w1.drew
  have S2 := hid (S1.out.to (S1.out.here.no ((Fr.refl nob w1).drew)))
  clear c0 c2 c3 c4 k0 hB S1
  generalize w1.drew = w2 at *
  go_wp2_with fail
  rw [show (bs nm ++ ⟨#[91]⟩ : ByteArray) = bs (nm ++ [91]) from bs_add nm [91]]
  refine (S2.out.step (around_any (expr_ok HOK.out a) HKa.out (bs (nm ++ [91])) ⟨#[93, 61]⟩ S2.out.here (by have h5 := HL.out; rw [bs_size]; simp only [List.length_append, List.length_cons, List.length_nil]; show _ + _ + _ + 2 ≤ _; omega))).mono ?_
  rintro e w3 ⟨rfl, h3⟩
  have S3 := hid h3
  clear h3
  obtain ⟨c0, c2, c3, c4, hB⟩ := S3.out.keep.cells
  have k1 := S3.out.keep.kid 1 b rfl
  go_wp2_with fail
  refine (S3.out.step (around_any (expr_ok HOK.out b) HKb.out ⟨#[]⟩ ⟨#[59, 10]⟩ S3.out.here (by have h5 := HL.out; rw [List.length_append, List.length_append, List.length_append, bs_list]; simp only [List.length_append, List.length_cons, List.length_nil]; show _ + 0 + _ + 2 ≤ _; omega))).mono ?_
  rintro e w4 ⟨rfl, h4⟩
  have S4 := hid h4
  clear h4
  go_wp2_with fail
  first | refine bodyPost_end (results_none rfl _ _ _) rfl ⟨rfl, ?_⟩ | refine bodyPost_ret (results_none rfl _ _ _) rfl ⟨rfl, ?_⟩
  have := S4.out.st
  simpa [List.append_assoc, bs_list] using this
set_option maxHeartbeats 2000000 in
set_option maxRecDepth 100000 in
theorem stm_loop (hok : NodesOk ns) {x : Nat} {line a b : Nat} (hka : Kid ns clsR a) (hxb : StmOk clsB 41 g nv fv lvs pvs ns fs b) (hkb : Kid ns clsB b) (hx : ns[x]? = some ⟨16, line, 0, [], [a, b]⟩) {w0 w : World} {out : List UInt8} (h : WS g nv fv lvs pvs ns fs w0 w out) (hlen : out.length + 6 + (txt ns a).length + (txt ns b).length ≤ 100000000) :
    Calls Tryd.prog 62 #[.pointer (some ⟨g, 0, none⟩), .int .i64 x] w fun e w' => e = .returned (.tuple #[]) ∧ WS g nv fv lvs pvs ns fs w0 w' (out ++ (([119, 104, 105, 108, 101, 32] ++ (txt ns a ++ [])) ++ txt ns b)) := by
  obtain ⟨nb, cc, kv, rfl, hc0, hkv, x0, x1, x2, x3, x4⟩ := h.tree.node hx
  have hlt := (List.getElem?_eq_some_iff.1 hx).1
  have hx3 : (x : Int) < (ns.length : Int) := by omega
  have hx4 : (ns.length : Int) ≤ 9223372036854775807 := by have := h.tree.nodes.cap; obtain ⟨A, c2, e, h1, h2⟩ := this; unfold maxLen at h2; omega
  obtain ⟨d0, _, hg⟩ := h.cell0
  have n3 : nb < w.heap.size := World.block_lt_of_cell? w ⟨nb, x * 5, none⟩ x0
  have n1 : ¬ g = w.heap.size := by omega
  have n2 : ¬ nb = w.heap.size := by omega
  dsimp only at x0 x1 x2 x3 x4 hkv
  obtain ⟨kb, kc, rfl, hkc, hq⟩ := kids_get hkv (show 0 < 2 by decide)
  have hkc2 : (2 : Int) ≤ (kc : Int) := by change 2 ≤ kc at hkc; omega
  have k0 := hq 0 a rfl
  have k1 := hq 1 b rfl
  have n4 : kb < w.heap.size := World.block_lt_of_cell? w ⟨kb, 0, none⟩ k0
  have n5 : ¬ kb = w.heap.size := by omega
  clear hq hkc
  have HKa := hid hka
  clear hka
  have HXb := hid hxb
  have HKb := hid hkb
  clear hxb hkb
  have S0 := hid h
  have HO := hid hkv
  have HOK := hid hok
  have HL := hid hlen
  clear h hlen hok hkv hx hlt hc0
  go_enter Tryd.func62, Tryd.ntmps62
  go_wp2_with fail
  have S1 := hid (S0.out.copy (k := 16) (line := line) (n := 0) (name := (bs [])) HO.out)
  have HSZ := hid (show (w.alloc (.cells #[.int .i64 16, .int .i64 line, .int .i64 0, .string (bs []), .slice (some ⟨kb, 0, none⟩) [a, b].length kc] 34)).heap.size = w.heap.size + 1 by simp)
  clear d0 hg n1 n2 n3 x0 x1 x2 x3 x4 hx3 hx4 HO S0 n4 n5 k0 k1
  generalize hB : w.heap.size = B at *
  clear hB
  generalize hw1 : w.alloc (.cells #[.int .i64 16, .int .i64 line, .int .i64 0, .string (bs []), .slice (some ⟨kb, 0, none⟩) [a, b].length kc] 34) = w1 at *
  clear hw1
  refine (S1.out.step (around_any (expr_ok HOK.out a) HKa.out ⟨#[119, 104, 105, 108, 101, 32]⟩ ⟨#[]⟩ S1.out.here (by have h5 := HL.out; show _ + 6 + _ + 0 ≤ _; omega))).mono ?_
  rintro e w2 ⟨rfl, h2⟩
  have S2 := hid h2
  clear h2
  obtain ⟨c0, c2, c3, c4, hB⟩ := S2.out.keep.cells
  have k1 := S2.out.keep.kid 1 b rfl
  go_wp2_with fail
  refine (S2.out.step (HXb.out _ _ _ S2.out.here HKb.out (by have h5 := HL.out; show (out ++ ([119, 104, 105, 108, 101, 32] ++ (txt ns a ++ ([] : List UInt8)))).length + _ ≤ _; simp only [List.length_append, List.length_cons, List.length_nil]; omega))).mono ?_
  rintro e w3 ⟨rfl, h3⟩
  have S3 := hid h3
  clear h3
  go_wp2_with fail
  first | refine bodyPost_end (results_none rfl _ _ _) rfl ⟨rfl, ?_⟩ | refine bodyPost_ret (results_none rfl _ _ _) rfl ⟨rfl, ?_⟩
  have := S3.out.st
  simpa [List.append_assoc, bs_list] using this
set_option maxHeartbeats 2000000 in
set_option maxRecDepth 100000 in
theorem stm_if2 (hok : NodesOk ns) {x : Nat} {line a b : Nat} (hka : Kid ns clsR a) (hxb : StmOk clsB 41 g nv fv lvs pvs ns fs b) (hkb : Kid ns clsB b) (hx : ns[x]? = some ⟨15, line, 0, [], [a, b]⟩) {w0 w : World} {out : List UInt8} (h : WS g nv fv lvs pvs ns fs w0 w out) (hlen : out.length + 3 + (txt ns a).length + (txt ns b).length ≤ 100000000) :
    Calls Tryd.prog 62 #[.pointer (some ⟨g, 0, none⟩), .int .i64 x] w fun e w' => e = .returned (.tuple #[]) ∧ WS g nv fv lvs pvs ns fs w0 w' (out ++ (([105, 102, 32] ++ (txt ns a ++ [])) ++ txt ns b)) := by
  obtain ⟨nb, cc, kv, rfl, hc0, hkv, x0, x1, x2, x3, x4⟩ := h.tree.node hx
  have hlt := (List.getElem?_eq_some_iff.1 hx).1
  have hx3 : (x : Int) < (ns.length : Int) := by omega
  have hx4 : (ns.length : Int) ≤ 9223372036854775807 := by have := h.tree.nodes.cap; obtain ⟨A, c2, e, h1, h2⟩ := this; unfold maxLen at h2; omega
  obtain ⟨d0, _, hg⟩ := h.cell0
  have n3 : nb < w.heap.size := World.block_lt_of_cell? w ⟨nb, x * 5, none⟩ x0
  have n1 : ¬ g = w.heap.size := by omega
  have n2 : ¬ nb = w.heap.size := by omega
  dsimp only at x0 x1 x2 x3 x4 hkv
  obtain ⟨kb, kc, rfl, hkc, hq⟩ := kids_get hkv (show 0 < 2 by decide)
  have hkc2 : (2 : Int) ≤ (kc : Int) := by change 2 ≤ kc at hkc; omega
  have k0 := hq 0 a rfl
  have k1 := hq 1 b rfl
  have n4 : kb < w.heap.size := World.block_lt_of_cell? w ⟨kb, 0, none⟩ k0
  have n5 : ¬ kb = w.heap.size := by omega
  clear hq hkc
  have HKa := hid hka
  clear hka
  have HXb := hid hxb
  have HKb := hid hkb
  clear hxb hkb
  have S0 := hid h
  have HO := hid hkv
  have HOK := hid hok
  have HL := hid hlen
  clear h hlen hok hkv hx hlt hc0
  go_enter Tryd.func62, Tryd.ntmps62
  go_wp2_with fail
  have S1 := hid (S0.out.copy (k := 15) (line := line) (n := 0) (name := (bs [])) HO.out)
  have HSZ := hid (show (w.alloc (.cells #[.int .i64 15, .int .i64 line, .int .i64 0, .string (bs []), .slice (some ⟨kb, 0, none⟩) [a, b].length kc] 34)).heap.size = w.heap.size + 1 by simp)
  clear d0 hg n1 n2 n3 x0 x1 x2 x3 x4 hx3 hx4 HO S0 n4 n5 k0 k1
  generalize hB : w.heap.size = B at *
  clear hB
  generalize hw1 : w.alloc (.cells #[.int .i64 15, .int .i64 line, .int .i64 0, .string (bs []), .slice (some ⟨kb, 0, none⟩) [a, b].length kc] 34) = w1 at *
  clear hw1
  refine (S1.out.step (around_any (expr_ok HOK.out a) HKa.out ⟨#[105, 102, 32]⟩ ⟨#[]⟩ S1.out.here (by have h5 := HL.out; show _ + 3 + _ + 0 ≤ _; omega))).mono ?_
  rintro e w2 ⟨rfl, h2⟩
  have S2 := hid h2
  clear h2
  obtain ⟨c0, c2, c3, c4, hB⟩ := S2.out.keep.cells
  have k1 := S2.out.keep.kid 1 b rfl
  go_wp2_with fail
  refine (S2.out.step (HXb.out _ _ _ S2.out.here HKb.out (by have h5 := HL.out; show (out ++ ([105, 102, 32] ++ (txt ns a ++ ([] : List UInt8)))).length + _ ≤ _; simp only [List.length_append, List.length_cons, List.length_nil]; omega))).mono ?_
  rintro e w3 ⟨rfl, h3⟩
  have S3 := hid h3
  clear h3
  obtain ⟨c0, c2, c3, c4, hB⟩ := S3.out.keep.cells
  go_wp2_with fail
  all_goals
    refine wp_loop_rounds 1 ?_
    rw [rounds_succ]
    go_wp2_with fail
    first | refine bodyPost_end (results_none rfl _ _ _) rfl ⟨rfl, ?_⟩ | refine bodyPost_ret (results_none rfl _ _ _) rfl ⟨rfl, ?_⟩
    have := S3.out.st
    simpa [List.append_assoc, bs_list] using this

set_option maxHeartbeats 2000000 in
set_option maxRecDepth 100000 in
theorem stm_if3 (hok : NodesOk ns) {x : Nat} {line a b c : Nat} (hka : Kid ns clsR a) (hxb : StmOk clsB 41 g nv fv lvs pvs ns fs b) (hkb : Kid ns clsB b) (hxc : StmOk clsB 41 g nv fv lvs pvs ns fs c) (hkc : Kid ns clsB c) (hx : ns[x]? = some ⟨15, line, 0, [], [a, b, c]⟩) {w0 w : World} {out : List UInt8} (h : WS g nv fv lvs pvs ns fs w0 w out) (hlen : out.length + 3 + (txt ns a).length + (txt ns b).length + 4 + (txt ns c).length ≤ 100000000) :
    Calls Tryd.prog 62 #[.pointer (some ⟨g, 0, none⟩), .int .i64 x] w fun e w' => e = .returned (.tuple #[]) ∧ WS g nv fv lvs pvs ns fs w0 w' (out ++ ((([105, 102, 32] ++ (txt ns a ++ [])) ++ txt ns b) ++ ([101, 108, 115, 101] ++ txt ns c))) := by
  obtain ⟨nb, cc, kv, rfl, hc0, hkv, x0, x1, x2, x3, x4⟩ := h.tree.node hx
  have hlt := (List.getElem?_eq_some_iff.1 hx).1
  have hx3 : (x : Int) < (ns.length : Int) := by omega
  have hx4 : (ns.length : Int) ≤ 9223372036854775807 := by have := h.tree.nodes.cap; obtain ⟨A, c2, e, h1, h2⟩ := this; unfold maxLen at h2; omega
  obtain ⟨d0, _, hg⟩ := h.cell0
  have n3 : nb < w.heap.size := World.block_lt_of_cell? w ⟨nb, x * 5, none⟩ x0
  have n1 : ¬ g = w.heap.size := by omega
  have n2 : ¬ nb = w.heap.size := by omega
  dsimp only at x0 x1 x2 x3 x4 hkv
  obtain ⟨kb, kc, rfl, hkc, hq⟩ := kids_get hkv (show 0 < 3 by decide)
  have hkc2 : (3 : Int) ≤ (kc : Int) := by change 3 ≤ kc at hkc; omega
  have k0 := hq 0 a rfl
  have k1 := hq 1 b rfl
  have k2 := hq 2 c rfl
  have n4 : kb < w.heap.size := World.block_lt_of_cell? w ⟨kb, 0, none⟩ k0
  have n5 : ¬ kb = w.heap.size := by omega
  clear hq hkc
  have HKa := hid hka
  clear hka
  have HXb := hid hxb
  have HKb := hid hkb
  clear hxb hkb
  have HXc := hid hxc
  have HKc := hid hkc
  clear hxc hkc
  have S0 := hid h
  have HO := hid hkv
  have HOK := hid hok
  have HL := hid hlen
  clear h hlen hok hkv hx hlt hc0
  go_enter Tryd.func62, Tryd.ntmps62
  go_wp2_with fail
  have S1 := hid (S0.out.copy (k := 15) (line := line) (n := 0) (name := (bs [])) HO.out)
  have HSZ := hid (show (w.alloc (.cells #[.int .i64 15, .int .i64 line, .int .i64 0, .string (bs []), .slice (some ⟨kb, 0, none⟩) [a, b, c].length kc] 34)).heap.size = w.heap.size + 1 by simp)
  clear d0 hg n1 n2 n3 x0 x1 x2 x3 x4 hx3 hx4 HO S0 n4 n5 k0 k1 k2
  generalize hB : w.heap.size = B at *
  clear hB
  generalize hw1 : w.alloc (.cells #[.int .i64 15, .int .i64 line, .int .i64 0, .string (bs []), .slice (some ⟨kb, 0, none⟩) [a, b, c].length kc] 34) = w1 at *
  clear hw1
  refine (S1.out.step (around_any (expr_ok HOK.out a) HKa.out ⟨#[105, 102, 32]⟩ ⟨#[]⟩ S1.out.here (by have h5 := HL.out; show _ + 3 + _ + 0 ≤ _; omega))).mono ?_
  rintro e w2 ⟨rfl, h2⟩
  have S2 := hid h2
  clear h2
  obtain ⟨c0, c2, c3, c4, hB⟩ := S2.out.keep.cells
  have k1 := S2.out.keep.kid 1 b rfl
  go_wp2_with fail
  refine (S2.out.step (HXb.out _ _ _ S2.out.here HKb.out (by have h5 := HL.out; show (out ++ ([105, 102, 32] ++ (txt ns a ++ ([] : List UInt8)))).length + _ ≤ _; simp only [List.length_append, List.length_cons, List.length_nil]; omega))).mono ?_
  rintro e w3 ⟨rfl, h3⟩
  have S3 := hid h3
  clear h3
  obtain ⟨c0, c2, c3, c4, hB⟩ := S3.out.keep.cells
  have k2 := S3.out.keep.kid 2 c rfl
  have hk2 : ¬ kc = 2 := by omega
  go_wp2_with fail
  all_goals
    refine wp_loop_rounds 2 ?_
    rw [rounds_succ]
    go_wp2_with fail
    refine (S3.out.step (wput1 S3.out.here rfl ⟨#[101, 108, 115, 101]⟩ (by have h5 := HL.out; show (out ++ ([105, 102, 32] ++ (txt ns a ++ ([] : List UInt8))) ++ txt ns b).length + 4 ≤ _; simp only [List.length_append, List.length_cons, List.length_nil]; omega))).mono ?_
    rintro e w4 ⟨rfl, h4⟩
    have S4 := hid h4
    clear h4
    go_wp2_with fail
    refine (S4.out.step (HXc.out _ _ _ S4.out.here HKc.out (by have h5 := HL.out; show (out ++ ([105, 102, 32] ++ (txt ns a ++ ([] : List UInt8))) ++ txt ns b ++ ([101, 108, 115, 101] : List UInt8)).length + _ ≤ _; simp only [List.length_append, List.length_cons, List.length_nil]; omega))).mono ?_
    rintro e w5 ⟨rfl, h5⟩
    have S5 := hid h5
    clear h5
    go_wp2_with fail
    rw [rounds_succ]
    go_wp2_with fail
    first | refine bodyPost_end (results_none rfl _ _ _) rfl ⟨rfl, ?_⟩ | refine bodyPost_ret (results_none rfl _ _ _) rfl ⟨rfl, ?_⟩
    have := S5.out.st
    simpa [List.append_assoc, bs_list] using this

set_option maxHeartbeats 2000000 in
set_option maxRecDepth 100000 in
theorem stm_ret0 (hok : NodesOk ns) {x : Nat} {line : Nat} (hx : ns[x]? = some ⟨17, line, 0, [], []⟩) {w0 w : World} {out : List UInt8} (h : WS g nv fv lvs pvs ns fs w0 w out) (hlen : out.length + 8 ≤ 100000000) :
    Calls Tryd.prog 62 #[.pointer (some ⟨g, 0, none⟩), .int .i64 x] w fun e w' => e = .returned (.tuple #[]) ∧ WS g nv fv lvs pvs ns fs w0 w' (out ++ ([114, 101, 116, 117, 114, 110] ++ [59, 10])) := by
  obtain ⟨nb, cc, kv, rfl, hc, hkv, x0, x1, x2, x3, x4⟩ := h.tree.node hx
  have hlt := (List.getElem?_eq_some_iff.1 hx).1
  have hx3 : (x : Int) < (ns.length : Int) := by omega
  have hx4 : (ns.length : Int) ≤ 9223372036854775807 := by have := h.tree.nodes.cap; obtain ⟨A, c2, e, h1, h2⟩ := this; unfold maxLen at h2; omega
  obtain ⟨d0, _, hg⟩ := h.cell0
  have n3 : nb < w.heap.size := World.block_lt_of_cell? w ⟨nb, x * 5, none⟩ x0
  have n1 : ¬ g = w.heap.size := by omega
  have n2 : ¬ nb = w.heap.size := by omega
  dsimp only at x0 x1 x2 x3 x4 hkv
  obtain ⟨KA, KC, rfl, _, _⟩ := hkv.cap
  have S0 := hid h
  have HO := hid hkv
  have HOK := hid hok
  have HL := hid hlen
  clear h hlen hok hkv hx hlt hc
  go_enter Tryd.func62, Tryd.ntmps62
  go_wp2_with fail
  have S1 := hid (S0.out.copy (k := 17) (line := line) (n := 0) (name := (bs [])) HO.out)
  have HSZ := hid (show (w.alloc (.cells #[.int .i64 17, .int .i64 line, .int .i64 0, .string (bs []), .slice KA ([] : List Nat).length KC] 34)).heap.size = w.heap.size + 1 by simp)
  clear d0 hg n1 n2 n3 x0 x1 x2 x3 x4 hx3 hx4 HO S0 
  generalize hB : w.heap.size = B at *
  clear hB
  generalize hw1 : w.alloc (.cells #[.int .i64 17, .int .i64 line, .int .i64 0, .string (bs []), .slice KA ([] : List Nat).length KC] 34) = w1 at *
  clear hw1
  refine (S1.out.step (wput1 S1.out.here HSZ.out ⟨#[114, 101, 116, 117, 114, 110]⟩ (by have h5 := HL.out; show _ + 6 ≤ _; omega))).mono ?_
  rintro e w2 ⟨rfl, h2⟩
  have S2 := hid h2
  clear h2
  obtain ⟨c0, c2, c3, c4, hB⟩ := S2.out.keep.cells
  go_wp2_with fail
  refine wp_loop_rounds 1 ?_
  rw [rounds_succ]
  go_wp2_with fail
  refine (S2.out.step (wput1 S2.out.here rfl ⟨#[59, 10]⟩ (by have h5 := HL.out; show (out ++ ([114, 101, 116, 117, 114, 110] : List UInt8)).length + 2 ≤ _; simp only [List.length_append, List.length_cons, List.length_nil]; omega))).mono ?_
  rintro e w3 ⟨rfl, h3⟩
  have S3 := hid h3
  clear h3
  go_wp2_with fail
  first | refine bodyPost_end (results_none rfl _ _ _) rfl ⟨rfl, ?_⟩ | refine bodyPost_ret (results_none rfl _ _ _) rfl ⟨rfl, ?_⟩
  have := S3.out.st
  simpa [List.append_assoc, bs_list] using this
set_option maxHeartbeats 2000000 in
set_option maxRecDepth 100000 in
theorem stm_ret1 (hok : NodesOk ns) {x : Nat} {line a : Nat} (hka : Kid ns clsR a) (hx : ns[x]? = some ⟨17, line, 0, [], [a]⟩) {w0 w : World} {out : List UInt8} (h : WS g nv fv lvs pvs ns fs w0 w out) (hlen : out.length + 6 + 1 + (txt ns a).length + 2 ≤ 100000000) :
    Calls Tryd.prog 62 #[.pointer (some ⟨g, 0, none⟩), .int .i64 x] w fun e w' => e = .returned (.tuple #[]) ∧ WS g nv fv lvs pvs ns fs w0 w' (out ++ (([114, 101, 116, 117, 114, 110] ++ ([32] ++ (txt ns a ++ []))) ++ [59, 10])) := by
  obtain ⟨nb, cc, kv, rfl, hc, hkv, x0, x1, x2, x3, x4⟩ := h.tree.node hx
  have hlt := (List.getElem?_eq_some_iff.1 hx).1
  have hx3 : (x : Int) < (ns.length : Int) := by omega
  have hx4 : (ns.length : Int) ≤ 9223372036854775807 := by have := h.tree.nodes.cap; obtain ⟨A, c2, e, h1, h2⟩ := this; unfold maxLen at h2; omega
  obtain ⟨d0, _, hg⟩ := h.cell0
  have n3 : nb < w.heap.size := World.block_lt_of_cell? w ⟨nb, x * 5, none⟩ x0
  have n1 : ¬ g = w.heap.size := by omega
  have n2 : ¬ nb = w.heap.size := by omega
  dsimp only at x0 x1 x2 x3 x4 hkv
  obtain ⟨kb, kc, rfl, hkc, hq⟩ := kids_get hkv (show 0 < 1 by decide)
  have hkc2 : (1 : Int) ≤ (kc : Int) := by change 1 ≤ kc at hkc; omega
  have k0 := hq 0 a rfl
  have n4 : kb < w.heap.size := World.block_lt_of_cell? w ⟨kb, 0, none⟩ k0
  have n5 : ¬ kb = w.heap.size := by omega
  clear hq hkc
  have HKa := hid hka
  clear hka
  have S0 := hid h
  have HO := hid hkv
  have HOK := hid hok
  have HL := hid hlen
  clear h hlen hok hkv hx hlt hc
  go_enter Tryd.func62, Tryd.ntmps62
  go_wp2_with fail
  have S1 := hid (S0.out.copy (k := 17) (line := line) (n := 0) (name := (bs [])) HO.out)
  have HSZ := hid (show (w.alloc (.cells #[.int .i64 17, .int .i64 line, .int .i64 0, .string (bs []), .slice (some ⟨kb, 0, none⟩) [a].length kc] 34)).heap.size = w.heap.size + 1 by simp)
  clear d0 hg n1 n2 n3 x0 x1 x2 x3 x4 hx3 hx4 HO S0 n4 n5 k0
  generalize hB : w.heap.size = B at *
  clear hB
  generalize hw1 : w.alloc (.cells #[.int .i64 17, .int .i64 line, .int .i64 0, .string (bs []), .slice (some ⟨kb, 0, none⟩) [a].length kc] 34) = w1 at *
  clear hw1
  refine (S1.out.step (wput1 S1.out.here HSZ.out ⟨#[114, 101, 116, 117, 114, 110]⟩ (by have h5 := HL.out; show _ + 6 ≤ _; omega))).mono ?_
  rintro e w2 ⟨rfl, h2⟩
  have S2 := hid h2
  clear h2
  obtain ⟨c0, c2, c3, c4, hB⟩ := S2.out.keep.cells
  have k0 := S2.out.keep.kid 0 a rfl
  go_wp2_with fail
  refine wp_loop_rounds 2 ?_
  rw [rounds_succ]
  go_wp2_with fail
  refine (S2.out.step (around_any (expr_ok HOK.out a) HKa.out ⟨#[32]⟩ ⟨#[]⟩ S2.out.here (by have h5 := HL.out; show (out ++ ([114, 101, 116, 117, 114, 110] : List UInt8)).length + 1 + _ + 0 ≤ _; simp only [List.length_append, List.length_cons, List.length_nil]; omega))).mono ?_
  rintro e w3 ⟨rfl, h3⟩
  have S3 := hid h3
  clear h3
  go_wp2_with fail
  rw [rounds_succ]
  go_wp2_with fail
  refine (S3.out.step (wput1 S3.out.here rfl ⟨#[59, 10]⟩ (by have h5 := HL.out; show (out ++ ([114, 101, 116, 117, 114, 110] : List UInt8) ++ (([32] : List UInt8) ++ (txt ns a ++ ([] : List UInt8)))).length + 2 ≤ _; simp only [List.length_append, List.length_cons, List.length_nil]; omega))).mono ?_
  rintro e w4 ⟨rfl, h4⟩
  have S4 := hid h4
  clear h4
  go_wp2_with fail
  first | refine bodyPost_end (results_none rfl _ _ _) rfl ⟨rfl, ?_⟩ | refine bodyPost_ret (results_none rfl _ _ _) rfl ⟨rfl, ?_⟩
  have := S4.out.st
  simpa [List.append_assoc, bs_list] using this
end
end Go.Proofs.YtahhgnbiahomiaaDoor
/- Show: statements and blocks, whole. -/
namespace Go.Proofs.YtahhgnbiahomiaaDoor
open Go.RowKit
set_option linter.unusedVariables false
set_option linter.unusedSimpArgs false
section
variable {g : Nat} {nv fv : Value} {lvs pvs : List Value} {ns : List NodeM} {fs : List FuncM}
theorem stm_ok (hok : NodesOk ns) : ∀ x, StmOk clsS 62 g nv fv lvs pvs ns fs x ∧ StmOk clsB 41 g nv fv lvs pvs ns fs x := by
  intro x
  induction x using Nat.strongRecOn with
  | _ x ih =>
    have kid : ∀ {a}, Kid (ns.take x) clsE a → Kid ns clsR a ∧ shV (ns.take x) a = shV ns a := fun {a} hk => by
      obtain ⟨h1, h2⟩ := hk.take
      exact ⟨h2.le (fun k hk => by unfold clsR; rw [hk]; rfl), shV_take h1⟩
    have kidR : ∀ {a}, Kid (ns.take x) clsR a → Kid ns clsR a ∧ shV (ns.take x) a = shV ns a := fun {a} hk => by
      obtain ⟨h1, h2⟩ := hk.take
      exact ⟨h2, shV_take h1⟩
    have kidC : ∀ {a}, Kid (ns.take x) clsC a → Kid ns clsR a ∧ shV (ns.take x) a = shV ns a := fun {a} hk => by
      obtain ⟨h1, h2⟩ := hk.take
      exact ⟨h2.le (fun k hk => by unfold clsC at hk; have := of_decide_eq_true hk; subst this; rfl), shV_take h1⟩
    have kidB : ∀ {a}, Kid (ns.take x) clsB a → StmOk clsB 41 g nv fv lvs pvs ns fs a ∧ Kid ns clsB a ∧ shV (ns.take x) a = shV ns a := fun {a} hk => by
      obtain ⟨h1, h2⟩ := hk.take
      exact ⟨(ih a h1).2, h2, shV_take h1⟩
    have kidS : ∀ {a}, Kid (ns.take x) clsS a → StmOk clsS 62 g nv fv lvs pvs ns fs a ∧ Kid ns clsS a ∧ shV (ns.take x) a = shV ns a := fun {a} hk => by
      obtain ⟨h1, h2⟩ := hk.take
      exact ⟨(ih a h1).1, h2, shV_take h1⟩
    constructor
    · intro w0 w out h hk hlen
      obtain ⟨nd, hx, hcl⟩ := hk
      have hN := hok x nd hx
      rw [txt_eq hx] at hlen ⊢
      cases hN with
      | let_ line y a ha =>
        obtain ⟨k2, k3⟩ := kidR ha
        have e : textN (fun i => shV (ns.take x) i) ⟨10, line, 0, y, [a]⟩ = ([108, 101, 116, 32] ++ y ++ [61]) ++ (txt ns a ++ [59, 10]) := by
          show [108, 101, 116, 32] ++ y ++ [61] ++ (shV (ns.take x) a).1 ++ [59, 10] = _
          rw [k3]; simp [txt, List.append_assoc]
        rw [e] at hlen ⊢
        refine stm_let hok k2 hx h ?_
        simp only [List.length_cons, List.length_append, List.length_nil] at hlen; omega
      | set line y a ha =>
        obtain ⟨k2, k3⟩ := kidR ha
        have e : textN (fun i => shV (ns.take x) i) ⟨11, line, 0, y, [a]⟩ = (y ++ [61]) ++ (txt ns a ++ [59, 10]) := by
          show y ++ [61] ++ (shV (ns.take x) a).1 ++ [59, 10] = _
          rw [k3]; simp [txt, List.append_assoc]
        rw [e] at hlen ⊢
        refine stm_set hok k2 hx h ?_
        simp only [List.length_cons, List.length_append, List.length_nil] at hlen; omega
      | put line y a b ha hb =>
        obtain ⟨k2, k3⟩ := kid ha
        obtain ⟨l2, l3⟩ := kid hb
        have e : textN (fun i => shV (ns.take x) i) ⟨12, line, 0, y, [a, b]⟩ = ((y ++ [91]) ++ (txt ns a ++ [93, 61])) ++ (txt ns b ++ [59, 10]) := by
          show y ++ [91] ++ (shV (ns.take x) a).1 ++ [93, 61] ++ (shV (ns.take x) b).1 ++ [59, 10] = _
          rw [k3, l3]; simp [txt, List.append_assoc]
        rw [e] at hlen ⊢
        refine stm_put hok k2 l2 hx h ?_
        simp only [List.length_cons, List.length_append, List.length_nil] at hlen; omega
      | do_ line a ha =>
        obtain ⟨k2, k3⟩ := kidC ha
        have e : textN (fun i => shV (ns.take x) i) ⟨13, line, 0, [], [a]⟩ = [] ++ (txt ns a ++ [59, 10]) := by
          show (shV (ns.take x) a).1 ++ [59, 10] = _
          rw [k3]; rfl
        rw [e] at hlen ⊢
        refine stm_do hok k2 hx h ?_
        simp only [List.length_cons, List.length_append, List.length_nil] at hlen; omega
      | print line a ha =>
        obtain ⟨k2, k3⟩ := kid ha
        have e : textN (fun i => shV (ns.take x) i) ⟨14, line, 0, [], [a]⟩ = [112, 114, 105, 110, 116, 32] ++ (txt ns a ++ [59, 10]) := by
          show [112, 114, 105, 110, 116, 32] ++ (shV (ns.take x) a).1 ++ [59, 10] = _
          rw [k3]; simp [txt, List.append_assoc]
        rw [e] at hlen ⊢
        refine stm_print hok k2 hx h ?_
        simp only [List.length_cons, List.length_append, List.length_nil] at hlen; omega
      | if2 line a b ha hb =>
        obtain ⟨k2, k3⟩ := kid ha
        obtain ⟨l1, l2, l3⟩ := kidB hb
        have e : textN (fun i => shV (ns.take x) i) ⟨15, line, 0, [], [a, b]⟩ = ([105, 102, 32] ++ (txt ns a ++ [])) ++ txt ns b := by
          show [105, 102, 32] ++ (shV (ns.take x) a).1 ++ (shV (ns.take x) b).1 ++ [] = _
          rw [k3, l3]; simp [txt, List.append_assoc]
        rw [e] at hlen ⊢
        refine stm_if2 hok k2 l1 l2 hx h ?_
        simp only [List.length_cons, List.length_append, List.length_nil] at hlen; omega
      | if3 line a b c ha hb hc =>
        obtain ⟨k2, k3⟩ := kid ha
        obtain ⟨l1, l2, l3⟩ := kidB hb
        obtain ⟨m1, m2, m3⟩ := kidB hc
        have e : textN (fun i => shV (ns.take x) i) ⟨15, line, 0, [], [a, b, c]⟩ = (([105, 102, 32] ++ (txt ns a ++ [])) ++ txt ns b) ++ ([101, 108, 115, 101] ++ txt ns c) := by
          show [105, 102, 32] ++ (shV (ns.take x) a).1 ++ (shV (ns.take x) b).1 ++ ([101, 108, 115, 101] ++ (shV (ns.take x) c).1 ++ []) = _
          rw [k3, l3, m3]; simp [txt, List.append_assoc]
        rw [e] at hlen ⊢
        refine stm_if3 hok k2 l1 l2 m1 m2 hx h ?_
        simp only [List.length_cons, List.length_append, List.length_nil] at hlen; omega
      | loop line a b ha hb =>
        obtain ⟨k2, k3⟩ := kid ha
        obtain ⟨l1, l2, l3⟩ := kidB hb
        have e : textN (fun i => shV (ns.take x) i) ⟨16, line, 0, [], [a, b]⟩ = ([119, 104, 105, 108, 101, 32] ++ (txt ns a ++ [])) ++ txt ns b := by
          show [119, 104, 105, 108, 101, 32] ++ (shV (ns.take x) a).1 ++ (shV (ns.take x) b).1 = _
          rw [k3, l3]; simp [txt, List.append_assoc]
        rw [e] at hlen ⊢
        refine stm_loop hok k2 l1 l2 hx h ?_
        simp only [List.length_cons, List.length_append, List.length_nil] at hlen; omega
      | ret0 line =>
        have e : textN (fun i => shV (ns.take x) i) ⟨17, line, 0, [], []⟩ = [114, 101, 116, 117, 114, 110] ++ [59, 10] := rfl
        rw [e] at hlen ⊢
        exact stm_ret0 hok hx h hlen
      | ret1 line a ha =>
        obtain ⟨k2, k3⟩ := kid ha
        have e : textN (fun i => shV (ns.take x) i) ⟨17, line, 0, [], [a]⟩ = ([114, 101, 116, 117, 114, 110] ++ ([32] ++ (txt ns a ++ []))) ++ [59, 10] := by
          show [114, 101, 116, 117, 114, 110] ++ (32 :: (shV (ns.take x) a).1 ++ []) ++ [59, 10] = _
          rw [k3]; simp [txt, List.append_assoc]
        rw [e] at hlen ⊢
        refine stm_ret1 hok k2 hx h ?_
        simp only [List.length_cons, List.length_append, List.length_nil] at hlen; omega
      | _ => simp [clsS] at hcl
    · intro w0 w out h hk hlen
      obtain ⟨nd, hx, hcl⟩ := hk
      have hN := hok x nd hx
      rw [txt_eq hx] at hlen ⊢
      cases hN with
      | block line l hl =>
        have e : textN (fun i => shV (ns.take x) i) ⟨18, line, 0, [], l⟩ = [123, 10] ++ (l.flatMap (txt ns) ++ [125, 10]) := by
          show [123, 10] ++ l.flatMap (fun c => (shV (ns.take x) c).1) ++ [125, 10] = _
          rw [show l.flatMap (fun c => (shV (ns.take x) c).1) = l.flatMap (txt ns) from by
            rw [List.flatMap_def, List.flatMap_def]
            congr 1
            exact List.map_congr_left (fun a ha => by rw [(kidS (hl a ha)).2.2]; rfl)]
          simp [List.append_assoc]
        rw [e] at hlen ⊢
        refine block_any hx (fun a ha => ⟨(kidS (hl a ha)).1, (kidS (hl a ha)).2.1⟩) h ?_
        simp only [List.length_cons, List.length_append, List.length_nil] at hlen; omega
      | _ => simp [clsB] at hcl
end
end Go.Proofs.YtahhgnbiahomiaaDoor
/- Show: a function's head. -/
namespace Go.Proofs.YtahhgnbiahomiaaDoor
open Go.RowKit
set_option linter.unusedVariables false
set_option linter.unusedSimpArgs false
theorem paramCells_get : ∀ {l : List (List UInt8 × Nat)} {i : Nat} {q : List UInt8 × Nat}, l[i]? = some q → (paramCells l)[i * 2]? = some (.string (bs q.1)) ∧ (paramCells l)[i * 2 + 1]? = some (.int .i64 (q.2 : Nat))
  | [], _, _, h => by simp at h
  | a :: l, 0, q, h => by simp at h; subst h; exact ⟨rfl, rfl⟩
  | a :: l, i + 1, q, h => by
    have ih := paramCells_get (l := l) (i := i) (by simpa using h)
    have e : paramCells (a :: l) = .string (bs a.1) :: .int .i64 (a.2 : Nat) :: paramCells l := rfl
    rw [e, show (i + 1) * 2 = i * 2 + 1 + 1 by omega, List.getElem?_cons_succ, List.getElem?_cons_succ, show i * 2 + 1 + 1 + 1 = (i * 2 + 1) + 1 + 1 by omega, List.getElem?_cons_succ, List.getElem?_cons_succ]
    exact ih
section
variable {g : Nat} {nv fv : Value} {lvs pvs : List Value} {ns : List NodeM} {fs : List FuncM}
/-- A pointer to the writer, a function's copy, its parameters. -/
def FnK (g b line ret body : Nat) (name : ByteArray) (pv : Value) (ps : List (List UInt8 × Nat)) (w : World) : Prop := PtrK g b w ∧ Blk w (b + 1) 37 #[.string name, .int .i64 line, pv, .int .i64 ret, .int .i64 body] ∧ Own w 60 2 pv ps.length (paramCells ps)
theorem kept_fn (b line ret body : Nat) (name : ByteArray) (pv : Value) (ps : List (List UInt8 × Nat)) : KeptBy g (FnK g b line ret body name pv ps) := kept_and (kept_blk _ _ _ (by decide) (by decide)) (kept_and (kept_blk _ _ _ (by decide) (by decide)) (kept_own _ _ _ _ _ (by decide) (by decide)))
theorem FnK.fr {b line ret body : Nat} {name : ByteArray} {pv : Value} {ps : List (List UInt8 × Nat)} {w w' : World} (h : FnK g b line ret body name pv ps w) (f : Fr nob w w') : FnK g b line ret body name pv ps w' :=
  ⟨h.1.fr f (fun x => x), h.2.1.fr f (fun x => x), h.2.2.fr f (fun _ _ x => x)⟩
theorem FnK.cells {b line ret body : Nat} {name : ByteArray} {pv : Value} {ps : List (List UInt8 × Nat)} {w : World} (h : FnK g b line ret body name pv ps w) : w.cell? ⟨b, 0, none⟩ = some (.pointer (some ⟨g, 0, none⟩)) ∧ w.cell? ⟨b + 1, 0, none⟩ = some (.string name) ∧ w.cell? ⟨b + 1, 2, none⟩ = some pv ∧ w.cell? ⟨b + 1, 3, none⟩ = some (.int .i64 ret) ∧ w.cell? ⟨b + 1, 4, none⟩ = some (.int .i64 body) :=
  ⟨by simpa using h.1.cell 0, by simpa using h.2.1.cell 0, by simpa using h.2.1.cell 2, by simpa using h.2.1.cell 3, by simpa using h.2.1.cell 4⟩
theorem FnK.par {b line ret body pb pc : Nat} {name : ByteArray} {ps : List (List UInt8 × Nat)} {w : World} (h : FnK g b line ret body name (.slice (some ⟨pb, 0, none⟩) ps.length pc) ps w) {i : Nat} {q : List UInt8 × Nat} (hq : ps[i]? = some q) : w.cell? ⟨pb, i * 2, none⟩ = some (.string (bs q.1)) ∧ w.cell? ⟨pb, i * 2 + 1, none⟩ = some (.int .i64 (q.2 : Nat)) := by
  have hl := (List.getElem?_eq_some_iff.1 hq).1
  obtain ⟨pb', e, hc⟩ := h.2.2.some (by omega)
  injection e with e
  injection e with e
  subst e
  exact ⟨hc _ _ (paramCells_get hq).1, hc _ _ (paramCells_get hq).2⟩
set_option maxHeartbeats 2000000 in
set_option maxRecDepth 100000 in
theorem fclo_any {B line ret body : Nat} {name : ByteArray} {PA : Option Addr} {PC : Nat} {ps : List (List UInt8 × Nat)} {i : Nat} {q : List UInt8 × Nat} (hq : ps[i]? = some q) (hq2 : q.2 ≤ 4) {w : World} {out : List UInt8}
    (h : WK g nv fv lvs pvs ns fs (FnK g B line ret body name (.slice PA ps.length PC) ps) w w out) (hlen : out.length + (parT q).length ≤ 100000000) :
    Calls Tryd.prog 39 #[.int .i64 i, .pointer (some ⟨B, 0, none⟩), .pointer (some ⟨B + 1, 0, none⟩)] w fun e w' => e = .returned (.tuple #[]) ∧ WS g nv fv lvs pvs ns fs w w' (out ++ parT q) := by
  have hi := (List.getElem?_eq_some_iff.1 hq).1
  obtain ⟨pb, e, _⟩ := h.keep.2.2.some (by omega)
  subst e
  have hk := h.keep
  obtain ⟨p0, c0, c2, c3, c4⟩ := h.keep.cells
  obtain ⟨k0, k1⟩ := h.keep.par hq
  have hi2 : (i : Int) < (ps.length : Int) := by omega
  have hcap := h.keep.2.2.cap
  have hl4 : (ps.length : Int) ≤ 9223372036854775807 := by obtain ⟨A, c2, e, h1, h2⟩ := hcap; unfold maxLen at h2; omega
  have CK : ∀ (wa wb : World), Fr nob wa wb → wa.heap = w.heap → wb.cell? ⟨B, 0, none⟩ = some (.pointer (some ⟨g, 0, none⟩)) ∧ wb.cell? ⟨B + 1, 2, none⟩ = some (.slice (some ⟨pb, 0, none⟩) ps.length PC) ∧ wb.cell? ⟨pb, i * 2, none⟩ = some (.string (bs q.1)) ∧ wb.cell? ⟨pb, i * 2 + 1, none⟩ = some (.int .i64 (q.2 : Nat)) := fun wa wb hf he => by
    have h1 : FnK g B line ret body name (.slice (some ⟨pb, 0, none⟩) ps.length PC) ps wa := by
      obtain ⟨a1, a2, a3⟩ := hk
      refine ⟨by unfold PtrK Blk at *; rw [he]; exact a1, by unfold Blk at *; rw [he]; exact a2, ?_⟩
      unfold Own Blk at a3 ⊢; rw [he]; exact a3
    have h2 := h1.fr hf
    exact ⟨h2.cells.1, h2.cells.2.2.1, (h2.par hq).1, (h2.par hq).2⟩
  have HCK := hid CK
  have HQ := hid (And.intro hq hq2)
  have S0 := hid h
  have HL := hid hlen
  have HP := hid (show (parT q).length = q.1.length + 1 + (wordT q.2).length by simp [parT]; omega)
  clear h hlen hq hq2 hk hcap CK
  go_enter Tryd.func39, Tryd.ntmps39
  go_region_held3 (fun wx => wx.cell? ⟨B, 0, none⟩ = some (.pointer (some ⟨g, 0, none⟩)) ∧ wx.cell? ⟨B + 1, 2, none⟩ = some (.slice (some ⟨pb, 0, none⟩) ps.length PC) ∧ wx.cell? ⟨pb, i * 2, none⟩ = some (.string (bs q.1)) ∧ wx.cell? ⟨pb, i * 2 + 1, none⟩ = some (.int .i64 (q.2 : Nat))) (first | exact K3.out | exact K2.out | go_keep)
    (first
      | (go_at_call 40; go_loud (refine (wordT_any q.2 HQ.out.2 _).mono ?_); go_loud (rintro e w2 ⟨rfl, hf⟩); go_loud (have K2 := hid (HCK.out _ w2 hf rfl)); have F2 := hid hf; clear hf)
      | (go_at_call 37; go_loud (refine (wput3 (S0.out.here.no (((Fr.refl nob w).drew).tr F2.out)) rfl (bs q.1) ⟨#[32]⟩ (bs (wordT q.2)) (by have h5 := HL.out; have h6 := HP.out; rw [bs_size, bs_size]; show _ + _ + 1 + _ ≤ _; omega)).mono ?_); go_loud (rintro e w3 ⟨rfl, h3⟩); go_loud (have S3 := hid (S0.out.to h3)); go_loud (have K3 := hid (And.intro S3.out.keep.cells.1 (And.intro S3.out.keep.cells.2.2.1 (S3.out.keep.par HQ.out.1)))); clear h3))
  go_wp2_with fail
  first | refine bodyPost_end (results_none rfl _ _ _) rfl ⟨rfl, ?_⟩ | refine bodyPost_ret (results_none rfl _ _ _) rfl ⟨rfl, ?_⟩
  have := S3.out.st
  simpa [List.append_assoc, bs_list, parT] using this
set_option maxHeartbeats 2000000 in
set_option maxRecDepth 100000 in
/-- function writes one. -/
theorem fn_any (hok : NodesOk ns) {name : List UInt8} {line : Nat} {ps : List (List UInt8 × Nat)} {ret body : Nat} {pv : Value} (hb : Kid ns clsB body) (hret : ret ≤ 4) (hps : ∀ q ∈ ps, q.2 ≤ 4) (h3 : ps.length ≤ 3) {w0 w : World} {out : List UInt8} (h : WS g nv fv lvs pvs ns fs w0 w out)
    (ho : Own w 60 2 pv ps.length (paramCells ps)) (hlen : out.length + (fnT ns ⟨name, line, ps, ret, body⟩).length ≤ 100000000) :
    Calls Tryd.prog 20 #[.pointer (some ⟨g, 0, none⟩), .agg #[.string (bs name), .int .i64 line, pv, .int .i64 ret, .int .i64 body]] w fun e w' => e = .returned (.tuple #[]) ∧ WS g nv fv lvs pvs ns fs w0 w' (out ++ fnT ns ⟨name, line, ps, ret, body⟩) := by
  have eT : fnT ns ⟨name, line, ps, ret, body⟩ = ([102, 110, 32] ++ name) ++ ((40 :: (rowP (fun j => parT (ps.getD j ([], 0))) ps.length ++ [41])) ++ (wordT ret ++ txt ns body)) := by
    have e : rowP (fun j => parT (ps.getD j ([], 0))) ps.length = joinC (ps.map parT) := by
      rw [rowP_range]
      congr 1
      apply List.ext_getElem
      · simp
      · intro i h1 h2
        simp at h1 h2 ⊢
        simp [h2]
    rw [e]
    simp [fnT, List.append_assoc]
  rw [eT] at hlen ⊢
  have hlen2 : out.length + 3 + name.length + (rowP (fun j => parT (ps.getD j ([], 0))) ps.length).length + 2 + (wordT ret).length + (txt ns body).length ≤ 100000000 := by
    simp only [List.length_cons, List.length_append, List.length_nil] at hlen; omega
  obtain ⟨PA, PC, rfl, _, _⟩ := ho.cap
  have hp2 : (ps.length : Int) ≤ 3 := by omega
  have S0 := hid h
  have HO := hid ho
  have HK := hid hb
  have HBK := hid (stm_ok (g := g) (nv := nv) (fv := fv) (lvs := lvs) (pvs := pvs) (fs := fs) hok body).2
  have HR := hid hret
  have HPS := hid hps
  have HL := hid hlen2
  have H3 := hid h3
  clear h hlen hlen2 hok ho hb hret hps h3 eT
  go_enter Tryd.func20, Tryd.ntmps20
  go_wp2_with fail
  have S1 := hid (show WK g nv fv lvs pvs ns fs (FnK g w.heap.size line ret body (bs name) (.slice PA ps.length PC) ps) w0 ((w.alloc (.cells #[.pointer (some ⟨g, 0, none⟩)] 73)).alloc (.cells #[.string (bs name), .int .i64 line, .slice PA ps.length PC, .int .i64 ret, .int .i64 body] 37)) out from
    ⟨(S0.out.no ((Fr.refl nob w).alloc _)).no ((Fr.refl nob _).alloc _), ⟨(Blk.new w _ _).alloc _, Blk.new1 _ _ _ _, (HO.out.alloc _).alloc _⟩, kept_fn _ _ _ _ _ _ _⟩)
  have HSZ := hid (show ((w.alloc (.cells #[.pointer (some ⟨g, 0, none⟩)] 73)).alloc (.cells #[.string (bs name), .int .i64 line, .slice PA ps.length PC, .int .i64 ret, .int .i64 body] 37)).heap.size = w.heap.size + 1 + 1 by simp)
  clear HO S0
  generalize hB : w.heap.size = B at *
  clear hB
  generalize hw1 : (w.alloc (.cells #[.pointer (some ⟨g, 0, none⟩)] 73)).alloc (.cells #[.string (bs name), .int .i64 line, .slice PA ps.length PC, .int .i64 ret, .int .i64 body] 37) = w1 at *
  clear hw1
  refine (S1.out.step (wput2 S1.out.here HSZ.out ⟨#[102, 110, 32]⟩ (bs name) (by have h5 := HL.out; rw [bs_size]; show _ + 3 + _ ≤ _; omega))).mono ?_
  rintro e w2 ⟨rfl, h2⟩
  have S2 := hid h2
  clear h2
  obtain ⟨p0, c0, c2, c3, c4⟩ := S2.out.keep.cells
  have hmf : ∀ (fn : Fn) (first cap : Array Value) (w : World), (Instr.makeFunc fn first cap).run Tryd.prog w = .ok (.func fn first cap) w := fun _ _ _ _ => rfl
  go_wp2_with fail
  refine (row_any (enters_of Tryd.func39 (by kernel_rfl) rfl) B (B + 1) ps.length (by have := H3.out; omega) (fun j => parT (ps.getD j ([], 0))) (fun i hi w' out' h' hl' => by
    have hg : ps[i]? = some ps[i] := List.getElem?_eq_getElem hi
    have hd : ps.getD i ([], 0) = ps[i] := by rw [List.getD_eq_getElem?_getD, hg]; rfl
    have := fclo_any hg (HPS.out ps[i] (List.getElem_mem hi)) h' (by rw [hd] at hl'; exact hl')
    rw [hd]
    exact this) S2.out (by have h5 := HL.out; rw [List.length_append, List.length_append, bs_list]; show _ + (3 + _) + _ + 2 ≤ _; omega)).mono ?_
  rintro e w3 ⟨rfl, h3⟩
  have S3 := hid h3
  clear h3 p0 c0 c2 c3 c4 hmf
  obtain ⟨p0, c0, c2, c3, c4⟩ := S3.out.keep.cells
  have CK : ∀ (wa wb : World), Fr nob wa wb → wa.heap = w3.heap → wb.cell? ⟨B, 0, none⟩ = some (.pointer (some ⟨g, 0, none⟩)) ∧ wb.cell? ⟨B + 1, 3, none⟩ = some (.int .i64 (ret : Nat)) := fun wa wb hf he => by
    have h1 : Blk wa B 73 #[.pointer (some ⟨g, 0, none⟩)] := by unfold Blk; rw [he]; exact S3.out.keep.1
    have h2 : Blk wa (B + 1) 37 #[.string (bs name), .int .i64 line, .slice PA ps.length PC, .int .i64 ret, .int .i64 body] := by unfold Blk; rw [he]; exact S3.out.keep.2.1
    have h3 := (h1.fr hf (fun x => x)).cell 0
    have h4 := (h2.fr hf (fun x => x)).cell 3
    exact ⟨by simpa using h3, by simpa using h4⟩
  have HCK := hid CK
  clear CK
  go_wp2_with fail
  go_region_held3 (fun wx => wx.cell? ⟨B, 0, none⟩ = some (.pointer (some ⟨g, 0, none⟩)) ∧ wx.cell? ⟨B + 1, 3, none⟩ = some (.int .i64 (ret : Nat))) (first | exact K3.out | exact K2.out | go_keep)
    (first
      | (go_at_call 40; go_loud (refine (wordT_any ret HR.out _).mono ?_); go_loud (rintro e w4 ⟨rfl, hf⟩); go_loud (have K2 := hid (HCK.out _ w4 hf rfl)); have F2 := hid hf; clear hf)
      | (go_at_call 37; go_loud (refine (wput1 (S3.out.here.no (((Fr.refl nob w3).drew).tr F2.out)) rfl (bs (wordT ret)) (by have h5 := HL.out; rw [bs_size]; simp only [List.length_cons, List.length_append, List.length_nil, bs_list]; show _ + (3 + _) + _ + _ ≤ _; omega)).mono ?_); go_loud (rintro e w5 ⟨rfl, h5⟩); go_loud (have S5 := hid (S3.out.to h5)); go_loud (have K3 := hid (And.intro S5.out.keep.cells.1 S5.out.keep.cells.2.2.2.1)); clear h5))
  clear p0 c0 c2 c3 c4
  obtain ⟨p0, c0, c2, c3, c4⟩ := S5.out.keep.cells
  go_wp2_with fail
  refine (S5.out.step (HBK.out _ _ _ S5.out.here HK.out (by have h5 := HL.out; simp only [List.length_cons, List.length_append, List.length_nil, bs_list]; show _ + (3 + _) + _ + _ + _ ≤ _; omega))).mono ?_
  rintro e w6 ⟨rfl, h6⟩
  have S6 := hid h6
  clear h6
  go_wp2_with fail
  first | refine bodyPost_end (results_none rfl _ _ _) rfl ⟨rfl, ?_⟩ | refine bodyPost_ret (results_none rfl _ _ _) rfl ⟨rfl, ?_⟩
  have := S6.out.st
  simpa [List.append_assoc, bs_list] using this
end
end Go.Proofs.YtahhgnbiahomiaaDoor
/- Show: Text, Expr. -/
namespace Go.Proofs.YtahhgnbiahomiaaDoor
open Go.RowKit
set_option linter.unusedVariables false
set_option linter.unusedSimpArgs false
theorem flatG_take {α : Type} {f : α → List UInt8} {l : List α} {j : Nat} {a : α} (h : l[j]? = some a) : (l.take (j + 1)).flatMap f = (l.take j).flatMap f ++ f a := by
  rw [List.take_add_one, h, List.flatMap_append]
  simp
theorem flatG_lt {α : Type} {f : α → List UInt8} {l : List α} {j : Nat} {a : α} (h : l[j]? = some a) : ((l.take j).flatMap f).length + (f a).length ≤ (l.flatMap f).length := by
  have h1 : l.flatMap f = (l.take (j + 1)).flatMap f ++ (l.drop (j + 1)).flatMap f := by rw [← List.flatMap_append, List.take_append_drop]
  rw [h1, flatG_take h]
  simp
theorem fnCells_all : ∀ {fs : List FuncM} {vs : List Value} {j : Nat} {f : FuncM} {v : Value}, fs[j]? = some f → vs[j]? = some v → ∀ i u, (fnCell f v)[i]? = some u → (fnCells fs vs)[j * 5 + i]? = some u
  | [], _, _, _, _, h, _ => by simp at h
  | _ :: _, [], _, _, _, _, h => by simp at h
  | a :: fs, b :: vs, 0, f, v, h, h2 => by
    simp at h h2; subst h; subst h2
    intro i u hu
    rw [fnCells, List.getElem?_append_left (by have := (List.getElem?_eq_some_iff.1 hu).1; omega), Nat.zero_mul, Nat.zero_add]
    exact hu
  | a :: fs, b :: vs, j + 1, f, v, h, h2 => by
    intro i u hu
    have := fnCells_all (fs := fs) (vs := vs) (j := j) (by simpa using h) (by simpa using h2) i u hu
    rw [fnCells, List.getElem?_append_right (by simp [fnCell]; omega), show (fnCell a b).length = 5 from rfl, show (j + 1) * 5 + i - 5 = j * 5 + i by omega]
    exact this
/-- The numerals' table, laid. -/
def TabBase (w : World) : Prop := ∃ k, Tryd.prog.globalNamed "internal/strconv.uint64pow10" = some k ∧ k < w.heap.size ∧ Lib.TabIs Tryd.prog w "internal/strconv.uint64pow10" .u64 Lib.pow10Tab
theorem TabBase.fr {w w' : World} (h : TabBase w) (f : Fr nob w w') : TabBase w' := by
  obtain ⟨k, hk, hlt, ht⟩ := h
  have hs := f.size
  refine ⟨k, hk, by omega, ?_⟩
  unfold Lib.TabIs World.var? at *
  rw [hk] at ht ⊢
  simp only [Option.bind_some] at ht ⊢
  rw [f.block k hlt (fun x => x)]
  exact ht
section
variable {nv fv : Value} {lvs pvs : List Value} {ns : List NodeM} {fs : List FuncM}
theorem TreeAt.fn {B fb c : Nat} {w : World} (h : TreeAt B w nv (.slice (some ⟨fb, 0, none⟩) fs.length c) lvs pvs ns fs) {j : Nat} {f : FuncM} (hf : fs[j]? = some f) : ∃ pv, Own w 60 2 pv f.params.length (paramCells f.params) ∧
    w.cell? ⟨fb, j * 5, none⟩ = some (.string (bs f.name)) ∧ w.cell? ⟨fb, j * 5 + 1, none⟩ = some (.int .i64 f.line) ∧ w.cell? ⟨fb, j * 5 + 2, none⟩ = some pv ∧ w.cell? ⟨fb, j * 5 + 3, none⟩ = some (.int .i64 f.ret) ∧ w.cell? ⟨fb, j * 5 + 4, none⟩ = some (.int .i64 f.body) := by
  have hlt := (List.getElem?_eq_some_iff.1 hf).1
  obtain ⟨fb', e, hcell⟩ := h.fns.some (by omega)
  injection e with e
  injection e with e
  subst e
  obtain ⟨pv, hpv⟩ : ∃ pv, pvs[j]? = some pv := ⟨_, List.getElem?_eq_getElem (by have := h.samef; omega)⟩
  have key := fnCells_all hf hpv
  exact ⟨pv, h.pars.get hf hpv, hcell _ _ (key 0 _ rfl), hcell _ _ (key 1 _ rfl), hcell _ _ (key 2 _ rfl), hcell _ _ (key 3 _ rfl), hcell _ _ (key 4 _ rfl)⟩
/-- A writer begins. -/
theorem WS.start {w : World} (ht : TreeAt 0 w nv fv lvs pvs ns fs) (hb : TabBase w) (o : Obj) : WS (w.heap.size + 1) nv fv lvs pvs ns fs ((w.alloc o).alloc (.cells #[nv, fv, .pointer none, .slice none 0 0] 55)) ((w.alloc o).alloc (.cells #[nv, fv, .pointer none, .slice none 0 0] 55)) [] := by
  have f0 : Fr nob w ((w.alloc o).alloc (.cells #[nv, fv, .pointer none, .slice none 0 0] 55)) := ((Fr.refl nob w).alloc _).alloc _
  have hbk := Blk.new (w.alloc o) 55 #[nv, fv, .pointer none, .slice none 0 0]
  have hs : (w.alloc o).heap.size = w.heap.size + 1 := by simp
  rw [hs] at hbk
  obtain ⟨k, hk, hlt, htab⟩ := hb.fr f0
  obtain ⟨k2, hk2, hlt2, _⟩ := hb
  have e : k = k2 := by rw [hk] at hk2; exact Option.some.inj hk2
  refine ⟨⟨_, _, hbk, .inl rfl, ?_⟩, ⟨ht.nodes.fr f0 (fun _ _ x => x), ?_, ht.same, ht.fns.fr f0 (fun _ _ x => x), ht.pars.to f0 (fun _ _ _ x => x), ht.samef, ht.newn, ht.newf⟩, Fr.refl _ _, ⟨k, hk, by omega, by simp, htab⟩⟩
  · exact ⟨rfl, .inl ⟨rfl, rfl⟩⟩
  · exact ht.below.no f0
theorem back_nob {g : Nat} {w w2 w3 w4 : World} (h1 : Fr nob w w2) (h2 : FrW g w2 w3) (h3 : Fr (fun k => g < k) w3 w4) (hg : w.heap.size < g) : Fr nob w w4 := by
  have f1 : Fr nob w w3 := Fr.trans h1 h2 (fun _ _ x => x) (fun k hk hm => by rcases hm with e | ⟨e, _⟩ <;> omega)
  exact Fr.trans f1 h3 (fun _ _ x => x) (fun k hk hm => by omega)
set_option maxHeartbeats 2000000 in
set_option maxRecDepth 100000 in
/-- show.Text. -/
theorem text_any (hok : TreeOk ns fs) (hfew : TreeFew ns fs) {w : World} (ht : TreeAt 0 w nv fv lvs pvs ns fs) (hb : TabBase w) :
    Calls Tryd.prog 10 #[.agg #[nv, fv]] w fun e w' => e = .returned (.string (bs (showT ns fs))) ∧ Fr nob w w' := by
  obtain ⟨NA, NC, rfl, _, _⟩ := ht.nodes.cap
  obtain ⟨FA, FC, rfl, _, _⟩ := ht.fns.cap
  have hl2 : (fs.length : Int) ≤ 6 := by have := hok.fewf; omega
  have HLEN := hid (show_len hok hfew)
  have S0 := hid (WS.start ht hb (.cells #[.slice NA ns.length NC, .slice FA fs.length FC] 26))
  have HOK := hid hok
  have F0 := hid (show Fr nob w ((w.alloc (.cells #[.slice NA ns.length NC, .slice FA fs.length FC] 26)).alloc (.cells #[.slice NA ns.length NC, .slice FA fs.length FC, .pointer none, .slice none 0 0] 55)) from ((Fr.refl nob w).alloc _).alloc _)
  clear ht hb hok hfew
  go_enter Tryd.func10, Tryd.ntmps10
  go_wp2_with fail
  generalize hw1 : (w.alloc (.cells #[.slice NA ns.length NC, .slice FA fs.length FC] 26)).alloc (.cells #[.slice NA ns.length NC, .slice FA fs.length FC, .pointer none, .slice none 0 0] 55) = w1 at *
  clear hw1
  have HB0 := hid (show w.heap.size < w.heap.size + 1 by omega)
  go_loopw [11] (fun i wr => ∃ j : Nat, j ≤ fs.length ∧ i = .int .i64 j ∧ Hid (WS (w.heap.size + 1) (.slice NA ns.length NC) (.slice FA fs.length FC) lvs pvs ns fs w1 wr ((fs.take j).flatMap (fnT ns)))) (fun i _ => fs.length - (intOf i).toNat)
  case atStart => exact ⟨0, Nat.zero_le _, rfl, hid S0.out⟩
  case round =>
    obtain ⟨j, hj, rfl, S⟩ := hrel
    by_cases hlt : j < fs.length
    · have hlt2 : (j : Int) < (fs.length : Int) := by omega
      obtain ⟨f, hf⟩ : ∃ f, fs[j]? = some f := ⟨_, List.getElem?_eq_getElem hlt⟩
      obtain ⟨fb, e, _⟩ := S.out.tree.fns.some (by omega)
      subst e
      obtain ⟨pv, hp, x0, x1, x2, x3, x4⟩ := S.out.tree.fn hf
      have hfm := List.mem_of_getElem? hf
      have HT := hid (And.intro (HOK.out.bodies f hfm) (And.intro (HOK.out.pars f hfm) (HOK.out.types f hfm)))
      have HF := hid (flatG_lt (f := fnT ns) hf)
      have HTK := hid (flatG_take (f := fnT ns) hf)
      obtain ⟨name, line, ps, ret, body⟩ := f
      dsimp only at x0 x1 x2 x3 x4 hp
      obtain ⟨PA, PC, rfl, _, _⟩ := hp.cap
      have HP := hid hp
      clear hf hfm hp
      go_wp2_with fail
      have HC := hid (fn_any (name := name) (line := line) (ps := ps) (ret := ret) (body := body) HOK.out.nodes HT.out.1 HT.out.2.2.1 HT.out.2.2.2 HT.out.2.1 (S.out.no ((Fr.refl nob wr).alloc (.cells #[.string (bs name), .int .i64 line, .slice PA ps.length PC, .int .i64 ret, .int .i64 body] 37))) (HP.out.alloc _) (by have h5 := HF.out; have h6 := HLEN.out; unfold showT at h6; omega))
      refine HC.out.mono ?_
      rintro e w3 ⟨rfl, h3⟩
      have S3 := hid h3
      clear h3 x0 x1 x2 x3 x4
      go_wp2_with fail
      go_roundw
      case rel => exact ⟨j + 1, by omega, by go_num, hid (by rw [HTK.out]; exact S3.out)⟩
      case measure => simp [intOf]; omega
    · have hle : (fs.length : Int) ≤ (j : Int) := by omega
      have htk := hid (List.take_of_length_le (show fs.length ≤ j by omega))
      have HX := hid (wtext_any S.out)
      rw [htk.out] at HX
      go_wp2_with fail
      refine HX.out.mono ?_
      rintro e w3 ⟨rfl, h3⟩
      have F3 := hid h3
      clear h3
      go_wp2_with fail
      go_ret
      exact ⟨rfl, back_nob F0.out S.out.fr F3.out HB0.out⟩
set_option maxHeartbeats 2000000 in
set_option maxRecDepth 100000 in
/-- show.Expr. -/
theorem exprs_any (hok : NodesOk ns) {x : Nat} (hk : Kid ns clsR x) (hlen : (txt ns x).length ≤ 100000000) {w : World} (ht : TreeAt 0 w nv fv lvs pvs ns fs) (hb : TabBase w) :
    Calls Tryd.prog 14 #[.agg #[nv, fv], .int .i64 x] w fun e w' => e = .returned (.string (bs (txt ns x))) ∧ Fr nob w w' := by
  obtain ⟨NA, NC, rfl, _, _⟩ := ht.nodes.cap
  obtain ⟨FA, FC, rfl, _, _⟩ := ht.fns.cap
  have HLEN := hid hlen
  have S0 := hid (WS.start ht hb (.cells #[.slice NA ns.length NC, .slice FA fs.length FC] 26))
  have HOK := hid hok
  have HK := hid hk
  have F0 := hid (show Fr nob w ((w.alloc (.cells #[.slice NA ns.length NC, .slice FA fs.length FC] 26)).alloc (.cells #[.slice NA ns.length NC, .slice FA fs.length FC, .pointer none, .slice none 0 0] 55)) from ((Fr.refl nob w).alloc _).alloc _)
  clear ht hb hok hlen hk
  go_enter Tryd.func14, Tryd.ntmps14
  go_wp2_with fail
  generalize hw1 : (w.alloc (.cells #[.slice NA ns.length NC, .slice FA fs.length FC] 26)).alloc (.cells #[.slice NA ns.length NC, .slice FA fs.length FC, .pointer none, .slice none 0 0] 55) = w1 at *
  clear hw1
  have HB0 := hid (show w.heap.size < w.heap.size + 1 by omega)
  refine (expr_ok HOK.out x _ _ _ S0.out HK.out (by have := HLEN.out; simp; omega)).mono ?_
  rintro e w2 ⟨rfl, h2⟩
  have S2 := hid h2
  clear h2
  go_wp2_with fail
  refine (wtext_any S2.out).mono ?_
  rintro e w3 ⟨rfl, h3⟩
  have F3 := hid h3
  clear h3
  go_wp2_with fail
  go_ret
  exact ⟨rfl, back_nob F0.out S2.out.fr F3.out HB0.out⟩
end
end Go.Proofs.YtahhgnbiahomiaaDoor
/- Show: the document's example, short. -/
namespace Go.Proofs.YtahhgnbiahomiaaDoor
open Go.RowKit
set_option linter.unusedVariables false
set_option linter.unusedSimpArgs false
def exSrc : List UInt8 := [102, 110, 32, 109, 97, 105, 110, 40, 41, 32, 123, 32, 112, 114, 105, 110, 116, 32, 40, 49, 43, 50, 41, 32, 42, 32, 51, 59, 32, 125]
def exNs : List NodeM := [⟨1, 1, 1, [], []⟩, ⟨1, 1, 2, [], []⟩, ⟨9, 1, 0, [43], [0, 1]⟩, ⟨1, 1, 3, [], []⟩, ⟨9, 1, 0, [42], [2, 3]⟩, ⟨14, 1, 0, [], [4]⟩, ⟨18, 1, 0, [], [5]⟩]
def exFs : List FuncM := [⟨[109, 97, 105, 110], 1, [], 0, 6⟩]
def exOut : List UInt8 := [102, 110, 32, 109, 97, 105, 110, 40, 41, 123, 10, 112, 114, 105, 110, 116, 32, 40, 49, 43, 50, 41, 42, 51, 59, 10, 125, 10]
theorem ex_parse : parseM exSrc = some (.good exNs exFs) := by kernel_rfl
theorem ex_eq : ((bs exOut).toList == [102, 110, 32, 109, 97, 105, 110, 40, 41, 123, 10, 112, 114, 105, 110, 116, 32, 40, 49, 43, 50, 41, 42, 51, 59, 10, 125, 10]) = true := by kernel_rfl
theorem ex_show : showT exNs exFs = exOut := by kernel_rfl
theorem TreeAt.zero {B : Nat} {w : World} {nv fv : Value} {lvs pvs : List Value} {ns : List NodeM} {fs : List FuncM} (h : TreeAt B w nv fv lvs pvs ns fs) : TreeAt 0 w nv fv lvs pvs ns fs :=
  ⟨h.nodes, h.below, h.same, h.fns, h.pars, h.samef, fun _ _ => Nat.zero_le _, fun _ _ => Nat.zero_le _⟩
set_option maxHeartbeats 2000000 in
set_option maxRecDepth 100000 in
theorem shown_any (w : World) (hb : TabBase w) : Calls Tryd.prog 7 #[] w fun e w' => e = .returned (.bool true) ∧ Fr nob w w' := by
  have HP := hid (pall_any ⟨#[102, 110, 32, 109, 97, 105, 110, 40, 41, 32, 123, 32, 112, 114, 105, 110, 116, 32, 40, 49, 43, 50, 41, 32, 42, 32, 51, 59, 32, 125]⟩ w (by decide) (r := .good exNs exFs) ex_parse)
  have HB := hid hb
  have HS := hid ex_show
  clear hb
  go_enter Tryd.func7, Tryd.ntmps7
  go_wp2_with fail
  refine HP.out.mono ?_
  rintro e w1 ⟨⟨nv, fv, lvs, pvs, rfl, ht⟩, hf⟩
  obtain ⟨NA, NC, rfl, _, _⟩ := ht.nodes.cap
  obtain ⟨FA, FC, rfl, _, _⟩ := ht.fns.cap
  have T1 := hid ht.zero
  have F1 := hid hf
  clear ht hf
  go_wp2_with fail
  have T2 := hid (show TreeAt 0 (w1.alloc (.cells #[.slice NA exNs.length NC, .slice FA exFs.length FC] 26)) (.slice NA exNs.length NC) (.slice FA exFs.length FC) lvs pvs exNs exFs from by
    have f0 : Fr nob w1 (w1.alloc (.cells #[.slice NA exNs.length NC, .slice FA exFs.length FC] 26)) := (Fr.refl nob w1).alloc _
    have h := T1.out
    exact ⟨h.nodes.fr f0 (fun _ _ x => x), h.below.no f0, h.same, h.fns.fr f0 (fun _ _ x => x), h.pars.to f0 (fun _ _ _ x => x), h.samef, h.newn, h.newf⟩)
  have HTX := hid (text_any (parse_ok ex_parse) (parse_few ex_parse) T2.out ((HB.out.fr F1.out).fr ((Fr.refl nob w1).alloc _)))
  refine HTX.out.mono ?_
  rintro e w2 ⟨rfl, hf⟩
  have F2 := hid hf
  clear hf
  rw [HS.out]
  have HEQ := ex_eq
  go_wp2_with fail
  go_ret
  exact ⟨rfl, (F1.out.tr ((Fr.refl nob w1).alloc _)).tr F2.out⟩
theorem ext_take7 (s : ByteArray) : s.extract 0 700 = bs (s.data.toList.take 700) := by
  have h : (s.extract 0 700).data.toList = s.data.toList.take 700 := by rw [Lib.extract_data]; simp
  rw [← h]
  show s.extract 0 700 = ⟨(s.extract 0 700).data.toList.toArray⟩
  rw [Array.toArray_toList]
theorem short_any (s : ByteArray) (w : World) : Calls Tryd.prog 9 #[.string s] w fun e w' => e = .returned (.string (bs (s.data.toList.take 700))) ∧ w' = w := by
  by_cases h : s.size ≤ 700
  · have e : bs (s.data.toList.take 700) = s := by
      rw [List.take_of_length_le (by simpa using h)]
      show (⟨s.data.toList.toArray⟩ : ByteArray) = s
      simp
    rw [e]
    clear e
    go_enter Tryd.func9, Tryd.ntmps9
    go_wp2
    go_ret
    exact ⟨rfl, rfl⟩
  · have h2 : 700 < s.size := by omega
    go_enter Tryd.func9, Tryd.ntmps9
    go_wp2
    go_ret
    refine ⟨?_, rfl⟩
    rw [← ext_take7 s]
    rfl
end Go.Proofs.YtahhgnbiahomiaaDoor
/- What the rows' listed variables give the walks. -/
namespace Go.Proofs.YtahhgnbiahomiaaDoor
open Go.ChangeShapes Go.WideShapes Go.ChangeAt Go.RowKit
set_option maxRecDepth 100000

theorem ownK : ownKnob Tryd.prog.godebug = none := by kernel_rfl
theorem base_of {W : World} (h : laidMetH Tryd.prog Rows.showLinesRow.laid W) : TabBase W := by
  rw [MakeChecks.laidMetH_plain _ _ _ (by kernel_rfl)] at h
  obtain ⟨ps, h, _, _⟩ := h
  obtain ⟨_, _, _, _, _, _, _, _, _, _, ⟨_, _, _, _, _, _, _, _, _, _, ⟨g, t, cs, f, p, q, hg, ht, hv, hd, _⟩, _⟩, _⟩ := h
  obtain rfl := Option.some.inj ((show Tryd.prog.globalNamed "internal/strconv.uint64pow10" = some 0 by kernel_rfl).symm.trans hg)
  obtain rfl := Option.some.inj ((show (Tryd.prog.globals[0]?).map (·.type) = some 103 by kernel_rfl).symm.trans ht)
  have hd2 : DataW.trod _ Tryd.prog W _ _ _ f 103 cs.toList = some (Lib.tabData .u64 Lib.pow10Tab, _) := hd
  have hc := Lib.cells_of_tab (n := 20) (e := 95) Tryd.underlying103 Tryd.underlying95 (by kernel_rfl) (by kernel_rfl) hd2
  refine ⟨0, by kernel_rfl, ?_, ?_⟩
  · unfold World.var? at hv
    rw [hg] at hv
    simp only [Option.bind_some] at hv
    by_cases hlt : 0 < W.heap.size
    · exact hlt
    · rw [Array.getElem?_eq_none (by omega)] at hv; simp at hv
  · unfold Lib.TabIs
    rw [hv, ← hc]
/-- The wrap that hands on both: what the listed variables hold, and the world's shape. -/
theorem wrap_laid_shaped {H : Type} {enc : TypeId × Value → H} {a : Assume} {C : Checked} {os : Os} {f : FuncId} {fn : Func} {s : ChangeSpec} {conds : List PathCond} {apart fresh handsOn again : Bool} {X : World → Array Value → Prop}
    (hX : ∀ (w w' : World) (args : Array Value), w.heap = w'.heap → X w args → X w' args)
    (own : ownKnob C.prog.godebug = none) (started : os.Started) (noInit : C.prog.inits.idxOf? f = none) (hfn : C.prog.funcs[f]? = some fn)
    (witness : ∃ (w : World) (tape : Tape) (i : Input), w.os = os ∧ (w.forCall tape i).Shaped C.prog ∧ i.vars = [] ∧ Input.okWide C.prog (w.forCall tape i) .any w.heap.size f i ∧
      ((s.pre enc C.prog fn conds apart (w.forCall tape i).memory i.args ∧ X (w.forCall tape i).memory i.args) ∧ sizedMet enc C.prog fn (OpenSpec.ofChange s) apart (w.forCall tape i).memory i.args) ∧ a.holds C.prog (lone (Frame.enter C.prog f i.args .normal) [] (w.forCall tape i)))
    (contract : ∀ (W : World) (base : Nat) (args : Array Value) (ds gs : List (DataW H)) (before : List MemPlace),
      (∀ (j : Nat) t v, fn.params[j]? = some t → args[j]? = some v → Value.okWide C.prog W .any base t v) →
      DataW.Whole enc C.prog fn.params.toList s.vars apart W args.toList ds gs before →
      (DataW.weightsEach C.prog (fn.params.toList ++ s.plain.varTypes C.prog) (ds ++ gs)).all (· ≤ reachBytes) = true → X W args → W.ShapedOpen C.prog →
      Calls C.prog f args W fun e W' => ∃ v, e = .returned v ∧ s.post enc C.prog fn apart fresh handsOn again W args v W') :
    ReturnsInHanded a C os f .any (fun w args => (s.pre enc C.prog fn conds apart w args ∧ X w args) ∧ sizedMet enc C.prog fn (OpenSpec.ofChange s) apart w args) (s.post enc C.prog fn apart fresh handsOn again) := by
  refine returnsInHanded_of_calls own started noInit witness ?_
  intro w tape i _ hsh _ hok hpre _
  obtain ⟨_, _, _, fn', hfn', _, _, _, _, hval⟩ := hok
  obtain rfl : fn' = fn := Option.some.inj (hfn'.symm.trans hfn)
  obtain ⟨⟨⟨ds, gs, before, hw, _⟩, hx⟩, hz⟩ := hpre
  refine (contract (w.forCall tape i) w.heap.size i.args ds gs before hval (DataW.Whole.of_heap (w' := w.forCall tape i) (by rfl) hw) (hz.weights hw) (hX _ _ _ (by rfl) hx) hsh).mono fun e W' ⟨v, he, hp⟩ => ?_
  subst he
  exact ChangeSpec.post_blind hp
theorem base_shaped {W : World} (h : laidMetH Tryd.prog Rows.showLinesRow.laid W) (_hs : W.ShapedOpen Tryd.prog) : TabBase W := base_of h
end Go.Proofs.YtahhgnbiahomiaaDoor
