/- MI: WRef, WRefA, ShV, WRefE, WRefF, WRefG, WRefH, WRefI. -/
import Derived.Test.YtahhgnbiahomiaaDoorMH
import Derived.Test.YtahhgnbiahomiaaDoorMF
/- Show: the reference: Level, at. Printed by wip/tools/mkref.py. -/
namespace Go.Proofs.YtahhgnbiahomiaaDoor
open Go.RowKit
set_option linter.unusedVariables false
set_option linter.unusedSimpArgs false
set_option maxHeartbeats 4000000 in
set_option maxRecDepth 100000 in
theorem rlevel_any (nd : NodeM) (lv : Value) (hs : nd.kind = 9 → nd.name ∈ allSigns) (A : Option Addr) (n c : Nat) (hlv : lv = .slice A n c) (w : World) :
    Calls Tryd.prog 13 #[.agg #[.int .i64 nd.kind, .int .i64 nd.line, .int .i64 nd.n, .string (bs nd.name), lv]] w fun e w' => e = .returned (.int .i64 (levN nd)) ∧ Fr nob w w' := by
  subst hlv
  unfold levN
  have hN := World.new_ne
  by_cases h7 : nd.kind = 7
  · have e1 : ((nd.kind : Int) == 7) = true := by rw [h7]; rfl
    rw [if_pos (.inl h7)]
    clear h7 hs
    go_enter Tryd.func13, Tryd.ntmps13
    go_wp2
    go_ret
    exact ⟨rfl, (Fr.refl nob w).alloc _⟩
  · by_cases h8 : nd.kind = 8
    · have e1 : ((nd.kind : Int) == 7) = false := beq_eq_false_iff_ne.2 (by omega)
      have e2 : ((nd.kind : Int) == 8) = true := by rw [h8]; rfl
      rw [if_pos (.inr h8)]
      clear h7 h8 hs
      go_enter Tryd.func13, Tryd.ntmps13
      go_wp2
      go_ret
      exact ⟨rfl, (Fr.refl nob w).alloc _⟩
    · have e1 : ((nd.kind : Int) == 7) = false := beq_eq_false_iff_ne.2 (by omega)
      have e2 : ((nd.kind : Int) == 8) = false := beq_eq_false_iff_ne.2 (by omega)
      rw [if_neg (by omega)]
      by_cases h9 : nd.kind = 9
      · have e3 : ((nd.kind : Int) == 9) = true := by rw [h9]; rfl
        have e4 : ((nd.kind : Int) != 9) = false := by unfold bne; rw [e3]; rfl
        rw [if_pos h9]
        have hm := hs h9
        clear h7 h8 h9 hs
        obtain ⟨kind, line, nn, name, l⟩ := nd
        dsimp only at *
        simp only [allSigns, List.mem_cons, List.not_mem_nil, or_false] at hm
        rcases hm with rfl | rfl | rfl | rfl | rfl | rfl | rfl | rfl | rfl | rfl | rfl
        · have q0 : ((bs [124, 124]).toList == [124, 124]) = true := by kernel_rfl
          rw [show signLv [124, 124] = 0 from rfl]
          generalize bs [124, 124] = nmv at *
          go_enter Tryd.func13, Tryd.ntmps13
          go_wp2
          go_ret
          exact ⟨rfl, (Fr.refl nob w).alloc _⟩
        · have q0 : ((bs [38, 38]).toList == [124, 124]) = false := by kernel_rfl
          have q1 : ((bs [38, 38]).toList == [38, 38]) = true := by kernel_rfl
          rw [show signLv [38, 38] = 1 from rfl]
          generalize bs [38, 38] = nmv at *
          go_enter Tryd.func13, Tryd.ntmps13
          go_wp2
          go_ret
          exact ⟨rfl, (Fr.refl nob w).alloc _⟩
        · have q0 : ((bs [60]).toList == [124, 124]) = false := by kernel_rfl
          have q1 : ((bs [60]).toList == [38, 38]) = false := by kernel_rfl
          have q2 : ((bs [60]).toList == [60]) = true := by kernel_rfl
          rw [show signLv [60] = 2 from rfl]
          generalize bs [60] = nmv at *
          go_enter Tryd.func13, Tryd.ntmps13
          go_wp2
          go_ret
          exact ⟨rfl, (Fr.refl nob w).alloc _⟩
        · have q0 : ((bs [60, 61]).toList == [124, 124]) = false := by kernel_rfl
          have q1 : ((bs [60, 61]).toList == [38, 38]) = false := by kernel_rfl
          have q2 : ((bs [60, 61]).toList == [60]) = false := by kernel_rfl
          have q3 : ((bs [60, 61]).toList == [60, 61]) = true := by kernel_rfl
          rw [show signLv [60, 61] = 2 from rfl]
          generalize bs [60, 61] = nmv at *
          go_enter Tryd.func13, Tryd.ntmps13
          go_wp2
          go_ret
          exact ⟨rfl, (Fr.refl nob w).alloc _⟩
        · have q0 : ((bs [61, 61]).toList == [124, 124]) = false := by kernel_rfl
          have q1 : ((bs [61, 61]).toList == [38, 38]) = false := by kernel_rfl
          have q2 : ((bs [61, 61]).toList == [60]) = false := by kernel_rfl
          have q3 : ((bs [61, 61]).toList == [60, 61]) = false := by kernel_rfl
          have q4 : ((bs [61, 61]).toList == [61, 61]) = true := by kernel_rfl
          rw [show signLv [61, 61] = 2 from rfl]
          generalize bs [61, 61] = nmv at *
          go_enter Tryd.func13, Tryd.ntmps13
          go_wp2
          go_ret
          exact ⟨rfl, (Fr.refl nob w).alloc _⟩
        · have q0 : ((bs [33, 61]).toList == [124, 124]) = false := by kernel_rfl
          have q1 : ((bs [33, 61]).toList == [38, 38]) = false := by kernel_rfl
          have q2 : ((bs [33, 61]).toList == [60]) = false := by kernel_rfl
          have q3 : ((bs [33, 61]).toList == [60, 61]) = false := by kernel_rfl
          have q4 : ((bs [33, 61]).toList == [61, 61]) = false := by kernel_rfl
          have q5 : ((bs [33, 61]).toList == [33, 61]) = true := by kernel_rfl
          rw [show signLv [33, 61] = 2 from rfl]
          generalize bs [33, 61] = nmv at *
          go_enter Tryd.func13, Tryd.ntmps13
          go_wp2
          go_ret
          exact ⟨rfl, (Fr.refl nob w).alloc _⟩
        · have q0 : ((bs [43]).toList == [124, 124]) = false := by kernel_rfl
          have q1 : ((bs [43]).toList == [38, 38]) = false := by kernel_rfl
          have q2 : ((bs [43]).toList == [60]) = false := by kernel_rfl
          have q3 : ((bs [43]).toList == [60, 61]) = false := by kernel_rfl
          have q4 : ((bs [43]).toList == [61, 61]) = false := by kernel_rfl
          have q5 : ((bs [43]).toList == [33, 61]) = false := by kernel_rfl
          have q6 : ((bs [43]).toList == [43]) = true := by kernel_rfl
          rw [show signLv [43] = 3 from rfl]
          generalize bs [43] = nmv at *
          go_enter Tryd.func13, Tryd.ntmps13
          go_wp2
          go_ret
          exact ⟨rfl, (Fr.refl nob w).alloc _⟩
        · have q0 : ((bs [45]).toList == [124, 124]) = false := by kernel_rfl
          have q1 : ((bs [45]).toList == [38, 38]) = false := by kernel_rfl
          have q2 : ((bs [45]).toList == [60]) = false := by kernel_rfl
          have q3 : ((bs [45]).toList == [60, 61]) = false := by kernel_rfl
          have q4 : ((bs [45]).toList == [61, 61]) = false := by kernel_rfl
          have q5 : ((bs [45]).toList == [33, 61]) = false := by kernel_rfl
          have q6 : ((bs [45]).toList == [43]) = false := by kernel_rfl
          have q7 : ((bs [45]).toList == [45]) = true := by kernel_rfl
          rw [show signLv [45] = 3 from rfl]
          generalize bs [45] = nmv at *
          go_enter Tryd.func13, Tryd.ntmps13
          go_wp2
          go_ret
          exact ⟨rfl, (Fr.refl nob w).alloc _⟩
        · have q0 : ((bs [42]).toList == [124, 124]) = false := by kernel_rfl
          have q1 : ((bs [42]).toList == [38, 38]) = false := by kernel_rfl
          have q2 : ((bs [42]).toList == [60]) = false := by kernel_rfl
          have q3 : ((bs [42]).toList == [60, 61]) = false := by kernel_rfl
          have q4 : ((bs [42]).toList == [61, 61]) = false := by kernel_rfl
          have q5 : ((bs [42]).toList == [33, 61]) = false := by kernel_rfl
          have q6 : ((bs [42]).toList == [43]) = false := by kernel_rfl
          have q7 : ((bs [42]).toList == [45]) = false := by kernel_rfl
          rw [show signLv [42] = 4 from rfl]
          generalize bs [42] = nmv at *
          go_enter Tryd.func13, Tryd.ntmps13
          go_wp2
          go_ret
          exact ⟨rfl, (Fr.refl nob w).alloc _⟩
        · have q0 : ((bs [47]).toList == [124, 124]) = false := by kernel_rfl
          have q1 : ((bs [47]).toList == [38, 38]) = false := by kernel_rfl
          have q2 : ((bs [47]).toList == [60]) = false := by kernel_rfl
          have q3 : ((bs [47]).toList == [60, 61]) = false := by kernel_rfl
          have q4 : ((bs [47]).toList == [61, 61]) = false := by kernel_rfl
          have q5 : ((bs [47]).toList == [33, 61]) = false := by kernel_rfl
          have q6 : ((bs [47]).toList == [43]) = false := by kernel_rfl
          have q7 : ((bs [47]).toList == [45]) = false := by kernel_rfl
          rw [show signLv [47] = 4 from rfl]
          generalize bs [47] = nmv at *
          go_enter Tryd.func13, Tryd.ntmps13
          go_wp2
          go_ret
          exact ⟨rfl, (Fr.refl nob w).alloc _⟩
        · have q0 : ((bs [37]).toList == [124, 124]) = false := by kernel_rfl
          have q1 : ((bs [37]).toList == [38, 38]) = false := by kernel_rfl
          have q2 : ((bs [37]).toList == [60]) = false := by kernel_rfl
          have q3 : ((bs [37]).toList == [60, 61]) = false := by kernel_rfl
          have q4 : ((bs [37]).toList == [61, 61]) = false := by kernel_rfl
          have q5 : ((bs [37]).toList == [33, 61]) = false := by kernel_rfl
          have q6 : ((bs [37]).toList == [43]) = false := by kernel_rfl
          have q7 : ((bs [37]).toList == [45]) = false := by kernel_rfl
          rw [show signLv [37] = 4 from rfl]
          generalize bs [37] = nmv at *
          go_enter Tryd.func13, Tryd.ntmps13
          go_wp2
          go_ret
          exact ⟨rfl, (Fr.refl nob w).alloc _⟩
      · have e3 : ((nd.kind : Int) == 9) = false := beq_eq_false_iff_ne.2 (by omega)
        have e4 : ((nd.kind : Int) != 9) = true := by unfold bne; rw [e3]; rfl
        rw [if_neg h9]
        clear h7 h8 h9 hs
        go_enter Tryd.func13, Tryd.ntmps13
        go_wp2
        go_ret
        exact ⟨rfl, (Fr.refl nob w).alloc _⟩
end Go.Proofs.YtahhgnbiahomiaaDoor
/- Show: the reference: at. -/
namespace Go.Proofs.YtahhgnbiahomiaaDoor
open Go.RowKit
set_option linter.unusedVariables false
set_option linter.unusedSimpArgs false
/-- What the reference reads. -/
structure RS (nv fv : Value) (lvs pvs : List Value) (ns : List NodeM) (fs : List FuncM) (w : World) : Prop where
  tree : TreeAt 0 w nv fv lvs pvs ns fs
  tab : TabBase w
section
variable {nv fv : Value} {lvs pvs : List Value} {ns : List NodeM} {fs : List FuncM} {w w' : World}
theorem TreeAt.no (h : TreeAt 0 w nv fv lvs pvs ns fs) (f : Fr nob w w') : TreeAt 0 w' nv fv lvs pvs ns fs :=
  ⟨h.nodes.fr f (fun _ _ x => x), h.below.no f, h.same, h.fns.fr f (fun _ _ x => x), h.pars.to f (fun _ _ _ x => x), h.samef, h.newn, h.newf⟩
theorem RS.no (h : RS nv fv lvs pvs ns fs w) (f : Fr nob w w') : RS nv fv lvs pvs ns fs w' := ⟨h.tree.no f, h.tab.fr f⟩
theorem TreeAt.node3 {B nb c : Nat} {fv : Value} (h : TreeAt B w (.slice (some ⟨nb, 0, none⟩) ns.length c) fv lvs pvs ns fs) {x : Nat} {nd : NodeM} (hx : ns[x]? = some nd) {lv : Value} (hlv : lvs[x]? = some lv) : Own w 3 1 lv nd.l.length (ints nd.l) ∧
    w.cell? ⟨nb, x * 5, none⟩ = some (.int .i64 nd.kind) ∧ w.cell? ⟨nb, x * 5 + 1, none⟩ = some (.int .i64 nd.line) ∧ w.cell? ⟨nb, x * 5 + 2, none⟩ = some (.int .i64 nd.n) ∧ w.cell? ⟨nb, x * 5 + 3, none⟩ = some (.string (bs nd.name)) ∧ w.cell? ⟨nb, x * 5 + 4, none⟩ = some lv := by
  have hlt := (List.getElem?_eq_some_iff.1 hx).1
  obtain ⟨nb', e, hcell⟩ := h.nodes.some (by omega)
  injection e with e
  injection e with e
  subst e
  have key := nodesCells_get hx hlv
  exact ⟨h.below.get hx hlv, hcell _ _ (key 0 _ rfl), hcell _ _ (key 1 _ rfl), hcell _ _ (key 2 _ rfl), hcell _ _ (key 3 _ rfl), hcell _ _ (key 4 _ rfl)⟩
/-- The reference's Expr shows a node. -/
def RexprOk (nv fv : Value) (lvs pvs : List Value) (ns : List NodeM) (fs : List FuncM) (x : Nat) : Prop :=
  ∀ (w : World), RS nv fv lvs pvs ns fs w → Kid ns clsR x → (txt ns x).length ≤ 100000000 →
    Calls Tryd.prog 15 #[.agg #[nv, fv], .int .i64 x] w fun e w' => e = .returned (.string (bs (txt ns x))) ∧ Fr nob w w'
set_option maxHeartbeats 2000000 in
set_option maxRecDepth 100000 in
theorem rat_any (hok : NodesOk ns) {x : Nat} (hx : RexprOk nv fv lvs pvs ns fs x) (hk : Kid ns clsR x) (lv : Nat) (hlv : lv ≤ 10) (h : RS nv fv lvs pvs ns fs w) (hlen : (atT (shV ns x) lv).length ≤ 100000000) :
    Calls Tryd.prog 26 #[.agg #[nv, fv], .int .i64 x, .int .i64 lv] w fun e w' => e = .returned (.string (bs (atT (shV ns x) lv))) ∧ Fr nob w w' := by
  obtain ⟨nd, hnd⟩ : ∃ nd, ns[x]? = some nd := ⟨_, List.getElem?_eq_getElem hk.lt⟩
  have hlt := hk.lt
  obtain ⟨nb, c, kv, rfl, hkl⟩ := h.tree.row hnd
  obtain ⟨FA, FC, rfl, _, _⟩ := h.tree.fns.cap
  obtain ⟨KA, KC, rfl, _, _⟩ := (h.tree.node3 hnd hkl).1.cap
  have hlev := shV_lev hnd
  have HLV := hid (fun w' => rlevel_any nd (.slice KA nd.l.length KC) (fun h9 => sign_of (hok x nd hnd) h9) KA _ KC rfl w')
  have hx3 : (x : Int) < (ns.length : Int) := by omega
  have hx4 : (ns.length : Int) ≤ 9223372036854775807 := by have := h.tree.nodes.cap; obtain ⟨A, c2, e, h1, h2⟩ := this; unfold maxLen at h2; omega
  have eT : atT (shV ns x) lv = if levN nd < lv then 40 :: (txt ns x ++ [41]) else txt ns x := by unfold atT; rw [hlev]; rfl
  rw [eT] at hlen ⊢
  have hl2 : (lv : Int) ≤ 10 := by omega
  have hll : levN nd ≤ 6 := by
    unfold levN; split
    · omega
    · split
      · unfold signLv; (repeat' split) <;> omega
      · omega
  have S0 := hid h
  have HX := hid hx
  have HK := hid hk
  have HN := hid (And.intro hnd hkl)
  generalize hL : levN nd = L at *
  have hlx : (txt ns x).length + 2 ≤ 100000002 := by
    split at hlen
    · simp only [List.length_cons, List.length_append, List.length_nil] at hlen; omega
    · omega
  have HLX := hid hlx
  clear h hx hk hlen hnd hlev eT hlv hlt hok hL hkl hlx
  have S1 := hid (S0.out.no ((Fr.refl nob w).alloc (.cells #[.slice (some ⟨nb, 0, none⟩) ns.length c, .slice FA fs.length FC] 26)))
  have B1 := hid (Blk.new w 26 #[.slice (some ⟨nb, 0, none⟩) ns.length c, .slice FA fs.length FC])
  have F1 := hid (show Fr nob w (w.alloc (.cells #[.slice (some ⟨nb, 0, none⟩) ns.length c, .slice FA fs.length FC] 26)) from (Fr.refl nob w).alloc _)
  have nl1 : ¬ 9223372036854775807 < 1 + (bs (txt ns x)).size := by have := HLX.out; rw [bs_size]; omega
  have nl2 : ¬ 9223372036854775807 < 1 + (bs (txt ns x)).size + 1 := by have := HLX.out; rw [bs_size]; omega
  by_cases hb : L < lv
  · rw [if_pos hb]
    have hb2 : (L : Int) < (lv : Int) := by omega
    clear hb
    go_enter Tryd.func26, Tryd.ntmps26
    go_wp2_with fail
    generalize hB : w.heap.size = B at *
    clear hB
    generalize hw1 : w.alloc (.cells #[.slice (some ⟨nb, 0, none⟩) ns.length c, .slice FA fs.length FC] 26) = w1 at *
    clear hw1
    refine (HX.out _ S1.out HK.out (by have := HLX.out; omega)).mono ?_
    rintro e w2 ⟨rfl, hf⟩
    have F2 := hid hf
    have S2 := hid (S1.out.no hf)
    have B2 := hid (B1.out.fr hf (fun x => x))
    clear hf
    have d0 := B2.out.cell 0
    simp at d0
    obtain ⟨_, x0, x1, x2, x3, x4⟩ := S2.out.tree.node3 HN.out.1 HN.out.2
    go_wp2_with fail
    refine (HLV.out _).mono ?_
    rintro e w3 ⟨rfl, hf⟩
    have F3 := hid hf
    clear hf d0 x0 x1 x2 x3 x4
    go_wp2_with fail
    go_ret
    refine ⟨?_, (F1.out.tr F2.out).tr F3.out⟩
    show Ending.returned (.string (bs [40] ++ bs (txt ns x) ++ bs [41])) = _
    rw [bs_add, bs_add]
    rfl
  · rw [if_neg hb]
    have hb2 : (lv : Int) ≤ (L : Int) := by omega
    clear hb
    go_enter Tryd.func26, Tryd.ntmps26
    go_wp2_with fail
    generalize hB : w.heap.size = B at *
    clear hB
    generalize hw1 : w.alloc (.cells #[.slice (some ⟨nb, 0, none⟩) ns.length c, .slice FA fs.length FC] 26) = w1 at *
    clear hw1
    refine (HX.out _ S1.out HK.out (by have := HLX.out; omega)).mono ?_
    rintro e w2 ⟨rfl, hf⟩
    have F2 := hid hf
    have S2 := hid (S1.out.no hf)
    have B2 := hid (B1.out.fr hf (fun x => x))
    clear hf
    have d0 := B2.out.cell 0
    simp at d0
    obtain ⟨_, x0, x1, x2, x3, x4⟩ := S2.out.tree.node3 HN.out.1 HN.out.2
    go_wp2_with fail
    refine (HLV.out _).mono ?_
    rintro e w3 ⟨rfl, hf⟩
    have F3 := hid hf
    clear hf d0 x0 x1 x2 x3 x4
    go_wp2_with fail
    go_ret
    exact ⟨rfl, (F1.out.tr F2.out).tr F3.out⟩
end
end Go.Proofs.YtahhgnbiahomiaaDoor
/- Show: a tree in a law's variable. -/
namespace Go.Proofs.YtahhgnbiahomiaaDoor
open Go.RowKit
set_option linter.unusedVariables false
set_option linter.unusedSimpArgs false
theorem parse_bad {src : List UInt8} {p e : Nat} (h : parseM src = some (.bad p e)) : (e : Int) ≠ 0 := by
  unfold parseM at h
  cases hl : lexM src with
  | bad p e' =>
    rw [hl] at h
    injection h with h
    injection h with h1 h2
    have := lexM_bad hl
    omega
  | good ts =>
    rw [hl] at h
    simp only [parseT, Option.map_eq_some_iff] at h
    obtain ⟨q, hq, h⟩ := h
    split at h
    · rename_i h0
      injection h with h1 h2
      omega
    · split at h
      · injection h with h1 h2; omega
      · cases h
section
variable {nv fv : Value} {lvs pvs : List Value} {ns : List NodeM} {fs : List FuncM} {w w' : World}
/-- A tree in memory, in a variable's box. -/
structure TV (b : Nat) (nv fv : Value) (lvs pvs : List Value) (ns : List NodeM) (fs : List FuncM) (w : World) : Prop where
  tree : TreeAt 0 w nv fv lvs pvs ns fs
  base : TabBase w
  box : Blk w b 26 #[nv, fv]
theorem TV.no {b : Nat} (h : TV b nv fv lvs pvs ns fs w) (f : Fr nob w w') : TV b nv fv lvs pvs ns fs w' :=
  ⟨h.tree.no f, h.base.fr f, h.box.fr f (fun x => x)⟩
theorem TV.cells {b : Nat} (h : TV b nv fv lvs pvs ns fs w) : w.cell? ⟨b, 0, none⟩ = some nv ∧ w.cell? ⟨b, 1, none⟩ = some fv :=
  ⟨by simpa using h.box.cell 0, by simpa using h.box.cell 1⟩
/-- A tree that was read just now, put into a box. -/
theorem TV.new {B : Nat} (h : TreeAt B w nv fv lvs pvs ns fs) (hb : TabBase w) : TV w.heap.size nv fv lvs pvs ns fs (w.alloc (.cells #[nv, fv] 26)) :=
  ⟨h.zero.no ((Fr.refl nob w).alloc _), hb.fr ((Fr.refl nob w).alloc _), Blk.new w _ _⟩
end
theorem sz_pos {ns : List NodeM} {p : Nat} {nd : NodeM} (hk : NodesOk ns) (hp : ns[p]? = some nd) {x : Nat} (hx : x ∈ nd.l) : szN ns x ≤ szN ns p := by
  rw [sz_eq hp]
  have hlt := kids_lt hk hp x hx
  rw [← sz_take hlt]
  generalize szN (ns.take p) = f
  have : ∀ l : List Nat, x ∈ l → f x ≤ (l.map f).sum := by
    intro l
    induction l with
    | nil => intro h; cases h
    | cons a l ih =>
      intro h
      rw [List.map_cons, List.sum_cons]
      rcases List.mem_cons.1 h with rfl | h
      · omega
      · have := ih h; omega
  have := this nd.l hx
  omega
/-- No node has more below it than there are. -/
theorem sz_le {src : List UInt8} {ns : List NodeM} {fs : List FuncM} (h : parseM src = some (.good ns fs)) : ∀ n x, x < ns.length → ns.length - x ≤ n → szN ns x ≤ ns.length := by
  have hk := (parse_ok h).nodes
  have hz := (parse_few h).size
  have hp := parse_par h
  intro n
  induction n with
  | zero => intro x hx hn; omega
  | succ n ih =>
    intro x hx hn
    have h1 := hp x
    rw [if_pos hx] at h1
    by_cases hb : bodyN fs x = 0
    · have h2 : 0 < (ns.flatMap (·.l)).count x := by rw [par_count]; omega
      obtain ⟨nd, hnd, hxl⟩ := List.mem_flatMap.1 (List.count_pos_iff.1 h2)
      obtain ⟨p, hpp⟩ := List.mem_iff_getElem?.1 hnd
      have hlt := kids_lt hk hpp x hxl
      have hpl := (List.getElem?_eq_some_iff.1 hpp).1
      exact Nat.le_trans (sz_pos hk hpp hxl) (ih p hpl (by omega))
    · have h2 : x ∈ fs.map (·.body) := List.count_pos_iff.1 (by unfold bodyN at hb; omega)
      obtain ⟨f, hf, rfl⟩ := List.mem_map.1 h2
      have : ∀ l : List FuncM, f ∈ l → szN ns f.body ≤ bodies ns l := by
        intro l
        induction l with
        | nil => intro h; cases h
        | cons a l ih =>
          intro h
          have e : bodies ns (a :: l) = szN ns a.body + bodies ns l := by simp [bodies]
          rw [e]
          rcases List.mem_cons.1 h with rfl | h
          · omega
          · have := ih h; omega
      exact Nat.le_trans (this fs hf) hz
theorem txt_short {src : List UInt8} {ns : List NodeM} {fs : List FuncM} (h : parseM src = some (.good ns fs)) {x : Nat} (hx : x < ns.length) : (txt ns x).length ≤ 1000000 := by
  have h1 := txt_len (parse_ok h).nodes (parse_few h).names x hx
  have h2 := sz_le h _ x hx (Nat.le_refl _)
  have := (parse_ok h).few
  omega
theorem kind_range {ns : List NodeM} (hk : NodesOk ns) {x : Nat} {nd : NodeM} (h : ns[x]? = some nd) : 1 ≤ nd.kind ∧ nd.kind ≤ 21 := by
  have := hk x nd h
  cases this <;> (constructor <;> (dsimp only; omega))
theorem kid_right {ns : List NodeM} (hk : NodesOk ns) {x : Nat} {nd : NodeM} (h : ns[x]? = some nd) (hr : nd.kind ≤ 9 ∨ 19 ≤ nd.kind) : Kid ns clsR x := by
  have := kind_range hk h
  refine ⟨nd, h, ?_⟩
  unfold clsR clsE
  rcases hr with hr | hr
  · rw [decide_eq_true this.1, decide_eq_true hr]; rfl
  · rw [decide_eq_true hr, decide_eq_true this.2]; simp
end Go.Proofs.YtahhgnbiahomiaaDoor
/- Show: the reference: Expr, by kinds. Printed by wip/tools/mkrefe.py. -/
namespace Go.Proofs.YtahhgnbiahomiaaDoor
open Go.RowKit
set_option linter.unusedVariables false
set_option linter.unusedSimpArgs false
section
variable {nv fv : Value} {lvs pvs : List Value} {ns : List NodeM} {fs : List FuncM} {w w' : World}
/-- The tree's copy, a node's copy behind it. -/
def RK (nv fv : Value) (lvs pvs : List Value) (ns : List NodeM) (fs : List FuncM) (b k line n : Nat) (name : ByteArray) (kv : Value) (l : List Nat) (w : World) : Prop := RS nv fv lvs pvs ns fs w ∧ Blk w b 26 #[nv, fv] ∧ NodeK (b + 1) k line n name kv l w
theorem RK.no {b k line n : Nat} {name : ByteArray} {kv : Value} {l : List Nat} (h : RK nv fv lvs pvs ns fs b k line n name kv l w) (f : Fr nob w w') : RK nv fv lvs pvs ns fs b k line n name kv l w' :=
  ⟨h.1.no f, h.2.1.fr f (fun x => x), h.2.2.1.fr f (fun x => x), h.2.2.2.fr f (fun _ _ x => x)⟩
theorem RK.cells {b k line n : Nat} {name : ByteArray} {kv : Value} {l : List Nat} (h : RK nv fv lvs pvs ns fs b k line n name kv l w) : w.cell? ⟨b, 0, none⟩ = some nv ∧ w.cell? ⟨b, 1, none⟩ = some fv ∧ w.cell? ⟨b + 1, 0, none⟩ = some (.int .i64 k) ∧ w.cell? ⟨b + 1, 2, none⟩ = some (.int .i64 n) ∧ w.cell? ⟨b + 1, 3, none⟩ = some (.string name) ∧ w.cell? ⟨b + 1, 4, none⟩ = some kv :=
  ⟨by simpa using h.2.1.cell 0, by simpa using h.2.1.cell 1, h.2.2.cells.1, h.2.2.cells.2.1, h.2.2.cells.2.2.1, h.2.2.cells.2.2.2.1⟩
theorem RK.same {b k line n : Nat} {name : ByteArray} {kv : Value} {l : List Nat} (h : RK nv fv lvs pvs ns fs b k line n name kv l w) {wa : World} (he : wa.heap = w.heap) (ho : wa.os = w.os) (hp : wa.output = w.output) (ht : wa.tape = w.tape) : RK nv fv lvs pvs ns fs b k line n name kv l wa :=
  h.no ⟨ho, ht, hp, by rw [he]; exact Nat.le_refl _, fun j _ _ => by rw [he]⟩
theorem RS.copy (h : RS nv fv lvs pvs ns fs w) {k line n : Nat} {name : ByteArray} {kv : Value} {l : List Nat} (ho : Own w 3 1 kv l.length (ints l)) :
    RK nv fv lvs pvs ns fs w.heap.size k line n name kv l ((w.alloc (.cells #[nv, fv] 26)).alloc (.cells #[.int .i64 k, .int .i64 line, .int .i64 n, .string name, kv] 34)) :=
  ⟨(h.no ((Fr.refl nob w).alloc _)).no ((Fr.refl nob _).alloc _), (Blk.new w _ _).alloc _, Blk.new1 _ _ _ _, (ho.alloc _).alloc _⟩
theorem ritoa_any (h : TabBase w) (n : Nat) (hn : n ≤ 9223372036854775807) :
    Calls Tryd.prog 25 #[.int .i64 n] w fun e w2 => e = .returned (.string (bs (Lib.itoa n))) ∧ Fr nob w w2 := by
  obtain ⟨_, _, _, ht⟩ := h
  refine (Tryd.strconv_Itoa n (by omega) (by omega) w ht).mono ?_
  rintro e w2 ⟨rfl, k, os, rfl⟩
  exact ⟨rfl, Fr.grew w k os⟩
set_option maxHeartbeats 2000000 in
set_option maxRecDepth 100000 in
theorem rexpr_bool1 (hok : NodesOk ns) {x : Nat} {line n : Nat} (hn : n = 1) (hx : ns[x]? = some ⟨2, line, n, [], []⟩) (h : RS nv fv lvs pvs ns fs w) (hlen : (([116, 114, 117, 101] : List UInt8)).length ≤ 100000000) :
    Calls Tryd.prog 15 #[.agg #[nv, fv], .int .i64 x] w fun e w' => e = .returned (.string (bs ([116, 114, 117, 101] : List UInt8))) ∧ Fr nob w w' := by
  obtain ⟨nb, c, kv, rfl, hc, hkv, x0, x1, x2, x3, x4⟩ := h.tree.node hx
  obtain ⟨FA, FC, rfl, _, _⟩ := h.tree.fns.cap
  have hlt := (List.getElem?_eq_some_iff.1 hx).1
  have hx3 : (x : Int) < (ns.length : Int) := by omega
  have hx4 : (ns.length : Int) ≤ 9223372036854775807 := by have := h.tree.nodes.cap; obtain ⟨A, c2, e, h1, h2⟩ := this; unfold maxLen at h2; omega
  have n3 : nb < w.heap.size := World.block_lt_of_cell? w ⟨nb, x * 5, none⟩ x0
  have n2 : ¬ nb = w.heap.size := by omega
  dsimp only at x0 x1 x2 x3 x4 hkv
  obtain ⟨KA, KC, rfl, _, _⟩ := hkv.cap
  have b1 : ((n : Int) == 1) = true := by rw [hn]; rfl
  clear hn
  have S0 := hid h
  have HO := hid hkv
  have HOK := hid hok
  have HL := hid hlen
  clear h hlen hok hkv hx hlt hc
  go_enter Tryd.func15, Tryd.ntmps15
  go_wp2_with fail
  go_ret
  exact ⟨rfl, ((Fr.refl nob w).alloc _).alloc _⟩
set_option maxHeartbeats 2000000 in
set_option maxRecDepth 100000 in
theorem rexpr_bool0 (hok : NodesOk ns) {x : Nat} {line n : Nat} (hn : ¬ n = 1) (hx : ns[x]? = some ⟨2, line, n, [], []⟩) (h : RS nv fv lvs pvs ns fs w) (hlen : (([102, 97, 108, 115, 101] : List UInt8)).length ≤ 100000000) :
    Calls Tryd.prog 15 #[.agg #[nv, fv], .int .i64 x] w fun e w' => e = .returned (.string (bs ([102, 97, 108, 115, 101] : List UInt8))) ∧ Fr nob w w' := by
  obtain ⟨nb, c, kv, rfl, hc, hkv, x0, x1, x2, x3, x4⟩ := h.tree.node hx
  obtain ⟨FA, FC, rfl, _, _⟩ := h.tree.fns.cap
  have hlt := (List.getElem?_eq_some_iff.1 hx).1
  have hx3 : (x : Int) < (ns.length : Int) := by omega
  have hx4 : (ns.length : Int) ≤ 9223372036854775807 := by have := h.tree.nodes.cap; obtain ⟨A, c2, e, h1, h2⟩ := this; unfold maxLen at h2; omega
  have n3 : nb < w.heap.size := World.block_lt_of_cell? w ⟨nb, x * 5, none⟩ x0
  have n2 : ¬ nb = w.heap.size := by omega
  dsimp only at x0 x1 x2 x3 x4 hkv
  obtain ⟨KA, KC, rfl, _, _⟩ := hkv.cap
  have b1 : ((n : Int) == 1) = false := beq_eq_false_iff_ne.2 (by omega)
  clear hn
  have S0 := hid h
  have HO := hid hkv
  have HOK := hid hok
  have HL := hid hlen
  clear h hlen hok hkv hx hlt hc
  go_enter Tryd.func15, Tryd.ntmps15
  go_wp2_with fail
  go_ret
  exact ⟨rfl, ((Fr.refl nob w).alloc _).alloc _⟩
set_option maxHeartbeats 2000000 in
set_option maxRecDepth 100000 in
theorem rexpr_var (hok : NodesOk ns) {x : Nat} {line : Nat} {nm : List UInt8} (hx : ns[x]? = some ⟨4, line, 0, nm, []⟩) (h : RS nv fv lvs pvs ns fs w) (hlen : (nm).length ≤ 100000000) :
    Calls Tryd.prog 15 #[.agg #[nv, fv], .int .i64 x] w fun e w' => e = .returned (.string (bs nm)) ∧ Fr nob w w' := by
  obtain ⟨nb, c, kv, rfl, hc, hkv, x0, x1, x2, x3, x4⟩ := h.tree.node hx
  obtain ⟨FA, FC, rfl, _, _⟩ := h.tree.fns.cap
  have hlt := (List.getElem?_eq_some_iff.1 hx).1
  have hx3 : (x : Int) < (ns.length : Int) := by omega
  have hx4 : (ns.length : Int) ≤ 9223372036854775807 := by have := h.tree.nodes.cap; obtain ⟨A, c2, e, h1, h2⟩ := this; unfold maxLen at h2; omega
  have n3 : nb < w.heap.size := World.block_lt_of_cell? w ⟨nb, x * 5, none⟩ x0
  have n2 : ¬ nb = w.heap.size := by omega
  dsimp only at x0 x1 x2 x3 x4 hkv
  obtain ⟨KA, KC, rfl, _, _⟩ := hkv.cap
  have S0 := hid h
  have HO := hid hkv
  have HOK := hid hok
  have HL := hid hlen
  clear h hlen hok hkv hx hlt hc
  go_enter Tryd.func15, Tryd.ntmps15
  go_wp2_with fail
  go_ret
  exact ⟨rfl, ((Fr.refl nob w).alloc _).alloc _⟩
set_option maxHeartbeats 2000000 in
set_option maxRecDepth 100000 in
theorem rexpr_input (hok : NodesOk ns) {x : Nat} {line : Nat} (hx : ns[x]? = some ⟨19, line, 0, [], []⟩) (h : RS nv fv lvs pvs ns fs w) (hlen : (([105, 110, 112, 117, 116] : List UInt8)).length ≤ 100000000) :
    Calls Tryd.prog 15 #[.agg #[nv, fv], .int .i64 x] w fun e w' => e = .returned (.string (bs ([105, 110, 112, 117, 116] : List UInt8))) ∧ Fr nob w w' := by
  obtain ⟨nb, c, kv, rfl, hc, hkv, x0, x1, x2, x3, x4⟩ := h.tree.node hx
  obtain ⟨FA, FC, rfl, _, _⟩ := h.tree.fns.cap
  have hlt := (List.getElem?_eq_some_iff.1 hx).1
  have hx3 : (x : Int) < (ns.length : Int) := by omega
  have hx4 : (ns.length : Int) ≤ 9223372036854775807 := by have := h.tree.nodes.cap; obtain ⟨A, c2, e, h1, h2⟩ := this; unfold maxLen at h2; omega
  have n3 : nb < w.heap.size := World.block_lt_of_cell? w ⟨nb, x * 5, none⟩ x0
  have n2 : ¬ nb = w.heap.size := by omega
  dsimp only at x0 x1 x2 x3 x4 hkv
  obtain ⟨KA, KC, rfl, _, _⟩ := hkv.cap
  have S0 := hid h
  have HO := hid hkv
  have HOK := hid hok
  have HL := hid hlen
  clear h hlen hok hkv hx hlt hc
  go_enter Tryd.func15, Tryd.ntmps15
  go_wp2_with fail
  go_ret
  exact ⟨rfl, ((Fr.refl nob w).alloc _).alloc _⟩
set_option maxHeartbeats 2000000 in
set_option maxRecDepth 100000 in
theorem rexpr_text (hok : NodesOk ns) {x : Nat} {line : Nat} {nm : List UInt8} (hx : ns[x]? = some ⟨3, line, 0, nm, []⟩) (h : RS nv fv lvs pvs ns fs w) (hlen : ((34 :: (nm ++ [34]))).length ≤ 100000000) :
    Calls Tryd.prog 15 #[.agg #[nv, fv], .int .i64 x] w fun e w' => e = .returned (.string (bs (34 :: (nm ++ [34])))) ∧ Fr nob w w' := by
  obtain ⟨nb, c, kv, rfl, hc, hkv, x0, x1, x2, x3, x4⟩ := h.tree.node hx
  obtain ⟨FA, FC, rfl, _, _⟩ := h.tree.fns.cap
  have hlt := (List.getElem?_eq_some_iff.1 hx).1
  have hx3 : (x : Int) < (ns.length : Int) := by omega
  have hx4 : (ns.length : Int) ≤ 9223372036854775807 := by have := h.tree.nodes.cap; obtain ⟨A, c2, e, h1, h2⟩ := this; unfold maxLen at h2; omega
  have n3 : nb < w.heap.size := World.block_lt_of_cell? w ⟨nb, x * 5, none⟩ x0
  have n2 : ¬ nb = w.heap.size := by omega
  dsimp only at x0 x1 x2 x3 x4 hkv
  obtain ⟨KA, KC, rfl, _, _⟩ := hkv.cap
  have S0 := hid h
  have HO := hid hkv
  have HOK := hid hok
  have HL := hid hlen
  clear h hlen hok hkv hx hlt hc
  have nl1 : ¬ 9223372036854775807 < 1 + (bs nm).size := by have h5 := HL.out; rw [bs_size]; simp only [List.length_cons, List.length_append, List.length_nil] at h5; omega
  have nl2 : ¬ 9223372036854775807 < 1 + (bs nm).size + 1 := by have h5 := HL.out; rw [bs_size]; simp only [List.length_cons, List.length_append, List.length_nil] at h5; omega
  go_enter Tryd.func15, Tryd.ntmps15
  go_wp2_with fail
  go_ret
  refine ⟨?_, ((Fr.refl nob w).alloc _).alloc _⟩
  show Ending.returned (.string (bs [34] ++ bs nm ++ bs [34])) = _
  rw [bs_add, bs_add]
  rfl
set_option maxHeartbeats 2000000 in
set_option maxRecDepth 100000 in
theorem rexpr_int (hok : NodesOk ns) {x : Nat} {line n : Nat} (hn : n ≤ 9223372036854775807) (hx : ns[x]? = some ⟨1, line, n, [], []⟩) (h : RS nv fv lvs pvs ns fs w) (hlen : (Lib.itoa n).length ≤ 100000000) :
    Calls Tryd.prog 15 #[.agg #[nv, fv], .int .i64 x] w fun e w' => e = .returned (.string (bs (Lib.itoa n))) ∧ Fr nob w w' := by
  obtain ⟨nb, c, kv, rfl, hc, hkv, x0, x1, x2, x3, x4⟩ := h.tree.node hx
  obtain ⟨FA, FC, rfl, _, _⟩ := h.tree.fns.cap
  have hlt := (List.getElem?_eq_some_iff.1 hx).1
  have hx3 : (x : Int) < (ns.length : Int) := by omega
  have hx4 : (ns.length : Int) ≤ 9223372036854775807 := by have := h.tree.nodes.cap; obtain ⟨A, c2, e, h1, h2⟩ := this; unfold maxLen at h2; omega
  have n3 : nb < w.heap.size := World.block_lt_of_cell? w ⟨nb, x * 5, none⟩ x0
  have n2 : ¬ nb = w.heap.size := by omega
  dsimp only at x0 x1 x2 x3 x4 hkv
  obtain ⟨KA, KC, rfl, _, _⟩ := hkv.cap
  have HN := hid hn
  clear hn
  have S0 := hid h
  have HO := hid hkv
  have HOK := hid hok
  have HL := hid hlen
  clear h hlen hok hkv hx hlt hc
  go_enter Tryd.func15, Tryd.ntmps15
  go_wp2_with fail
  have S1 := hid (S0.out.copy (k := 1) (line := line) (n := n) (name := (bs [])) HO.out)
  have F1 := hid (show Fr nob w ((w.alloc (.cells #[.slice (some ⟨nb, 0, none⟩) ns.length c, .slice FA fs.length FC] 26)).alloc (.cells #[.int .i64 1, .int .i64 line, .int .i64 n, .string (bs []), .slice KA ([] : List Nat).length KC] 34)) from ((Fr.refl nob w).alloc _).alloc _)
  clear n2 n3 x0 x1 x2 x3 x4 hx3 hx4 HO S0
  generalize hB : w.heap.size = B at *
  clear hB
  generalize hw1 : (w.alloc (.cells #[.slice (some ⟨nb, 0, none⟩) ns.length c, .slice FA fs.length FC] 26)).alloc (.cells #[.int .i64 1, .int .i64 line, .int .i64 n, .string (bs []), .slice KA ([] : List Nat).length KC] 34) = w1 at *
  clear hw1
  refine (ritoa_any S1.out.1.tab n HN.out).mono ?_
  rintro e w2 ⟨rfl, hf⟩
  have F2 := hid hf
  clear hf
  go_wp2_with fail
  go_ret
  exact ⟨rfl, F1.out.tr F2.out⟩
set_option maxHeartbeats 2000000 in
set_option maxRecDepth 100000 in
theorem rexpr_len (hok : NodesOk ns) {x : Nat} {line a : Nat} (hxa : RexprOk nv fv lvs pvs ns fs a) (hka : Kid ns clsR a) (hx : ns[x]? = some ⟨6, line, 0, [], [a]⟩) (h : RS nv fv lvs pvs ns fs w) (hlen : 4 + (txt ns a).length + 1 ≤ 100000000) :
    Calls Tryd.prog 15 #[.agg #[nv, fv], .int .i64 x] w fun e w' => e = .returned (.string (bs ([108, 101, 110, 40] ++ (txt ns a ++ [41])))) ∧ Fr nob w w' := by
  obtain ⟨nb, c, kv, rfl, hc, hkv, x0, x1, x2, x3, x4⟩ := h.tree.node hx
  obtain ⟨FA, FC, rfl, _, _⟩ := h.tree.fns.cap
  have hlt := (List.getElem?_eq_some_iff.1 hx).1
  have hx3 : (x : Int) < (ns.length : Int) := by omega
  have hx4 : (ns.length : Int) ≤ 9223372036854775807 := by have := h.tree.nodes.cap; obtain ⟨A, c2, e, h1, h2⟩ := this; unfold maxLen at h2; omega
  have n3 : nb < w.heap.size := World.block_lt_of_cell? w ⟨nb, x * 5, none⟩ x0
  have n2 : ¬ nb = w.heap.size := by omega
  dsimp only at x0 x1 x2 x3 x4 hkv
  obtain ⟨kb, kc, rfl, _, _⟩ := kids_get hkv Nat.one_pos
  have HX := hid hxa
  have HK := hid hka
  clear hxa hka
  have S0 := hid h
  have HO := hid hkv
  have HOK := hid hok
  have HL := hid hlen
  clear h hlen hok hkv hx hlt hc
  have nl1 : ¬ 9223372036854775807 < 4 + (bs (txt ns a)).size := by have h5 := HL.out; rw [bs_size]; omega
  have nl2 : ¬ 9223372036854775807 < 4 + (bs (txt ns a)).size + 1 := by have h5 := HL.out; rw [bs_size]; omega
  go_enter Tryd.func15, Tryd.ntmps15
  go_wp2_with fail
  have S1 := hid (S0.out.copy (k := 6) (line := line) (n := 0) (name := (bs [])) HO.out)
  have F1 := hid (show Fr nob w ((w.alloc (.cells #[.slice (some ⟨nb, 0, none⟩) ns.length c, .slice FA fs.length FC] 26)).alloc (.cells #[.int .i64 6, .int .i64 line, .int .i64 0, .string (bs []), .slice (some ⟨kb, 0, none⟩) [a].length kc] 34)) from ((Fr.refl nob w).alloc _).alloc _)
  clear n2 n3 x0 x1 x2 x3 x4 hx3 hx4 HO S0
  generalize hB : w.heap.size = B at *
  clear hB
  generalize hw1 : (w.alloc (.cells #[.slice (some ⟨nb, 0, none⟩) ns.length c, .slice FA fs.length FC] 26)).alloc (.cells #[.int .i64 6, .int .i64 line, .int .i64 0, .string (bs []), .slice (some ⟨kb, 0, none⟩) [a].length kc] 34) = w1 at *
  clear hw1
  obtain ⟨d0, d1, c0, c2, c3, c4⟩ := S1.out.cells
  have k0 := S1.out.2.2.kid 0 a rfl
  have CK : ∀ (wa wx : World), Fr nob wa wx → wa.heap = w1.heap → wa.os = w1.os → wa.output = w1.output → wa.tape = w1.tape → wx.cell? ⟨B, 0, none⟩ = some (.slice (some ⟨nb, 0, none⟩) ns.length c) ∧ wx.cell? ⟨B, 1, none⟩ = some (.slice FA fs.length FC) ∧ wx.cell? ⟨B + 1, 4, none⟩ = some (.slice (some ⟨kb, 0, none⟩) 1 kc) ∧ wx.cell? ⟨kb, 0, none⟩ = some (.int .i64 (a : Nat)) := fun wa wx hf e1 e2 e3 e4 => by
    have h1 := (S1.out.same e1 e2 e3 e4).no hf
    exact ⟨h1.cells.1, h1.cells.2.1, h1.cells.2.2.2.2.2, h1.2.2.kid 0 a rfl⟩
  have HCK := hid CK
  clear CK
  go_region_held3 (fun wx => wx.cell? ⟨B, 0, none⟩ = some (.slice (some ⟨nb, 0, none⟩) ns.length c) ∧ wx.cell? ⟨B, 1, none⟩ = some (.slice FA fs.length FC) ∧ wx.cell? ⟨B + 1, 4, none⟩ = some (.slice (some ⟨kb, 0, none⟩) 1 kc) ∧ wx.cell? ⟨kb, 0, none⟩ = some (.int .i64 (a : Nat))) (first | exact K2.out | go_keep)
    (first
      | (go_at_call 15; go_loud (refine ((HX.out _ (S1.out.1.no ((Fr.refl nob w1).drew)) HK.out (by have h5 := HL.out; omega))).mono ?_); go_loud (rintro e w2 ⟨rfl, hf⟩); go_loud (have K2 := hid (HCK.out _ w2 hf rfl rfl rfl rfl)); have F2 := hid hf; clear hf))
  go_wp2_with fail
  go_ret
  refine ⟨?_, by first | exact (F1.out.drew).tr F2.out | exact F1.out.drew.tr (F2.out.drewN _)⟩
  show Ending.returned (.string (bs [108, 101, 110, 40] ++ bs (txt ns a) ++ bs [41])) = _
  rw [bs_add, bs_add]
  first | rfl | simp [List.append_assoc]
set_option maxHeartbeats 2000000 in
set_option maxRecDepth 100000 in
theorem rexpr_new (hok : NodesOk ns) {x : Nat} {line a : Nat} (hxa : RexprOk nv fv lvs pvs ns fs a) (hka : Kid ns clsR a) (hx : ns[x]? = some ⟨20, line, 0, [], [a]⟩) (h : RS nv fv lvs pvs ns fs w) (hlen : 4 + (txt ns a).length + 1 ≤ 100000000) :
    Calls Tryd.prog 15 #[.agg #[nv, fv], .int .i64 x] w fun e w' => e = .returned (.string (bs ([110, 101, 119, 40] ++ (txt ns a ++ [41])))) ∧ Fr nob w w' := by
  obtain ⟨nb, c, kv, rfl, hc, hkv, x0, x1, x2, x3, x4⟩ := h.tree.node hx
  obtain ⟨FA, FC, rfl, _, _⟩ := h.tree.fns.cap
  have hlt := (List.getElem?_eq_some_iff.1 hx).1
  have hx3 : (x : Int) < (ns.length : Int) := by omega
  have hx4 : (ns.length : Int) ≤ 9223372036854775807 := by have := h.tree.nodes.cap; obtain ⟨A, c2, e, h1, h2⟩ := this; unfold maxLen at h2; omega
  have n3 : nb < w.heap.size := World.block_lt_of_cell? w ⟨nb, x * 5, none⟩ x0
  have n2 : ¬ nb = w.heap.size := by omega
  dsimp only at x0 x1 x2 x3 x4 hkv
  obtain ⟨kb, kc, rfl, _, _⟩ := kids_get hkv Nat.one_pos
  have HX := hid hxa
  have HK := hid hka
  clear hxa hka
  have S0 := hid h
  have HO := hid hkv
  have HOK := hid hok
  have HL := hid hlen
  clear h hlen hok hkv hx hlt hc
  have nl1 : ¬ 9223372036854775807 < 4 + (bs (txt ns a)).size := by have h5 := HL.out; rw [bs_size]; omega
  have nl2 : ¬ 9223372036854775807 < 4 + (bs (txt ns a)).size + 1 := by have h5 := HL.out; rw [bs_size]; omega
  go_enter Tryd.func15, Tryd.ntmps15
  go_wp2_with fail
  have S1 := hid (S0.out.copy (k := 20) (line := line) (n := 0) (name := (bs [])) HO.out)
  have F1 := hid (show Fr nob w ((w.alloc (.cells #[.slice (some ⟨nb, 0, none⟩) ns.length c, .slice FA fs.length FC] 26)).alloc (.cells #[.int .i64 20, .int .i64 line, .int .i64 0, .string (bs []), .slice (some ⟨kb, 0, none⟩) [a].length kc] 34)) from ((Fr.refl nob w).alloc _).alloc _)
  clear n2 n3 x0 x1 x2 x3 x4 hx3 hx4 HO S0
  generalize hB : w.heap.size = B at *
  clear hB
  generalize hw1 : (w.alloc (.cells #[.slice (some ⟨nb, 0, none⟩) ns.length c, .slice FA fs.length FC] 26)).alloc (.cells #[.int .i64 20, .int .i64 line, .int .i64 0, .string (bs []), .slice (some ⟨kb, 0, none⟩) [a].length kc] 34) = w1 at *
  clear hw1
  obtain ⟨d0, d1, c0, c2, c3, c4⟩ := S1.out.cells
  have k0 := S1.out.2.2.kid 0 a rfl
  have CK : ∀ (wa wx : World), Fr nob wa wx → wa.heap = w1.heap → wa.os = w1.os → wa.output = w1.output → wa.tape = w1.tape → wx.cell? ⟨B, 0, none⟩ = some (.slice (some ⟨nb, 0, none⟩) ns.length c) ∧ wx.cell? ⟨B, 1, none⟩ = some (.slice FA fs.length FC) ∧ wx.cell? ⟨B + 1, 4, none⟩ = some (.slice (some ⟨kb, 0, none⟩) 1 kc) ∧ wx.cell? ⟨kb, 0, none⟩ = some (.int .i64 (a : Nat)) := fun wa wx hf e1 e2 e3 e4 => by
    have h1 := (S1.out.same e1 e2 e3 e4).no hf
    exact ⟨h1.cells.1, h1.cells.2.1, h1.cells.2.2.2.2.2, h1.2.2.kid 0 a rfl⟩
  have HCK := hid CK
  clear CK
  go_region_held3 (fun wx => wx.cell? ⟨B, 0, none⟩ = some (.slice (some ⟨nb, 0, none⟩) ns.length c) ∧ wx.cell? ⟨B, 1, none⟩ = some (.slice FA fs.length FC) ∧ wx.cell? ⟨B + 1, 4, none⟩ = some (.slice (some ⟨kb, 0, none⟩) 1 kc) ∧ wx.cell? ⟨kb, 0, none⟩ = some (.int .i64 (a : Nat))) (first | exact K2.out | go_keep)
    (first
      | (go_at_call 15; go_loud (refine ((HX.out _ (S1.out.1.no ((Fr.refl nob w1).drew)) HK.out (by have h5 := HL.out; omega))).mono ?_); go_loud (rintro e w2 ⟨rfl, hf⟩); go_loud (have K2 := hid (HCK.out _ w2 hf rfl rfl rfl rfl)); have F2 := hid hf; clear hf))
  go_wp2_with fail
  go_ret
  refine ⟨?_, by first | exact (F1.out.drew).tr F2.out | exact F1.out.drew.tr (F2.out.drewN _)⟩
  show Ending.returned (.string (bs [110, 101, 119, 40] ++ bs (txt ns a) ++ bs [41])) = _
  rw [bs_add, bs_add]
  first | rfl | simp [List.append_assoc]
set_option maxHeartbeats 2000000 in
set_option maxRecDepth 100000 in
theorem rexpr_neg (hok : NodesOk ns) {x : Nat} {line a : Nat} (hxa : RexprOk nv fv lvs pvs ns fs a) (hka : Kid ns clsR a) (hx : ns[x]? = some ⟨7, line, 0, [], [a]⟩) (h : RS nv fv lvs pvs ns fs w) (hlen : 1 + (atT (shV ns a) 5).length ≤ 100000000) :
    Calls Tryd.prog 15 #[.agg #[nv, fv], .int .i64 x] w fun e w' => e = .returned (.string (bs (45 :: atT (shV ns a) 5))) ∧ Fr nob w w' := by
  obtain ⟨nb, c, kv, rfl, hc, hkv, x0, x1, x2, x3, x4⟩ := h.tree.node hx
  obtain ⟨FA, FC, rfl, _, _⟩ := h.tree.fns.cap
  have hlt := (List.getElem?_eq_some_iff.1 hx).1
  have hx3 : (x : Int) < (ns.length : Int) := by omega
  have hx4 : (ns.length : Int) ≤ 9223372036854775807 := by have := h.tree.nodes.cap; obtain ⟨A, c2, e, h1, h2⟩ := this; unfold maxLen at h2; omega
  have n3 : nb < w.heap.size := World.block_lt_of_cell? w ⟨nb, x * 5, none⟩ x0
  have n2 : ¬ nb = w.heap.size := by omega
  dsimp only at x0 x1 x2 x3 x4 hkv
  obtain ⟨kb, kc, rfl, _, _⟩ := kids_get hkv Nat.one_pos
  have HX := hid hxa
  have HK := hid hka
  clear hxa hka
  have S0 := hid h
  have HO := hid hkv
  have HOK := hid hok
  have HL := hid hlen
  clear h hlen hok hkv hx hlt hc
  have nl1 : ¬ 9223372036854775807 < 1 + (bs (atT (shV ns a) 5)).size := by have h5 := HL.out; rw [bs_size]; omega
  go_enter Tryd.func15, Tryd.ntmps15
  go_wp2_with fail
  have S1 := hid (S0.out.copy (k := 7) (line := line) (n := 0) (name := (bs [])) HO.out)
  have F1 := hid (show Fr nob w ((w.alloc (.cells #[.slice (some ⟨nb, 0, none⟩) ns.length c, .slice FA fs.length FC] 26)).alloc (.cells #[.int .i64 7, .int .i64 line, .int .i64 0, .string (bs []), .slice (some ⟨kb, 0, none⟩) [a].length kc] 34)) from ((Fr.refl nob w).alloc _).alloc _)
  clear n2 n3 x0 x1 x2 x3 x4 hx3 hx4 HO S0
  generalize hB : w.heap.size = B at *
  clear hB
  generalize hw1 : (w.alloc (.cells #[.slice (some ⟨nb, 0, none⟩) ns.length c, .slice FA fs.length FC] 26)).alloc (.cells #[.int .i64 7, .int .i64 line, .int .i64 0, .string (bs []), .slice (some ⟨kb, 0, none⟩) [a].length kc] 34) = w1 at *
  clear hw1
  obtain ⟨d0, d1, c0, c2, c3, c4⟩ := S1.out.cells
  have k0 := S1.out.2.2.kid 0 a rfl
  have CK : ∀ (wa wx : World), Fr nob wa wx → wa.heap = w1.heap → wa.os = w1.os → wa.output = w1.output → wa.tape = w1.tape → wx.cell? ⟨B, 0, none⟩ = some (.slice (some ⟨nb, 0, none⟩) ns.length c) ∧ wx.cell? ⟨B, 1, none⟩ = some (.slice FA fs.length FC) ∧ wx.cell? ⟨B + 1, 4, none⟩ = some (.slice (some ⟨kb, 0, none⟩) 1 kc) ∧ wx.cell? ⟨kb, 0, none⟩ = some (.int .i64 (a : Nat)) := fun wa wx hf e1 e2 e3 e4 => by
    have h1 := (S1.out.same e1 e2 e3 e4).no hf
    exact ⟨h1.cells.1, h1.cells.2.1, h1.cells.2.2.2.2.2, h1.2.2.kid 0 a rfl⟩
  have HCK := hid CK
  clear CK
  go_region_held3 (fun wx => wx.cell? ⟨B, 0, none⟩ = some (.slice (some ⟨nb, 0, none⟩) ns.length c) ∧ wx.cell? ⟨B, 1, none⟩ = some (.slice FA fs.length FC) ∧ wx.cell? ⟨B + 1, 4, none⟩ = some (.slice (some ⟨kb, 0, none⟩) 1 kc) ∧ wx.cell? ⟨kb, 0, none⟩ = some (.int .i64 (a : Nat))) (first | exact K2.out | go_keep)
    (first
      | (go_at_call 26; go_loud (refine ((rat_any HOK.out HX.out HK.out 5 (by decide) (S1.out.1.no ((Fr.refl nob w1).drew)) (by have h5 := HL.out; omega))).mono ?_); go_loud (rintro e w2 ⟨rfl, hf⟩); go_loud (have K2 := hid (HCK.out _ w2 hf rfl rfl rfl rfl)); have F2 := hid hf; clear hf))
  go_wp2_with fail
  go_ret
  refine ⟨?_, by first | exact (F1.out.drew).tr F2.out | exact F1.out.drew.tr (F2.out.drewN _)⟩
  show Ending.returned (.string (bs [45] ++ bs (atT (shV ns a) 5))) = _
  rw [bs_add]
  first | rfl | simp [List.append_assoc]
set_option maxHeartbeats 2000000 in
set_option maxRecDepth 100000 in
theorem rexpr_not (hok : NodesOk ns) {x : Nat} {line a : Nat} (hxa : RexprOk nv fv lvs pvs ns fs a) (hka : Kid ns clsR a) (hx : ns[x]? = some ⟨8, line, 0, [], [a]⟩) (h : RS nv fv lvs pvs ns fs w) (hlen : 1 + (atT (shV ns a) 5).length ≤ 100000000) :
    Calls Tryd.prog 15 #[.agg #[nv, fv], .int .i64 x] w fun e w' => e = .returned (.string (bs (33 :: atT (shV ns a) 5))) ∧ Fr nob w w' := by
  obtain ⟨nb, c, kv, rfl, hc, hkv, x0, x1, x2, x3, x4⟩ := h.tree.node hx
  obtain ⟨FA, FC, rfl, _, _⟩ := h.tree.fns.cap
  have hlt := (List.getElem?_eq_some_iff.1 hx).1
  have hx3 : (x : Int) < (ns.length : Int) := by omega
  have hx4 : (ns.length : Int) ≤ 9223372036854775807 := by have := h.tree.nodes.cap; obtain ⟨A, c2, e, h1, h2⟩ := this; unfold maxLen at h2; omega
  have n3 : nb < w.heap.size := World.block_lt_of_cell? w ⟨nb, x * 5, none⟩ x0
  have n2 : ¬ nb = w.heap.size := by omega
  dsimp only at x0 x1 x2 x3 x4 hkv
  obtain ⟨kb, kc, rfl, _, _⟩ := kids_get hkv Nat.one_pos
  have HX := hid hxa
  have HK := hid hka
  clear hxa hka
  have S0 := hid h
  have HO := hid hkv
  have HOK := hid hok
  have HL := hid hlen
  clear h hlen hok hkv hx hlt hc
  have nl1 : ¬ 9223372036854775807 < 1 + (bs (atT (shV ns a) 5)).size := by have h5 := HL.out; rw [bs_size]; omega
  go_enter Tryd.func15, Tryd.ntmps15
  go_wp2_with fail
  have S1 := hid (S0.out.copy (k := 8) (line := line) (n := 0) (name := (bs [])) HO.out)
  have F1 := hid (show Fr nob w ((w.alloc (.cells #[.slice (some ⟨nb, 0, none⟩) ns.length c, .slice FA fs.length FC] 26)).alloc (.cells #[.int .i64 8, .int .i64 line, .int .i64 0, .string (bs []), .slice (some ⟨kb, 0, none⟩) [a].length kc] 34)) from ((Fr.refl nob w).alloc _).alloc _)
  clear n2 n3 x0 x1 x2 x3 x4 hx3 hx4 HO S0
  generalize hB : w.heap.size = B at *
  clear hB
  generalize hw1 : (w.alloc (.cells #[.slice (some ⟨nb, 0, none⟩) ns.length c, .slice FA fs.length FC] 26)).alloc (.cells #[.int .i64 8, .int .i64 line, .int .i64 0, .string (bs []), .slice (some ⟨kb, 0, none⟩) [a].length kc] 34) = w1 at *
  clear hw1
  obtain ⟨d0, d1, c0, c2, c3, c4⟩ := S1.out.cells
  have k0 := S1.out.2.2.kid 0 a rfl
  have CK : ∀ (wa wx : World), Fr nob wa wx → wa.heap = w1.heap → wa.os = w1.os → wa.output = w1.output → wa.tape = w1.tape → wx.cell? ⟨B, 0, none⟩ = some (.slice (some ⟨nb, 0, none⟩) ns.length c) ∧ wx.cell? ⟨B, 1, none⟩ = some (.slice FA fs.length FC) ∧ wx.cell? ⟨B + 1, 4, none⟩ = some (.slice (some ⟨kb, 0, none⟩) 1 kc) ∧ wx.cell? ⟨kb, 0, none⟩ = some (.int .i64 (a : Nat)) := fun wa wx hf e1 e2 e3 e4 => by
    have h1 := (S1.out.same e1 e2 e3 e4).no hf
    exact ⟨h1.cells.1, h1.cells.2.1, h1.cells.2.2.2.2.2, h1.2.2.kid 0 a rfl⟩
  have HCK := hid CK
  clear CK
  go_region_held3 (fun wx => wx.cell? ⟨B, 0, none⟩ = some (.slice (some ⟨nb, 0, none⟩) ns.length c) ∧ wx.cell? ⟨B, 1, none⟩ = some (.slice FA fs.length FC) ∧ wx.cell? ⟨B + 1, 4, none⟩ = some (.slice (some ⟨kb, 0, none⟩) 1 kc) ∧ wx.cell? ⟨kb, 0, none⟩ = some (.int .i64 (a : Nat))) (first | exact K2.out | go_keep)
    (first
      | (go_at_call 26; go_loud (refine ((rat_any HOK.out HX.out HK.out 5 (by decide) (S1.out.1.no ((Fr.refl nob w1).drew)) (by have h5 := HL.out; omega))).mono ?_); go_loud (rintro e w2 ⟨rfl, hf⟩); go_loud (have K2 := hid (HCK.out _ w2 hf rfl rfl rfl rfl)); have F2 := hid hf; clear hf))
  go_wp2_with fail
  go_ret
  refine ⟨?_, by first | exact (F1.out.drew).tr F2.out | exact F1.out.drew.tr (F2.out.drewN _)⟩
  show Ending.returned (.string (bs [33] ++ bs (atT (shV ns a) 5))) = _
  rw [bs_add]
  first | rfl | simp [List.append_assoc]
end
end Go.Proofs.YtahhgnbiahomiaaDoor
/- Show: the reference: Expr, the other kinds. Printed by wip/tools/mkrefe.py. -/
namespace Go.Proofs.YtahhgnbiahomiaaDoor
open Go.RowKit
set_option linter.unusedVariables false
set_option linter.unusedSimpArgs false
section
variable {nv fv : Value} {lvs pvs : List Value} {ns : List NodeM} {fs : List FuncM} {w w' : World}
set_option maxHeartbeats 2000000 in
set_option maxRecDepth 100000 in
theorem rexpr_index (hok : NodesOk ns) {x : Nat} {line a : Nat} {nm : List UInt8} (hxa : RexprOk nv fv lvs pvs ns fs a) (hka : Kid ns clsR a) (hx : ns[x]? = some ⟨5, line, 0, nm, [a]⟩) (h : RS nv fv lvs pvs ns fs w) (hlen : nm.length + 1 + (txt ns a).length + 1 ≤ 100000000) :
    Calls Tryd.prog 15 #[.agg #[nv, fv], .int .i64 x] w fun e w' => e = .returned (.string (bs (nm ++ [91] ++ txt ns a ++ [93]))) ∧ Fr nob w w' := by
  obtain ⟨nb, c, kv, rfl, hc, hkv, x0, x1, x2, x3, x4⟩ := h.tree.node hx
  obtain ⟨FA, FC, rfl, _, _⟩ := h.tree.fns.cap
  have hlt := (List.getElem?_eq_some_iff.1 hx).1
  have hx3 : (x : Int) < (ns.length : Int) := by omega
  have hx4 : (ns.length : Int) ≤ 9223372036854775807 := by have := h.tree.nodes.cap; obtain ⟨A, c2, e, h1, h2⟩ := this; unfold maxLen at h2; omega
  have n3 : nb < w.heap.size := World.block_lt_of_cell? w ⟨nb, x * 5, none⟩ x0
  have n2 : ¬ nb = w.heap.size := by omega
  dsimp only at x0 x1 x2 x3 x4 hkv
  obtain ⟨kb, kc, rfl, _, _⟩ := kids_get hkv Nat.one_pos
  have HX := hid hxa
  have HK := hid hka
  clear hxa hka
  have S0 := hid h
  have HO := hid hkv
  have HOK := hid hok
  have HL := hid hlen
  clear h hlen hok hkv hx hlt hc
  have nl1 : ¬ 9223372036854775807 < (bs nm).size + 1 := by have h5 := HL.out; rw [bs_size]; omega
  have nl2 : ¬ 9223372036854775807 < (bs nm).size + 1 + (bs (txt ns a)).size := by have h5 := HL.out; rw [bs_size, bs_size]; omega
  have nl3 : ¬ 9223372036854775807 < (bs nm).size + 1 + (bs (txt ns a)).size + 1 := by have h5 := HL.out; rw [bs_size, bs_size]; omega
  go_enter Tryd.func15, Tryd.ntmps15
  go_wp2_with fail
  have S1 := hid (S0.out.copy (k := 5) (line := line) (n := 0) (name := (bs nm)) HO.out)
  have F1 := hid (show Fr nob w ((w.alloc (.cells #[.slice (some ⟨nb, 0, none⟩) ns.length c, .slice FA fs.length FC] 26)).alloc (.cells #[.int .i64 5, .int .i64 line, .int .i64 0, .string (bs nm), .slice (some ⟨kb, 0, none⟩) [a].length kc] 34)) from ((Fr.refl nob w).alloc _).alloc _)
  clear n2 n3 x0 x1 x2 x3 x4 hx3 hx4 HO S0
  generalize hB : w.heap.size = B at *
  clear hB
  generalize hw1 : (w.alloc (.cells #[.slice (some ⟨nb, 0, none⟩) ns.length c, .slice FA fs.length FC] 26)).alloc (.cells #[.int .i64 5, .int .i64 line, .int .i64 0, .string (bs nm), .slice (some ⟨kb, 0, none⟩) [a].length kc] 34) = w1 at *
  clear hw1
  obtain ⟨d0, d1, c0, c2, c3, c4⟩ := S1.out.cells
  have k0 := S1.out.2.2.kid 0 a rfl
  have CK : ∀ (wa wx : World), Fr nob wa wx → wa.heap = w1.heap → wa.os = w1.os → wa.output = w1.output → wa.tape = w1.tape → wx.cell? ⟨B + 1, 3, none⟩ = some (.string (bs nm)) ∧ wx.cell? ⟨B, 0, none⟩ = some (.slice (some ⟨nb, 0, none⟩) ns.length c) ∧ wx.cell? ⟨B, 1, none⟩ = some (.slice FA fs.length FC) ∧ wx.cell? ⟨B + 1, 4, none⟩ = some (.slice (some ⟨kb, 0, none⟩) 1 kc) ∧ wx.cell? ⟨kb, 0, none⟩ = some (.int .i64 (a : Nat)) := fun wa wx hf e1 e2 e3 e4 => by
    have h1 := (S1.out.same e1 e2 e3 e4).no hf
    exact ⟨h1.cells.2.2.2.2.1, h1.cells.1, h1.cells.2.1, h1.cells.2.2.2.2.2, h1.2.2.kid 0 a rfl⟩
  have HCK := hid CK
  clear CK
  go_region_held3 (fun wx => wx.cell? ⟨B + 1, 3, none⟩ = some (.string (bs nm)) ∧ wx.cell? ⟨B, 0, none⟩ = some (.slice (some ⟨nb, 0, none⟩) ns.length c) ∧ wx.cell? ⟨B, 1, none⟩ = some (.slice FA fs.length FC) ∧ wx.cell? ⟨B + 1, 4, none⟩ = some (.slice (some ⟨kb, 0, none⟩) 1 kc) ∧ wx.cell? ⟨kb, 0, none⟩ = some (.int .i64 (a : Nat))) (first | exact K2.out | go_keep)
    (first
      | (go_at_call 15; go_loud (refine ((HX.out _ (S1.out.1.no ((Fr.refl nob w1).drew)) HK.out (by have h5 := HL.out; omega))).mono ?_); go_loud (rintro e w2 ⟨rfl, hf⟩); go_loud (have K2 := hid (HCK.out _ w2 hf rfl rfl rfl rfl)); have F2 := hid hf; clear hf))
  go_wp2_with fail
  go_ret
  refine ⟨?_, by first | exact (F1.out.drew).tr F2.out | exact F1.out.drew.tr (F2.out.drewN _)⟩
  show Ending.returned (.string (bs nm ++ bs [91] ++ bs (txt ns a) ++ bs [93])) = _
  rw [bs_add, bs_add, bs_add]
end
end Go.Proofs.YtahhgnbiahomiaaDoor
/- Show: the reference: Expr, at two sides. Printed by wip/tools/mkrefe.py. -/
namespace Go.Proofs.YtahhgnbiahomiaaDoor
open Go.RowKit
set_option linter.unusedVariables false
set_option linter.unusedSimpArgs false
section
variable {nv fv : Value} {lvs pvs : List Value} {ns : List NodeM} {fs : List FuncM} {w w' : World}
set_option maxHeartbeats 2000000 in
set_option maxRecDepth 100000 in
theorem rexpr_bin (hok : NodesOk ns) {x : Nat} {line a b : Nat} {nm : List UInt8} (hy : nm ∈ allSigns) (hxa : RexprOk nv fv lvs pvs ns fs a) (hka : Kid ns clsR a) (hxb : RexprOk nv fv lvs pvs ns fs b) (hkb : Kid ns clsR b) (hx : ns[x]? = some ⟨9, line, 0, nm, [a, b]⟩) (h : RS nv fv lvs pvs ns fs w) (hlen : (atT (shV ns a) (leftLv (signLv nm))).length + nm.length + (atT (shV ns b) (signLv nm + 1)).length ≤ 100000000) :
    Calls Tryd.prog 15 #[.agg #[nv, fv], .int .i64 x] w fun e w' => e = .returned (.string (bs (atT (shV ns a) (leftLv (signLv nm)) ++ nm ++ atT (shV ns b) (signLv nm + 1)))) ∧ Fr nob w w' := by
  obtain ⟨nb, c, kv, rfl, hc, hkv, x0, x1, x2, x3, x4⟩ := h.tree.node hx
  obtain ⟨FA, FC, rfl, _, _⟩ := h.tree.fns.cap
  have hlt := (List.getElem?_eq_some_iff.1 hx).1
  have hx3 : (x : Int) < (ns.length : Int) := by omega
  have hx4 : (ns.length : Int) ≤ 9223372036854775807 := by have := h.tree.nodes.cap; obtain ⟨A, c2, e, h1, h2⟩ := this; unfold maxLen at h2; omega
  have n3 : nb < w.heap.size := World.block_lt_of_cell? w ⟨nb, x * 5, none⟩ x0
  have n2 : ¬ nb = w.heap.size := by omega
  dsimp only at x0 x1 x2 x3 x4 hkv
  obtain ⟨kb, kc, rfl, _, _⟩ := kids_get hkv (show 0 < 2 by decide)
  have HLV := hid (fun w' => rlevel_any ⟨9, line, 0, nm, [a, b]⟩ (.slice (some ⟨kb, 0, none⟩) 2 kc) (fun _ => hy) _ _ _ rfl w')
  have e9 : levN ⟨9, line, 0, nm, [a, b]⟩ = signLv nm := by unfold levN; simp
  rw [e9] at HLV
  have hll : signLv nm ≤ 4 := by unfold signLv; (repeat' split) <;> omega
  have hl4 : (signLv nm : Int) ≤ 4 := by omega
  have HX := hid hxa
  have HK := hid hka
  have HX2 := hid hxb
  have HK2 := hid hkb
  clear hxa hka hxb hkb hy e9
  have S0 := hid h
  have HO := hid hkv
  have HOK := hid hok
  have HL := hid hlen
  clear h hlen hok hkv hx hlt hc
  unfold leftLv at *
  generalize signLv nm = L at *
  obtain ⟨M, hM⟩ : ∃ M, M = L + 1 := ⟨_, rfl⟩
  have hw : IntKind.i64.wrap ((L : Int) + 1) = (M : Int) := by rw [IntWalk.i64_in _ (by omega)]; omega
  rw [← hM] at HL ⊢
  have hM2 : M ≤ 5 := by omega
  by_cases h2 : L = 2
  · subst h2
    subst hM
    rw [if_pos rfl] at HL ⊢
    simp only [Nat.reduceAdd] at HL ⊢
    clear hw hM2 hl4
    have nl1 : ¬ 9223372036854775807 < (bs (atT (shV ns a) 3)).size + (bs nm).size := by have h5 := HL.out; rw [bs_size, bs_size]; omega
    have nl2 : ¬ 9223372036854775807 < (bs (atT (shV ns a) 3)).size + (bs nm).size + (bs (atT (shV ns b) 3)).size := by have h5 := HL.out; rw [bs_size, bs_size, bs_size]; omega
    go_enter Tryd.func15, Tryd.ntmps15
    go_wp2_with fail
    have S1 := hid (S0.out.copy (k := 9) (line := line) (n := 0) (name := (bs nm)) HO.out)
    have F1 := hid (show Fr nob w ((w.alloc (.cells #[.slice (some ⟨nb, 0, none⟩) ns.length c, .slice FA fs.length FC] 26)).alloc (.cells #[.int .i64 9, .int .i64 line, .int .i64 0, .string (bs nm), .slice (some ⟨kb, 0, none⟩) [a, b].length kc] 34)) from ((Fr.refl nob w).alloc _).alloc _)
    clear n2 n3 x0 x1 x2 x3 x4 hx3 hx4 HO S0
    generalize hB : w.heap.size = B at *
    clear hB
    generalize hw1 : (w.alloc (.cells #[.slice (some ⟨nb, 0, none⟩) ns.length c, .slice FA fs.length FC] 26)).alloc (.cells #[.int .i64 9, .int .i64 line, .int .i64 0, .string (bs nm), .slice (some ⟨kb, 0, none⟩) [a, b].length kc] 34) = w1 at *
    clear hw1
    obtain ⟨d0, d1, c0, c2, c3, c4⟩ := S1.out.cells
    have k0 := S1.out.2.2.kid 0 a rfl
    have k1 := S1.out.2.2.kid 1 b rfl
    refine (HLV.out _).mono ?_
    rintro e w2 ⟨rfl, hf⟩
    have F2 := hid (F1.out.tr hf)
    have S2 := hid (S1.out.no hf)
    clear hf d0 d1 c0 c2 c3 c4 k0 k1
    obtain ⟨d0, d1, c0, c2, c3, c4⟩ := S2.out.cells
    have k0 := S2.out.2.2.kid 0 a rfl
    have k1 := S2.out.2.2.kid 1 b rfl
    have CK : ∀ (wa wx : World), Fr nob wa wx → wa.heap = w2.heap → wa.os = w2.os → wa.output = w2.output → wa.tape = w2.tape → wx.cell? ⟨B + 1, 3, none⟩ = some (.string (bs nm)) ∧ wx.cell? ⟨B, 0, none⟩ = some (.slice (some ⟨nb, 0, none⟩) ns.length c) ∧ wx.cell? ⟨B, 1, none⟩ = some (.slice FA fs.length FC) ∧ wx.cell? ⟨B + 1, 4, none⟩ = some (.slice (some ⟨kb, 0, none⟩) 2 kc) ∧ wx.cell? ⟨kb, 0, none⟩ = some (.int .i64 (a : Nat)) ∧ wx.cell? ⟨kb, 1, none⟩ = some (.int .i64 (b : Nat)) := fun wa wx hf e1 e2 e3 e4 => by
      have h1 := (S2.out.same e1 e2 e3 e4).no hf
      exact ⟨h1.cells.2.2.2.2.1, h1.cells.1, h1.cells.2.1, h1.cells.2.2.2.2.2, h1.2.2.kid 0 a rfl, h1.2.2.kid 1 b rfl⟩
    have HCK := hid CK
    clear CK
    go_wp2_with fail
    go_region_held3 (fun wx => wx.cell? ⟨B + 1, 3, none⟩ = some (.string (bs nm)) ∧ wx.cell? ⟨B, 0, none⟩ = some (.slice (some ⟨nb, 0, none⟩) ns.length c) ∧ wx.cell? ⟨B, 1, none⟩ = some (.slice FA fs.length FC) ∧ wx.cell? ⟨B + 1, 4, none⟩ = some (.slice (some ⟨kb, 0, none⟩) 2 kc) ∧ wx.cell? ⟨kb, 0, none⟩ = some (.int .i64 (a : Nat)) ∧ wx.cell? ⟨kb, 1, none⟩ = some (.int .i64 (b : Nat))) (first | exact K4.out | exact K3.out | go_keep)
      (first
        | (go_at_call 26; have tok := S3; go_must (refine (rat_any HOK.out HX2.out HK2.out 3 (by omega) S3.out.1 (by have h5 := HL.out; omega)).mono ?_); go_loud (rintro e w4 ⟨rfl, hf⟩); go_loud (have S4 := hid (S3.out.no hf)); go_loud (have K4 := hid (And.intro S4.out.cells.2.2.2.2.1 (And.intro S4.out.cells.1 (And.intro S4.out.cells.2.1 (And.intro S4.out.cells.2.2.2.2.2 (And.intro (S4.out.2.2.kid 0 a rfl) (S4.out.2.2.kid 1 b rfl))))))); have F4 := hid hf; clear hf tok)
        | (go_at_call 26; go_must (refine (rat_any HOK.out HX.out HK.out 3 (by omega) (S2.out.1.no ((Fr.refl nob w2).drew)) (by have h5 := HL.out; omega)).mono ?_); go_loud (rintro e w3 ⟨rfl, hf⟩); go_loud (have K3 := hid (HCK.out _ w3 hf rfl rfl rfl rfl)); have F3 := hid hf; have S3 := hid ((S2.out.no ((Fr.refl nob w2).drew)).no hf); clear hf))
    go_wp2_with fail
    go_ret
    refine ⟨?_, ((F2.out.drew).tr F3.out).tr F4.out⟩
    show Ending.returned (.string (bs (atT (shV ns a) 3) ++ bs nm ++ bs (atT (shV ns b) 3))) = _
    rw [bs_add, bs_add]
  · rw [if_neg h2] at HL ⊢
    have l2 : ((L : Int) == 2) = false := beq_eq_false_iff_ne.2 (by omega)
    clear h2 hM
    have nl1 : ¬ 9223372036854775807 < (bs (atT (shV ns a) L)).size + (bs nm).size := by have h5 := HL.out; rw [bs_size, bs_size]; omega
    have nl2 : ¬ 9223372036854775807 < (bs (atT (shV ns a) L)).size + (bs nm).size + (bs (atT (shV ns b) M)).size := by have h5 := HL.out; rw [bs_size, bs_size, bs_size]; omega
    go_enter Tryd.func15, Tryd.ntmps15
    go_wp2_with fail
    have S1 := hid (S0.out.copy (k := 9) (line := line) (n := 0) (name := (bs nm)) HO.out)
    have F1 := hid (show Fr nob w ((w.alloc (.cells #[.slice (some ⟨nb, 0, none⟩) ns.length c, .slice FA fs.length FC] 26)).alloc (.cells #[.int .i64 9, .int .i64 line, .int .i64 0, .string (bs nm), .slice (some ⟨kb, 0, none⟩) [a, b].length kc] 34)) from ((Fr.refl nob w).alloc _).alloc _)
    clear n2 n3 x0 x1 x2 x3 x4 hx3 hx4 HO S0
    generalize hB : w.heap.size = B at *
    clear hB
    generalize hw1 : (w.alloc (.cells #[.slice (some ⟨nb, 0, none⟩) ns.length c, .slice FA fs.length FC] 26)).alloc (.cells #[.int .i64 9, .int .i64 line, .int .i64 0, .string (bs nm), .slice (some ⟨kb, 0, none⟩) [a, b].length kc] 34) = w1 at *
    clear hw1
    obtain ⟨d0, d1, c0, c2, c3, c4⟩ := S1.out.cells
    have k0 := S1.out.2.2.kid 0 a rfl
    have k1 := S1.out.2.2.kid 1 b rfl
    refine (HLV.out _).mono ?_
    rintro e w2 ⟨rfl, hf⟩
    have F2 := hid (F1.out.tr hf)
    have S2 := hid (S1.out.no hf)
    clear hf d0 d1 c0 c2 c3 c4 k0 k1
    obtain ⟨d0, d1, c0, c2, c3, c4⟩ := S2.out.cells
    have k0 := S2.out.2.2.kid 0 a rfl
    have k1 := S2.out.2.2.kid 1 b rfl
    have CK : ∀ (wa wx : World), Fr nob wa wx → wa.heap = w2.heap → wa.os = w2.os → wa.output = w2.output → wa.tape = w2.tape → wx.cell? ⟨B + 1, 3, none⟩ = some (.string (bs nm)) ∧ wx.cell? ⟨B, 0, none⟩ = some (.slice (some ⟨nb, 0, none⟩) ns.length c) ∧ wx.cell? ⟨B, 1, none⟩ = some (.slice FA fs.length FC) ∧ wx.cell? ⟨B + 1, 4, none⟩ = some (.slice (some ⟨kb, 0, none⟩) 2 kc) ∧ wx.cell? ⟨kb, 0, none⟩ = some (.int .i64 (a : Nat)) ∧ wx.cell? ⟨kb, 1, none⟩ = some (.int .i64 (b : Nat)) := fun wa wx hf e1 e2 e3 e4 => by
      have h1 := (S2.out.same e1 e2 e3 e4).no hf
      exact ⟨h1.cells.2.2.2.2.1, h1.cells.1, h1.cells.2.1, h1.cells.2.2.2.2.2, h1.2.2.kid 0 a rfl, h1.2.2.kid 1 b rfl⟩
    have HCK := hid CK
    clear CK
    go_wp2_with fail
    go_region_held3 (fun wx => wx.cell? ⟨B + 1, 3, none⟩ = some (.string (bs nm)) ∧ wx.cell? ⟨B, 0, none⟩ = some (.slice (some ⟨nb, 0, none⟩) ns.length c) ∧ wx.cell? ⟨B, 1, none⟩ = some (.slice FA fs.length FC) ∧ wx.cell? ⟨B + 1, 4, none⟩ = some (.slice (some ⟨kb, 0, none⟩) 2 kc) ∧ wx.cell? ⟨kb, 0, none⟩ = some (.int .i64 (a : Nat)) ∧ wx.cell? ⟨kb, 1, none⟩ = some (.int .i64 (b : Nat))) (first | exact K4.out | exact K3.out | go_keep)
      (first
        | (go_at_call 26; have tok := S3; go_must (refine (rat_any HOK.out HX2.out HK2.out M (by omega) S3.out.1 (by have h5 := HL.out; omega)).mono ?_); go_loud (rintro e w4 ⟨rfl, hf⟩); go_loud (have S4 := hid (S3.out.no hf)); go_loud (have K4 := hid (And.intro S4.out.cells.2.2.2.2.1 (And.intro S4.out.cells.1 (And.intro S4.out.cells.2.1 (And.intro S4.out.cells.2.2.2.2.2 (And.intro (S4.out.2.2.kid 0 a rfl) (S4.out.2.2.kid 1 b rfl))))))); have F4 := hid hf; clear hf tok)
        | (go_at_call 26; go_must (refine (rat_any HOK.out HX.out HK.out L (by omega) (S2.out.1.no ((Fr.refl nob w2).drew)) (by have h5 := HL.out; omega)).mono ?_); go_loud (rintro e w3 ⟨rfl, hf⟩); go_loud (have K3 := hid (HCK.out _ w3 hf rfl rfl rfl rfl)); have F3 := hid hf; have S3 := hid ((S2.out.no ((Fr.refl nob w2).drew)).no hf); clear hf))
    go_wp2_with fail
    go_ret
    refine ⟨?_, ((F2.out.drew).tr F3.out).tr F4.out⟩
    show Ending.returned (.string (bs (atT (shV ns a) L) ++ bs nm ++ bs (atT (shV ns b) M))) = _
    rw [bs_add, bs_add]

end
end Go.Proofs.YtahhgnbiahomiaaDoor
/- Show: the reference: Expr at a call. -/
namespace Go.Proofs.YtahhgnbiahomiaaDoor
open Go.RowKit
set_option linter.unusedVariables false
set_option linter.unusedSimpArgs false
section
variable {nv fv : Value} {lvs pvs : List Value} {ns : List NodeM} {fs : List FuncM} {w w' : World}
set_option maxHeartbeats 1000000 in
set_option maxRecDepth 100000 in
theorem rexpr_call (hok : NodesOk ns) {x : Nat} {line : Nat} {nm : List UInt8} {l : List Nat} (hl : ∀ a ∈ l, RexprOk nv fv lvs pvs ns fs a ∧ Kid ns clsR a) (hll : l.length ≤ 1000000000) (hx : ns[x]? = some ⟨21, line, 0, nm, l⟩) (h : RS nv fv lvs pvs ns fs w) (hlen : nm.length + (rowP (fun j => txt ns (l.getD j 0)) l.length).length + 2 ≤ 100000000) :
    Calls Tryd.prog 15 #[.agg #[nv, fv], .int .i64 x] w fun e w' => e = .returned (.string (bs (nm ++ [40] ++ rowP (fun j => txt ns (l.getD j 0)) l.length ++ [41]))) ∧ Fr nob w w' := by
  obtain ⟨nb, c, kv, rfl, hc, hkv, x0, x1, x2, x3, x4⟩ := h.tree.node hx
  obtain ⟨FA, FC, rfl, _, _⟩ := h.tree.fns.cap
  have hlt := (List.getElem?_eq_some_iff.1 hx).1
  have hx3 : (x : Int) < (ns.length : Int) := by omega
  have hx4 : (ns.length : Int) ≤ 9223372036854775807 := by have := h.tree.nodes.cap; obtain ⟨A, c2, e, h1, h2⟩ := this; unfold maxLen at h2; omega
  have n3 : nb < w.heap.size := World.block_lt_of_cell? w ⟨nb, x * 5, none⟩ x0
  have n2 : ¬ nb = w.heap.size := by omega
  dsimp only at x0 x1 x2 x3 x4 hkv
  obtain ⟨KA, KC, rfl, _, _⟩ := hkv.cap
  have hll2 : (l.length : Int) ≤ 1000000000 := by omega
  have HK := hid hl
  have S0 := hid h
  have HO := hid hkv
  have HL := hid hlen
  have nl0 : ¬ 9223372036854775807 < (bs nm).size + 1 := by rw [bs_size]; omega
  clear h hlen hok hkv hx hlt hc hl hll
  generalize hT : (fun j => txt ns (l.getD j 0)) = T at *
  have HT := hid hT
  clear hT
  go_enter Tryd.func15, Tryd.ntmps15
  go_wp2_with fail
  have S1 := hid (S0.out.copy (k := 21) (line := line) (n := 0) (name := bs nm) HO.out)
  have F1 := hid (show Fr nob w ((w.alloc (.cells #[.slice (some ⟨nb, 0, none⟩) ns.length c, .slice FA fs.length FC] 26)).alloc (.cells #[.int .i64 21, .int .i64 line, .int .i64 0, .string (bs nm), .slice KA l.length KC] 34)) from ((Fr.refl nob w).alloc _).alloc _)
  clear n2 n3 x0 x1 x2 x3 x4 hx3 hx4 HO S0
  generalize hB : w.heap.size = B at *
  clear hB
  generalize hw1 : (w.alloc (.cells #[.slice (some ⟨nb, 0, none⟩) ns.length c, .slice FA fs.length FC] 26)).alloc (.cells #[.int .i64 21, .int .i64 line, .int .i64 0, .string (bs nm), .slice KA l.length KC] 34) = w1 at *
  clear hw1
  go_loopw [8, 9] (fun s i wr => ∃ j : Nat, j ≤ l.length ∧ i = .int .i64 j ∧ s = .string (bs (nm ++ [40] ++ rowP T j)) ∧ Hid (RK (.slice (some ⟨nb, 0, none⟩) ns.length c) (.slice FA fs.length FC) lvs pvs ns fs B 21 line 0 (bs nm) (.slice KA l.length KC) l wr) ∧ Hid (Fr nob w wr)) (fun _ i _ => l.length - (intOf i).toNat)
  case atStart => exact ⟨0, Nat.zero_le _, rfl, by show Value.string (bs nm ++ bs [40]) = _; rw [bs_add]; simp [rowP], S1, F1⟩
  case round =>
    obtain ⟨j, hj, rfl, rfl, S, FR⟩ := hrel
    obtain ⟨d0, d1, c0, c2, c3, c4⟩ := S.out.cells
    by_cases hlt : j < l.length
    · have hlt2 : (j : Int) < (l.length : Int) := by omega
      have hj2 : (j : Int) ≤ 1000000000 := by omega
      obtain ⟨a, ha⟩ : ∃ a, l[j]? = some a := ⟨_, List.getElem?_eq_getElem hlt⟩
      obtain ⟨kb, c', e, _, hq⟩ := kids_get S.out.2.2.2 (by omega)
      injection e with e1 e2 e3
      subst e1
      have k0 := hq j a ha
      clear hq e2 e3
      have hTj : T j = txt ns a := by rw [← HT.out]; show txt ns (l.getD j 0) = _; rw [List.getD_eq_getElem?_getD, ha]; rfl
      have HTJ := hid hTj
      have HP := hid (rowP_lt (T := T) hlt)
      obtain ⟨hxa, hka⟩ := HK.out a (List.mem_of_getElem? ha)
      have CK : ∀ (wa wx : World), Fr nob wa wx → wa.heap = wr.heap → wa.os = wr.os → wa.output = wr.output → wa.tape = wr.tape → wx.cell? ⟨B, 0, none⟩ = some (.slice (some ⟨nb, 0, none⟩) ns.length c) ∧ wx.cell? ⟨B, 1, none⟩ = some (.slice FA fs.length FC) ∧ wx.cell? ⟨B + 1, 4, none⟩ = some (.slice (some ⟨kb, 0, none⟩) l.length KC) ∧ wx.cell? ⟨kb, j, none⟩ = some (.int .i64 (a : Nat)) := fun wa wx hf e1 e2 e3 e4 => by
        have h1 := (S.out.same e1 e2 e3 e4).no hf
        exact ⟨h1.cells.1, h1.cells.2.1, h1.cells.2.2.2.2.2, h1.2.2.kid j a ha⟩
      have HCK := hid CK
      have HXA := hid hxa
      have HKA := hid hka
      obtain ⟨P, hP⟩ : ∃ P, P = nm ++ [40] ++ rowP T j := ⟨_, rfl⟩
      have hPl : P.length = nm.length + 1 + (rowP T j).length := by rw [hP]; simp; omega
      rw [← hP]
      have HPP := hid (And.intro hP hPl)
      have nl1 : ¬ 9223372036854775807 < (bs P).size + 1 := by have h5 := HP.out; have h6 := HL.out; rw [bs_size]; omega
      have nl2 : ¬ 9223372036854775807 < (bs P).size + (bs (txt ns a)).size := by have h5 := HP.out; have h6 := HL.out; rw [bs_size, bs_size, ← hTj]; omega
      have nl3 : ¬ 9223372036854775807 < (bs P).size + 1 + (bs (txt ns a)).size := by have h5 := HP.out; have h6 := HL.out; rw [bs_size, bs_size, ← hTj]; split at h5 <;> omega
      have hxl : (txt ns a).length ≤ 100000000 := by have h5 := HP.out; have h6 := HL.out; rw [← hTj]; omega
      have HXL := hid hxl
      clear ha CK hxa hka hP hPl hTj hxl
      by_cases h0 : j = 0
      · have h00 : ¬ (0 : Int) < (j : Int) := by omega
        have H0 := hid h0
        clear h0
        go_wp2_with fail
        go_region_held3 (fun wx => wx.cell? ⟨B, 0, none⟩ = some (.slice (some ⟨nb, 0, none⟩) ns.length c) ∧ wx.cell? ⟨B, 1, none⟩ = some (.slice FA fs.length FC) ∧ wx.cell? ⟨B + 1, 4, none⟩ = some (.slice (some ⟨kb, 0, none⟩) l.length KC) ∧ wx.cell? ⟨kb, j, none⟩ = some (.int .i64 (a : Nat))) (first | exact K2.out | go_keep)
          (first
            | (go_at_call 15; go_loud (refine (HXA.out _ (S.out.1.no ((Fr.refl nob wr).drew)) HKA.out HXL.out).mono ?_); go_loud (rintro e w2 ⟨rfl, hf⟩); go_loud (have K2 := hid (HCK.out _ w2 hf rfl rfl rfl rfl)); have F2 := hid hf; clear hf))
        clear d0 d1 c0 c2 c3 c4 k0
        go_wp2_with fail
        go_roundw
        case rel => exact ⟨j + 1, by omega, by go_num, by
          show Value.string (bs P ++ bs (txt ns a)) = _
          rw [bs_add, rowP, if_pos H0.out, HPP.out.1, HTJ.out]; simp [List.append_assoc], hid ((S.out.no ((Fr.refl nob wr).drew)).no F2.out), hid (FR.out.drew.tr F2.out)⟩
        case measure => simp [intOf]; omega
      · have h00 : (0 : Int) < (j : Int) := by omega
        go_wp2_with fail
        go_region_held3 (fun wx => wx.cell? ⟨B, 0, none⟩ = some (.slice (some ⟨nb, 0, none⟩) ns.length c) ∧ wx.cell? ⟨B, 1, none⟩ = some (.slice FA fs.length FC) ∧ wx.cell? ⟨B + 1, 4, none⟩ = some (.slice (some ⟨kb, 0, none⟩) l.length KC) ∧ wx.cell? ⟨kb, j, none⟩ = some (.int .i64 (a : Nat))) (first | exact K2.out | go_keep)
          (first
            | (go_at_call 15; go_loud (refine (HXA.out _ (S.out.1.no ((Fr.refl nob wr).drew)) HKA.out HXL.out).mono ?_); go_loud (rintro e w2 ⟨rfl, hf⟩); go_loud (have K2 := hid (HCK.out _ w2 hf rfl rfl rfl rfl)); have F2 := hid hf; clear hf))
        clear d0 d1 c0 c2 c3 c4 k0
        go_wp2_with fail
        go_roundw
        case rel => exact ⟨j + 1, by omega, by go_num, by
          show Value.string (bs P ++ bs [44] ++ bs (txt ns a)) = _
          rw [bs_add, bs_add, rowP, if_neg h0, HPP.out.1, HTJ.out]; simp [List.append_assoc], hid ((S.out.no ((Fr.refl nob wr).drew)).no F2.out), hid (FR.out.drew.tr F2.out)⟩
        case measure => simp [intOf]; omega
    · have hle : (l.length : Int) ≤ (j : Int) := by omega
      have hje : j = l.length := by omega
      obtain ⟨P, hP⟩ : ∃ P, P = nm ++ [40] ++ rowP T j := ⟨_, rfl⟩
      have nl1 : ¬ 9223372036854775807 < (bs P).size + 1 := by have h6 := HL.out; rw [bs_size, hP, hje]; simp only [List.length_append, List.length_cons, List.length_nil]; omega
      rw [← hP]
      have HJ := hid (And.intro hje hP)
      clear hje hP
      go_wp2_with fail
      go_ret
      refine ⟨?_, FR.out⟩
      show Ending.returned (.string (bs P ++ bs [41])) = _
      rw [bs_add, HJ.out.2, HJ.out.1]
end
end Go.Proofs.YtahhgnbiahomiaaDoor
/- Show: the reference: Expr, whole. -/
namespace Go.Proofs.YtahhgnbiahomiaaDoor
open Go.RowKit
set_option linter.unusedVariables false
set_option linter.unusedSimpArgs false
section
variable {nv fv : Value} {lvs pvs : List Value} {ns : List NodeM} {fs : List FuncM}
theorem rexpr_ok (hok : NodesOk ns) : ∀ x, RexprOk nv fv lvs pvs ns fs x := by
  intro x
  induction x using Nat.strongRecOn with
  | _ x ih =>
    intro w h hk hlen
    obtain ⟨nd, hx, hcl⟩ := hk
    have hN := hok x nd hx
    have kid : ∀ {a}, Kid (ns.take x) clsE a → RexprOk nv fv lvs pvs ns fs a ∧ Kid ns clsR a ∧ shV (ns.take x) a = shV ns a := fun {a} hk => by
      obtain ⟨h1, h2⟩ := hk.take
      exact ⟨ih a h1, h2.le (fun k hk => by unfold clsR; rw [hk]; rfl), shV_take h1⟩
    rw [txt_eq hx] at hlen ⊢
    cases hN with
    | int line n hn => exact rexpr_int hok hn hx h hlen
    | bool line n hn =>
      have e : textN (fun i => shV (ns.take x) i) ⟨2, line, n, [], []⟩ = if n = 1 then [116, 114, 117, 101] else [102, 97, 108, 115, 101] := rfl
      rw [e] at hlen ⊢
      by_cases h1 : n = 1
      · rw [if_pos h1] at hlen ⊢
        exact rexpr_bool1 hok h1 hx h hlen
      · rw [if_neg h1] at hlen ⊢
        exact rexpr_bool0 hok h1 hx h hlen
    | text line y =>
      exact rexpr_text hok hx h hlen
    | var line y => exact rexpr_var hok hx h hlen
    | index line y a ha =>
      obtain ⟨k1, k2, k3⟩ := kid ha
      have e : textN (fun i => shV (ns.take x) i) ⟨5, line, 0, y, [a]⟩ = y ++ [91] ++ txt ns a ++ [93] := by
        show y ++ [91] ++ (shV (ns.take x) a).1 ++ [93] = _
        rw [k3]; simp [txt, List.append_assoc]
      rw [e] at hlen ⊢
      refine rexpr_index hok k1 k2 hx h ?_
      simp only [List.length_cons, List.length_append, List.length_nil] at hlen; omega
    | len line a ha =>
      obtain ⟨k1, k2, k3⟩ := kid ha
      have e : textN (fun i => shV (ns.take x) i) ⟨6, line, 0, [], [a]⟩ = [108, 101, 110, 40] ++ (txt ns a ++ [41]) := by
        show [108, 101, 110, 40] ++ (shV (ns.take x) a).1 ++ [41] = _
        rw [k3]; simp [txt, List.append_assoc]
      rw [e] at hlen ⊢
      refine rexpr_len hok k1 k2 hx h ?_
      simp only [List.length_cons, List.length_append, List.length_nil] at hlen; omega
    | neg line a ha =>
      obtain ⟨k1, k2, k3⟩ := kid ha
      have e : textN (fun i => shV (ns.take x) i) ⟨7, line, 0, [], [a]⟩ = 45 :: atT (shV ns a) 5 := by
        show 45 :: atT (shV (ns.take x) a) 5 = _
        rw [k3]
      rw [e] at hlen ⊢
      refine rexpr_neg hok k1 k2 hx h ?_
      simp only [List.length_cons] at hlen; omega
    | not line a ha =>
      obtain ⟨k1, k2, k3⟩ := kid ha
      have e : textN (fun i => shV (ns.take x) i) ⟨8, line, 0, [], [a]⟩ = 33 :: atT (shV ns a) 5 := by
        show 33 :: atT (shV (ns.take x) a) 5 = _
        rw [k3]
      rw [e] at hlen ⊢
      refine rexpr_not hok k1 k2 hx h ?_
      simp only [List.length_cons] at hlen; omega
    | bin line y a b hy ha hb =>
      obtain ⟨k1, k2, k3⟩ := kid ha
      obtain ⟨l1, l2, l3⟩ := kid hb
      have e : textN (fun i => shV (ns.take x) i) ⟨9, line, 0, y, [a, b]⟩ = atT (shV ns a) (leftLv (signLv y)) ++ y ++ atT (shV ns b) (signLv y + 1) := by
        show atT (shV (ns.take x) a) (leftLv (signLv y)) ++ y ++ atT (shV (ns.take x) b) (signLv y + 1) = _
        rw [k3, l3]
      rw [e] at hlen ⊢
      refine rexpr_bin hok hy k1 k2 l1 l2 hx h ?_
      simp only [List.length_append] at hlen; omega
    | input line => exact rexpr_input hok hx h hlen
    | new line a ha =>
      obtain ⟨k1, k2, k3⟩ := kid ha
      have e : textN (fun i => shV (ns.take x) i) ⟨20, line, 0, [], [a]⟩ = [110, 101, 119, 40] ++ (txt ns a ++ [41]) := by
        show [110, 101, 119, 40] ++ (shV (ns.take x) a).1 ++ [41] = _
        rw [k3]; simp [txt, List.append_assoc]
      rw [e] at hlen ⊢
      refine rexpr_new hok k1 k2 hx h ?_
      simp only [List.length_cons, List.length_append, List.length_nil] at hlen; omega
    | call line y l hl =>
      have e : textN (fun i => shV (ns.take x) i) ⟨21, line, 0, y, l⟩ = y ++ [40] ++ rowP (fun j => txt ns (l.getD j 0)) l.length ++ [41] := by
        show y ++ [40] ++ joinC (l.map fun c => (shV (ns.take x) c).1) ++ [41] = _
        rw [rowP_join l, show (l.map fun c => (shV (ns.take x) c).1) = l.map (txt ns) from List.map_congr_left (fun a ha => by rw [(kid (hl a ha)).2.2]; rfl)]
      rw [e] at hlen ⊢
      have h5 := rowP_ge (fun j => txt ns (l.getD j 0)) l.length
      simp only [List.length_cons, List.length_append, List.length_nil] at hlen
      exact rexpr_call hok (fun a ha => ⟨(kid (hl a ha)).1, (kid (hl a ha)).2.1⟩) (by omega) hx h (by omega)
    | _ => simp [clsR, clsE] at hcl
end
end Go.Proofs.YtahhgnbiahomiaaDoor
