/- QA7: TrT, QShown, TrM, TrS2, PaA. -/
import Derived.Test.YtlbjicjinnnboaaGreatDoorME
import Derived.Test.YtlbjicjinnnboaaGreatDoorQA6
/- Trees in memory: nodes, what is below them. -/
namespace Go.Proofs.YtlbjicjinnnboaaGreatDoor
open Go.RowKit
set_option linter.unusedVariables false
set_option linter.unusedSimpArgs false
theorem bs_size (l : List UInt8) : (bs l).size = l.length := by show l.toArray.size = _; simp
theorem fnCells_all : ∀ {fs : List FuncM} {vs : List Value} {j : Nat} {f : FuncM} {v : Value}, fs[j]? = some f → vs[j]? = some v → ∀ i u, (fnCell f v)[i]? = some u → (fnCells fs vs)[j * 5 + i]? = some u
  | [], _, _, _, _, h, _ => by simp at h
  | _ :: _, [], _, _, _, _, h => by simp at h
  | a :: fs, b :: vs, 0, f, v, h, h2 => by
    simp at h h2; subst h; subst h2
    intro i u hu
    rw [fnCells, List.getElem?_append_left (by have := (List.getElem?_eq_some_iff.1 hu).1; omega), Nat.zero_mul, Nat.zero_add]
    exact hu
  | a :: fs, b :: vs, j + 1, f, v, h, h2 => by
    intro i u hu
    have := fnCells_all (fs := fs) (vs := vs) (j := j) (by simpa using h) (by simpa using h2) i u hu
    rw [fnCells, List.getElem?_append_right (by simp [fnCell]; omega), show (fnCell a b).length = 5 from rfl, show (j + 1) * 5 + i - 5 = j * 5 + i by omega]
    exact this
theorem paramCells_get : ∀ {l : List (List UInt8 × Nat)} {i : Nat} {q : List UInt8 × Nat}, l[i]? = some q → (paramCells l)[i * 2]? = some (.string (bs q.1)) ∧ (paramCells l)[i * 2 + 1]? = some (.int .i64 (q.2 : Nat))
  | [], _, _, h => by simp at h
  | a :: l, 0, q, h => by simp at h; subst h; exact ⟨rfl, rfl⟩
  | a :: l, i + 1, q, h => by
    have ih := paramCells_get (l := l) (i := i) (by simpa using h)
    have e : paramCells (a :: l) = .string (bs a.1) :: .int .i64 (a.2 : Nat) :: paramCells l := rfl
    rw [e, show (i + 1) * 2 = i * 2 + 1 + 1 by omega, List.getElem?_cons_succ, List.getElem?_cons_succ, show i * 2 + 1 + 1 + 1 = (i * 2 + 1) + 1 + 1 by omega, List.getElem?_cons_succ, List.getElem?_cons_succ]
    exact ih
theorem nodesCells_get : ∀ {ns : List NodeM} {vs : List Value} {j : Nat} {nd : NodeM} {v : Value}, ns[j]? = some nd → vs[j]? = some v → ∀ i u, (nodeCells nd v)[i]? = some u → (nodesCells ns vs)[j * 5 + i]? = some u
  | [], _, _, _, _, h, _ => by simp at h
  | _ :: _, [], _, _, _, _, h => by simp at h
  | a :: ns, b :: vs, 0, nd, v, h, h2 => by
    simp at h h2; subst h; subst h2
    intro i u hu
    rw [nodesCells, List.getElem?_append_left (by have := (List.getElem?_eq_some_iff.1 hu).1; omega), Nat.zero_mul, Nat.zero_add]
    exact hu
  | a :: ns, b :: vs, j + 1, nd, v, h, h2 => by
    intro i u hu
    have := nodesCells_get (ns := ns) (vs := vs) (j := j) (by simpa using h) (by simpa using h2) i u hu
    rw [nodesCells, List.getElem?_append_right (by simp [nodeCells]; omega), show (nodeCells a b).length = 5 from rfl, show (j + 1) * 5 + i - 5 = j * 5 + i by omega]
    exact this
theorem Below2.get {w : World} : ∀ {ns : List NodeM} {vs : List Value} {j : Nat} {nd : NodeM} {v : Value}, Below2 w ns vs → ns[j]? = some nd → vs[j]? = some v → Own w 3 1 v nd.l.length (ints nd.l)
  | [], _, _, _, _, _, h, _ => by simp at h
  | _ :: _, [], _, _, _, _, _, h => by simp at h
  | a :: ns, b :: vs, 0, nd, v, hp, h, h2 => by simp at h h2; subst h; subst h2; exact hp.1
  | a :: ns, b :: vs, j + 1, nd, v, hp, h, h2 => Below2.get hp.2 (by simpa using h) (by simpa using h2)
section
variable {g : Nat} {lvs pvs : List Value} {ns : List NodeM} {fs : List FuncM} {w0 w w' : World} {out : List UInt8} {NA FA : Option Addr} {NC FC : Nat}
/-- A node of a tree in memory. -/
theorem TreeAt.node {B : Nat} {nv fv : Value} (h : TreeAt B w nv fv lvs pvs ns fs) {x : Nat} {nd : NodeM} (hx : ns[x]? = some nd) : ∃ nb c lv, nv = .slice (some ⟨nb, 0, none⟩) ns.length c ∧ ns.length ≤ c ∧ Own w 3 1 lv nd.l.length (ints nd.l) ∧
    w.cell? ⟨nb, x * 5, none⟩ = some (.int .i64 nd.kind) ∧ w.cell? ⟨nb, x * 5 + 1, none⟩ = some (.int .i64 nd.line) ∧ w.cell? ⟨nb, x * 5 + 2, none⟩ = some (.int .i64 nd.n) ∧ w.cell? ⟨nb, x * 5 + 3, none⟩ = some (.string (bs nd.name)) ∧ w.cell? ⟨nb, x * 5 + 4, none⟩ = some lv := by
  have hlt := (List.getElem?_eq_some_iff.1 hx).1
  obtain ⟨A, c, rfl, hc, _⟩ := h.nodes.cap
  obtain ⟨nb, rfl, hcell⟩ := h.nodes.some (by omega)
  obtain ⟨lv, hlv⟩ : ∃ lv, lvs[x]? = some lv := ⟨_, List.getElem?_eq_getElem (by have := h.same; omega)⟩
  have key := nodesCells_get hx hlv
  exact ⟨nb, c, lv, rfl, hc, h.below.get hx hlv, hcell _ _ (key 0 _ rfl), hcell _ _ (key 1 _ rfl), hcell _ _ (key 2 _ rfl), hcell _ _ (key 3 _ rfl), hcell _ _ (key 4 _ rfl)⟩
/-- A node's row of numbers. -/
theorem kids_get {v : Value} {l : List Nat} (h : Own w 3 1 v l.length (ints l)) (h0 : 0 < l.length) : ∃ kb c, v = .slice (some ⟨kb, 0, none⟩) l.length c ∧ l.length ≤ c ∧ ∀ j a, l[j]? = some a → w.cell? ⟨kb, j, none⟩ = some (.int .i64 (a : Nat)) := by
  obtain ⟨A, c, rfl, hc, _⟩ := h.cap
  obtain ⟨kb, rfl, hcell⟩ := h.some h0
  exact ⟨kb, c, rfl, hc, fun j a ha => hcell _ _ (by simp [ints, ha])⟩
end
section
variable {nv fv : Value} {lvs pvs : List Value} {ns : List NodeM} {fs : List FuncM} {w w' : World}
theorem TreeAt.no (h : TreeAt 0 w nv fv lvs pvs ns fs) (f : Fr nob w w') : TreeAt 0 w' nv fv lvs pvs ns fs :=
  ⟨h.nodes.fr f (fun _ _ x => x), h.below.no f, h.same, h.fns.fr f (fun _ _ x => x), h.pars.to f (fun _ _ _ x => x), h.samef, h.newn, h.newf⟩
theorem TreeAt.node3 {B nb c : Nat} {fv : Value} (h : TreeAt B w (.slice (some ⟨nb, 0, none⟩) ns.length c) fv lvs pvs ns fs) {x : Nat} {nd : NodeM} (hx : ns[x]? = some nd) {lv : Value} (hlv : lvs[x]? = some lv) : Own w 3 1 lv nd.l.length (ints nd.l) ∧
    w.cell? ⟨nb, x * 5, none⟩ = some (.int .i64 nd.kind) ∧ w.cell? ⟨nb, x * 5 + 1, none⟩ = some (.int .i64 nd.line) ∧ w.cell? ⟨nb, x * 5 + 2, none⟩ = some (.int .i64 nd.n) ∧ w.cell? ⟨nb, x * 5 + 3, none⟩ = some (.string (bs nd.name)) ∧ w.cell? ⟨nb, x * 5 + 4, none⟩ = some lv := by
  have hlt := (List.getElem?_eq_some_iff.1 hx).1
  obtain ⟨nb', e, hcell⟩ := h.nodes.some (by omega)
  injection e with e
  injection e with e
  subst e
  have key := nodesCells_get hx hlv
  exact ⟨h.below.get hx hlv, hcell _ _ (key 0 _ rfl), hcell _ _ (key 1 _ rfl), hcell _ _ (key 2 _ rfl), hcell _ _ (key 3 _ rfl), hcell _ _ (key 4 _ rfl)⟩
theorem TreeAt.fn {B fb c : Nat} {w : World} (h : TreeAt B w nv (.slice (some ⟨fb, 0, none⟩) fs.length c) lvs pvs ns fs) {j : Nat} {f : FuncM} (hf : fs[j]? = some f) : ∃ pv, Own w 101 2 pv f.params.length (paramCells f.params) ∧
    w.cell? ⟨fb, j * 5, none⟩ = some (.string (bs f.name)) ∧ w.cell? ⟨fb, j * 5 + 1, none⟩ = some (.int .i64 f.line) ∧ w.cell? ⟨fb, j * 5 + 2, none⟩ = some pv ∧ w.cell? ⟨fb, j * 5 + 3, none⟩ = some (.int .i64 f.ret) ∧ w.cell? ⟨fb, j * 5 + 4, none⟩ = some (.int .i64 f.body) := by
  have hlt := (List.getElem?_eq_some_iff.1 hf).1
  obtain ⟨fb', e, hcell⟩ := h.fns.some (by omega)
  injection e with e
  injection e with e
  subst e
  obtain ⟨pv, hpv⟩ : ∃ pv, pvs[j]? = some pv := ⟨_, List.getElem?_eq_getElem (by have := h.samef; omega)⟩
  have key := fnCells_all hf hpv
  exact ⟨pv, h.pars.get hf hpv, hcell _ _ (key 0 _ rfl), hcell _ _ (key 1 _ rfl), hcell _ _ (key 2 _ rfl), hcell _ _ (key 3 _ rfl), hcell _ _ (key 4 _ rfl)⟩
end
theorem TreeAt.zero {B : Nat} {w : World} {nv fv : Value} {lvs pvs : List Value} {ns : List NodeM} {fs : List FuncM} (h : TreeAt B w nv fv lvs pvs ns fs) : TreeAt 0 w nv fv lvs pvs ns fs :=
  ⟨h.nodes, h.below, h.same, h.fns, h.pars, h.samef, fun _ _ => Nat.zero_le _, fun _ _ => Nat.zero_le _⟩
end Go.Proofs.YtlbjicjinnnboaaGreatDoor
/- Parse: the document's example, short. -/
namespace Go.Proofs.YtlbjicjinnnboaaGreatDoor
open Go.RowKit
set_option linter.unusedVariables false
set_option linter.unusedSimpArgs false
theorem PVars.no {w w' : World} (h : PVars w) (f : Fr nob w w') : PVars w' := ⟨h.lex.fr f, h.most.imp fun m hm => hm.fr f (fun x => x)⟩
def exSrc : List UInt8 := [102, 110, 32, 109, 97, 105, 110, 40, 41, 32, 123, 32, 112, 114, 105, 110, 116, 32, 49, 43, 50, 59, 32, 125]
def exNs : List NodeM := [⟨1, 1, 1, [], []⟩, ⟨1, 1, 2, [], []⟩, ⟨9, 1, 0, [43], [0, 1]⟩, ⟨14, 1, 0, [], [2]⟩, ⟨18, 1, 0, [], [3]⟩]
def exFs : List FuncM := [⟨[109, 97, 105, 110], 1, [], 0, 4⟩]
theorem ex_parse : parseM exSrc = some (.good exNs exFs) := by kernel_rfl
set_option maxHeartbeats 2000000 in
set_option maxRecDepth 100000 in
theorem shown_any (w : World) (hv : PVars w) : Calls Tryz.prog 23 #[] w fun e w' => e = .returned (.bool true) ∧ Fr nob w w' := by
  have HP := hid (qall_any ⟨#[102, 110, 32, 109, 97, 105, 110, 40, 41, 32, 123, 32, 112, 114, 105, 110, 116, 32, 49, 43, 50, 59, 32, 125]⟩ w (by decide) hv (r := .good exNs exFs) ex_parse)
  clear hv
  go_enter Tryz.func23, Tryz.ntmps23
  go_wp2_with fail
  refine HP.out.mono ?_
  rintro e w1 ⟨⟨nv, fv, lvs, pvs, rfl, ht⟩, hf⟩
  have F1 := hid hf
  obtain ⟨NA, NC, rfl, _, _⟩ := ht.nodes.cap
  obtain ⟨nb, rfl, _⟩ := ht.nodes.some (by decide)
  obtain ⟨FA, FC, rfl, _, _⟩ := ht.fns.cap
  obtain ⟨fb, rfl, _⟩ := ht.fns.some (by decide)
  have hsm : lvs.length = 5 := ht.same.symm
  obtain ⟨_, _, _, a0, _, _⟩ := ht.node3 (x := 0) rfl (List.getElem?_eq_getElem (by omega))
  obtain ⟨_, b0, _, _, b1, _⟩ := ht.node3 (x := 2) rfl (List.getElem?_eq_getElem (by omega))
  obtain ⟨_, c0, _, _, _, _⟩ := ht.node3 (x := 4) rfl (List.getElem?_eq_getElem (by omega))
  obtain ⟨_, _, _, _, _, _, d0⟩ := ht.fn (j := 0) rfl
  have hs : ((⟨#[43]⟩ : ByteArray).toList == [43]) = true := by kernel_rfl
  have HT := hid ht.nodes
  clear ht hf
  have f0 : Fr nob w1 (w1.alloc (.cells #[.slice (some ⟨nb, 0, none⟩) 5 NC, .slice (some ⟨fb, 0, none⟩) 1 FC] 26)) := (Fr.refl nob w1).alloc _
  have A0 : (w1.alloc (.cells #[.slice (some ⟨nb, 0, none⟩) 5 NC, .slice (some ⟨fb, 0, none⟩) 1 FC] 26)).cell? ⟨nb, 2, none⟩ = some (.int .i64 1) := (f0.cell (World.block_lt_of_cell? _ _ a0) (fun x => x)).trans a0
  have B0 : (w1.alloc (.cells #[.slice (some ⟨nb, 0, none⟩) 5 NC, .slice (some ⟨fb, 0, none⟩) 1 FC] 26)).cell? ⟨nb, 10, none⟩ = some (.int .i64 9) := (f0.cell (World.block_lt_of_cell? _ _ b0) (fun x => x)).trans b0
  have B1 : (w1.alloc (.cells #[.slice (some ⟨nb, 0, none⟩) 5 NC, .slice (some ⟨fb, 0, none⟩) 1 FC] 26)).cell? ⟨nb, 13, none⟩ = some (.string ⟨#[43]⟩) := (f0.cell (World.block_lt_of_cell? _ _ b1) (fun x => x)).trans b1
  have C0 : (w1.alloc (.cells #[.slice (some ⟨nb, 0, none⟩) 5 NC, .slice (some ⟨fb, 0, none⟩) 1 FC] 26)).cell? ⟨nb, 20, none⟩ = some (.int .i64 18) := (f0.cell (World.block_lt_of_cell? _ _ c0) (fun x => x)).trans c0
  have D0 : (w1.alloc (.cells #[.slice (some ⟨nb, 0, none⟩) 5 NC, .slice (some ⟨fb, 0, none⟩) 1 FC] 26)).cell? ⟨fb, 4, none⟩ = some (.int .i64 4) := (f0.cell (World.block_lt_of_cell? _ _ d0) (fun x => x)).trans d0
  clear a0 b0 b1 c0 d0 f0
  rw [show exNs.length = 5 from rfl, show exFs.length = 1 from rfl]
  go_wp2_with fail
  go_ret
  exact ⟨rfl, F1.out.alloc _⟩
theorem ext_take7 (s : ByteArray) : s.extract 0 700 = bs (s.data.toList.take 700) := by
  have h : (s.extract 0 700).data.toList = s.data.toList.take 700 := by rw [Lib.extract_data]; simp
  rw [← h]
  show s.extract 0 700 = ⟨(s.extract 0 700).data.toList.toArray⟩
  rw [Array.toArray_toList]
theorem short_any (s : ByteArray) (w : World) : Calls Tryz.prog 24 #[.string s] w fun e w' => e = .returned (.string (bs (s.data.toList.take 700))) ∧ w' = w := by
  by_cases h : s.size ≤ 700
  · have e : bs (s.data.toList.take 700) = s := by
      rw [List.take_of_length_le (by simpa using h)]
      show (⟨s.data.toList.toArray⟩ : ByteArray) = s
      simp
    rw [e]
    clear e
    go_enter Tryz.func24, Tryz.ntmps24
    go_wp2
    go_ret
    exact ⟨rfl, rfl⟩
  · have h2 : 700 < s.size := by omega
    go_enter Tryz.func24, Tryz.ntmps24
    go_wp2
    go_ret
    refine ⟨?_, rfl⟩
    rw [← ext_take7 s]
    rfl
end Go.Proofs.YtlbjicjinnnboaaGreatDoor
/- Back: lines that are struck, in memory. -/
namespace Go.Proofs.YtlbjicjinnnboaaGreatDoor
open Go.RowKit
set_option linter.unusedVariables false
set_option linter.unusedSimpArgs false
def zeroN (n : NodeM) : NodeM := { n with line := 0 }
def zeroF (f : FuncM) : FuncM := { f with line := 0 }
def zp {α : Type} (z : α → α) : Nat → List α → List α
  | 0, l => l
  | _ + 1, [] => []
  | j + 1, a :: l => z a :: zp z j l
theorem zp_len {α : Type} (z : α → α) : ∀ (j : Nat) (l : List α), (zp z j l).length = l.length
  | 0, _ => rfl
  | _ + 1, [] => rfl
  | j + 1, a :: l => by simp [zp, zp_len z j l]
theorem zp_get {α : Type} (z : α → α) : ∀ (j : Nat) (l : List α), (zp z j l)[j]? = l[j]?
  | 0, _ => rfl
  | _ + 1, [] => rfl
  | j + 1, a :: l => by simp [zp, zp_get z j l]
theorem zp_set {α : Type} (z : α → α) : ∀ (j : Nat) (l : List α) (a : α), l[j]? = some a → zp z (j + 1) l = (zp z j l).set j (z a)
  | 0, [], _, h => by simp at h
  | 0, b :: l, a, h => by simp at h; subst h; rfl
  | j + 1, [], _, h => by simp at h
  | j + 1, b :: l, a, h => by
    have := zp_set z j l a (by simpa using h)
    rw [zp, this]; rfl
theorem zp_all {α : Type} (z : α → α) : ∀ (l : List α), zp z l.length l = l.map z
  | [] => rfl
  | a :: l => by simp [zp, zp_all z l]
theorem zero_cells : ∀ {ns : List NodeM} {vs : List Value} {j : Nat} {nd : NodeM}, ns[j]? = some nd → ns.length = vs.length → nodesCells (ns.set j (zeroN nd)) vs = (nodesCells ns vs).set (j * 5 + 1) (.int .i64 0)
  | [], _, _, _, h, _ => by simp at h
  | _ :: _, [], _, _, _, h => by simp at h
  | a :: ns, b :: vs, 0, nd, h, hl => by simp at h; subst h; rfl
  | a :: ns, b :: vs, j + 1, nd, h, hl => by
    have := zero_cells (ns := ns) (vs := vs) (j := j) (by simpa using h) (by simpa using hl)
    rw [List.set_cons_succ, nodesCells, this, nodesCells, List.set_append_right _ _ (by simp [nodeCells]; omega)]
    congr 2
    simp [nodeCells]; omega
theorem zero_fcells : ∀ {fs : List FuncM} {vs : List Value} {j : Nat} {f : FuncM}, fs[j]? = some f → fs.length = vs.length → fnCells (fs.set j (zeroF f)) vs = (fnCells fs vs).set (j * 5 + 1) (.int .i64 0)
  | [], _, _, _, h, _ => by simp at h
  | _ :: _, [], _, _, _, h => by simp at h
  | a :: fs, b :: vs, 0, f, h, hl => by simp at h; subst h; rfl
  | a :: fs, b :: vs, j + 1, f, h, hl => by
    have := zero_fcells (fs := fs) (vs := vs) (j := j) (by simpa using h) (by simpa using hl)
    rw [List.set_cons_succ, fnCells, this, fnCells, List.set_append_right _ _ (by simp [fnCell]; omega)]
    congr 2
    simp [fnCell]; omega
theorem below_set {w : World} : ∀ {ns : List NodeM} {vs : List Value} {j : Nat} {nd : NodeM}, ns[j]? = some nd → Below2 w ns vs → Below2 w (ns.set j (zeroN nd)) vs
  | [], _, _, _, h, _ => by simp at h
  | _ :: _, [], _, _, _, h => h.elim
  | a :: ns, b :: vs, 0, nd, h, hb => by simp at h; subst h; exact ⟨hb.1, hb.2⟩
  | a :: ns, b :: vs, j + 1, nd, h, hb => ⟨hb.1, below_set (ns := ns) (by simpa using h) hb.2⟩
theorem par_set {w : World} : ∀ {fs : List FuncM} {vs : List Value} {j : Nat} {f : FuncM}, fs[j]? = some f → ParAll w fs vs → ParAll w (fs.set j (zeroF f)) vs
  | [], _, _, _, h, _ => by simp at h
  | _ :: _, [], _, _, _, h => h.elim
  | a :: fs, b :: vs, 0, f, h, hb => by simp at h; subst h; exact ⟨hb.1, hb.2⟩
  | a :: fs, b :: vs, j + 1, f, h, hb => ⟨hb.1, par_set (fs := fs) (by simpa using h) hb.2⟩
/-- A tree in a variable's box. -/
structure TB (b : Nat) (nv fv : Value) (lvs pvs : List Value) (ns : List NodeM) (fs : List FuncM) (w : World) : Prop where
  tree : TreeAt 0 w nv fv lvs pvs ns fs
  box : Blk w b 26 #[nv, fv]
section
variable {b : Nat} {nv fv : Value} {lvs pvs : List Value} {ns : List NodeM} {fs : List FuncM} {w w' : World}
theorem TB.no (h : TB b nv fv lvs pvs ns fs w) (f : Fr nob w w') : TB b nv fv lvs pvs ns fs w' := ⟨h.tree.no f, h.box.fr f (fun x => x)⟩
theorem TB.cells (h : TB b nv fv lvs pvs ns fs w) : w.cell? ⟨b, 0, none⟩ = some nv ∧ w.cell? ⟨b, 1, none⟩ = some fv := ⟨by simpa using h.box.cell 0, by simpa using h.box.cell 1⟩
theorem one_set (w : World) (g i : Nat) (u : Value) : Fr (oneb g) w (w.setCell ⟨g, i, none⟩ u) := (Fr.refl _ w).setCell _ _ (fun _ => rfl)
/-- A cell of a block of nodes, or of functions, that is no block of this tree, is set. -/
theorem TB.far (h : TB b nv fv lvs pvs ns fs w) {g i : Nat} {t : TypeId} {cs : Array Value} (hg : Blk w g t cs) (ht : t = 50 ∨ t = 48) (hn : blk nv ≠ some g) (hf : blk fv ≠ some g) (u : Value) : TB b nv fv lvs pvs ns fs (w.setCell ⟨g, i, none⟩ u) := by
  refine ⟨⟨h.tree.nodes.far hn u, Below2.one hg (by rcases ht with rfl | rfl <;> decide) h.tree.below (one_set w g i u), h.tree.same, h.tree.fns.far hf u, h.tree.pars.to (one_set w g i u) (fun k cs' hk hm => ?_), h.tree.samef, h.tree.newn, h.tree.newf⟩, h.box.far (p := ⟨g, i, none⟩) (h.box.ne hg (by rcases ht with rfl | rfl <;> decide)) u⟩
  have e : k = g := hm
  subst e
  exact hk.ne hg (by rcases ht with rfl | rfl <;> decide) rfl
theorem own_blk {e size n g c : Nat} {xs : List Value} (h : Own w e size (.slice (some ⟨g, 0, none⟩) n c) n xs) (hn : 0 < n) : (∃ cs, Blk w g e cs) ∧ blk (.slice (some ⟨g, 0, none⟩) n c) = some g := by
  obtain ⟨_, A, c', e1, h1⟩ := h
  injection e1 with e1 e2 e3
  rcases h1 with ⟨h1, h2⟩ | ⟨g', cur, h1, hc, h2, _⟩
  · omega
  · rw [h1] at e1
    injection e1 with e1
    injection e1 with e1
    subst e1
    exact ⟨⟨cur, h2⟩, by show (if c = 0 then none else some g) = some g; rw [if_neg (by omega)]⟩
/-- A node's line is struck. -/
theorem TB.nline {nb c : Nat} (h : TB b (.slice (some ⟨nb, 0, none⟩) ns.length c) fv lvs pvs ns fs w) {j : Nat} {nd : NodeM} (hx : ns[j]? = some nd) : TB b (.slice (some ⟨nb, 0, none⟩) ns.length c) fv lvs pvs (ns.set j (zeroN nd)) fs (w.setCell ⟨nb, j * 5 + 1, none⟩ (.int .i64 0)) := by
  have hlt := (List.getElem?_eq_some_iff.1 hx).1
  obtain ⟨⟨cs, hg⟩, hbk⟩ := own_blk h.tree.nodes (by omega)
  have hst := h.tree.nodes.store (g := nb) hbk (j * 5 + 1) (.int .i64 0)
  rw [← zero_cells hx h.tree.same] at hst
  have hf : blk fv ≠ some nb := h.tree.fns.blk_ne hg (by decide)
  have hl : (ns.set j (zeroN nd)).length = ns.length := List.length_set
  refine ⟨⟨by rw [hl]; exact hst, below_set hx (Below2.one hg (by decide) h.tree.below (one_set w nb (j * 5 + 1) _)), by rw [hl]; exact h.tree.same, h.tree.fns.far (p := ⟨nb, j * 5 + 1, none⟩) hf _, h.tree.pars.to (one_set w nb (j * 5 + 1) _) (fun k cs' hk hm => ?_), h.tree.samef, h.tree.newn, h.tree.newf⟩, h.box.far (p := ⟨nb, j * 5 + 1, none⟩) (h.box.ne hg (by decide)) _⟩
  have e : k = nb := hm
  subst e
  exact hk.ne hg (by decide) rfl
/-- A function's line is struck. -/
theorem TB.fline {fb c : Nat} (h : TB b nv (.slice (some ⟨fb, 0, none⟩) fs.length c) lvs pvs ns fs w) {j : Nat} {f : FuncM} (hx : fs[j]? = some f) : TB b nv (.slice (some ⟨fb, 0, none⟩) fs.length c) lvs pvs ns (fs.set j (zeroF f)) (w.setCell ⟨fb, j * 5 + 1, none⟩ (.int .i64 0)) := by
  have hlt := (List.getElem?_eq_some_iff.1 hx).1
  obtain ⟨⟨cs, hg⟩, hbk⟩ := own_blk h.tree.fns (by omega)
  have hst := h.tree.fns.store (g := fb) hbk (j * 5 + 1) (.int .i64 0)
  rw [← zero_fcells hx h.tree.samef] at hst
  have hn : blk nv ≠ some fb := h.tree.nodes.blk_ne hg (by decide)
  have hl : (fs.set j (zeroF f)).length = fs.length := List.length_set
  have hp : ParAll (w.setCell ⟨fb, j * 5 + 1, none⟩ (.int .i64 0)) fs pvs := h.tree.pars.to (one_set w fb (j * 5 + 1) _) (fun k cs' hk hm => by
    have e : k = fb := hm
    subst e
    exact hk.ne hg (by decide) rfl)
  exact ⟨⟨h.tree.nodes.far (p := ⟨fb, j * 5 + 1, none⟩) hn _, Below2.one hg (by decide) h.tree.below (one_set w fb (j * 5 + 1) _), h.tree.same, by rw [hl]; exact hst, par_set hx hp, by rw [hl]; exact h.tree.samef, h.tree.newn, h.tree.newf⟩, h.box.far (p := ⟨fb, j * 5 + 1, none⟩) (h.box.ne hg (by decide)) _⟩
end
set_option maxHeartbeats 1000000 in
set_option maxRecDepth 100000 in
/-- Two rows of the same numbers. -/
theorem rints_any {kv kv2 : Value} {l : List Nat} {w : World} (h1 : Own w 3 1 kv l.length (ints l)) (h2 : Own w 3 1 kv2 l.length (ints l)) : Calls Tryz.prog 85 #[kv, kv2] w fun e w' => e = .returned (.bool true) ∧ Fr nob w w' := by
  obtain ⟨KA, KC, rfl, ka, kc⟩ := h1.cap
  obtain ⟨LA, LC, rfl, _, _⟩ := h2.cap
  have hl4 : (l.length : Int) ≤ 9223372036854775807 := by unfold maxLen at kc; omega
  have H1 := hid h1
  have H2 := hid h2
  clear h1 h2 ka kc
  go_enter Tryz.func85, Tryz.ntmps85
  go_wp2_with fail
  go_loopw [5] (fun i wr => ∃ j : Nat, j ≤ l.length ∧ i = .int .i64 j ∧ Hid (Fr nob w wr)) (fun i _ => l.length - (intOf i).toNat)
  case atStart => exact ⟨0, Nat.zero_le _, rfl, hid (Fr.refl nob w)⟩
  case round =>
    obtain ⟨j, hj, rfl, FR⟩ := hrel
    by_cases hlt : j < l.length
    · have hlt2 : (j : Int) < (l.length : Int) := by omega
      obtain ⟨a, ha⟩ : ∃ a, l[j]? = some a := ⟨_, List.getElem?_eq_getElem hlt⟩
      obtain ⟨kb, c1, e, _, hq⟩ := kids_get (H1.out.fr FR.out (fun _ _ x => x)) (by omega)
      injection e with e1 e2 e3
      subst e1
      obtain ⟨mb, c2, e, _, hq2⟩ := kids_get (H2.out.fr FR.out (fun _ _ x => x)) (by omega)
      injection e with e1 e4 e5
      subst e1
      have k0 := hq j a ha
      have k1 := hq2 j a ha
      clear hq hq2 e2 e3 e4 e5 ha
      go_wp2_with fail
      go_quiet (fail)
      go_wp2_with fail
      go_roundw
      case rel => exact ⟨j + 1, by omega, by go_num, hid (by first | exact FR.out | exact FR.out.drewN _)⟩
      case measure => simp [intOf]; omega
    · have hle : (l.length : Int) ≤ (j : Int) := by omega
      go_wp2_with fail
      go_ret
      exact ⟨rfl, FR.out⟩
end Go.Proofs.YtlbjicjinnnboaaGreatDoor
/- Back: Same, of two trees that are the same. -/
namespace Go.Proofs.YtlbjicjinnnboaaGreatDoor
open Go.RowKit
set_option linter.unusedVariables false
set_option linter.unusedSimpArgs false
section
variable {nv fv nv2 fv2 : Value} {lvs pvs lvs2 pvs2 : List Value} {ns : List NodeM} {fs : List FuncM} {w w' : World}
def TT (B : Nat) (nv fv nv2 fv2 : Value) (lvs pvs lvs2 pvs2 : List Value) (ns : List NodeM) (fs : List FuncM) (w : World) : Prop := TB B nv fv lvs pvs ns fs w ∧ TB (B + 1) nv2 fv2 lvs2 pvs2 ns fs w
theorem TT.no {B : Nat} (h : TT B nv fv nv2 fv2 lvs pvs lvs2 pvs2 ns fs w) (f : Fr nob w w') : TT B nv fv nv2 fv2 lvs pvs lvs2 pvs2 ns fs w' := ⟨h.1.no f, h.2.no f⟩
set_option maxHeartbeats 8000000 in
set_option maxRecDepth 100000 in
theorem same_any (h1 : TreeAt 0 w nv fv lvs pvs ns fs) (h2 : TreeAt 0 w nv2 fv2 lvs2 pvs2 ns fs) (hn : ns.length ≤ 1000) (hfl : fs.length ≤ 1000) (hps : ∀ f ∈ fs, f.params.length ≤ 1000) :
    Calls Tryz.prog 54 #[.agg #[nv, fv], .agg #[nv2, fv2]] w fun e w' => e = .returned (.bool true) ∧ Fr nob w w' := by
  obtain ⟨NA, NC, rfl, _, _⟩ := h1.nodes.cap
  obtain ⟨FA, FC, rfl, _, _⟩ := h1.fns.cap
  obtain ⟨MA, MC, rfl, _, _⟩ := h2.nodes.cap
  obtain ⟨GA, GC, rfl, _, _⟩ := h2.fns.cap
  have S0 := hid (show TT w.heap.size (.slice NA ns.length NC) (.slice FA fs.length FC) (.slice MA ns.length MC) (.slice GA fs.length GC) lvs pvs lvs2 pvs2 ns fs ((w.alloc (.cells #[.slice NA ns.length NC, .slice FA fs.length FC] 26)).alloc (.cells #[.slice MA ns.length MC, .slice GA fs.length GC] 26)) from by
    refine ⟨⟨(h1.no ((Fr.refl nob w).alloc _)).no ((Fr.refl nob _).alloc _), (Blk.new w _ _).alloc _⟩, ⟨(h2.no ((Fr.refl nob w).alloc _)).no ((Fr.refl nob _).alloc _), ?_⟩⟩
    exact Blk.new1 _ _ _ _)
  have F0 := hid (show Fr nob w ((w.alloc (.cells #[.slice NA ns.length NC, .slice FA fs.length FC] 26)).alloc (.cells #[.slice MA ns.length MC, .slice GA fs.length GC] 26)) from ((Fr.refl nob w).alloc _).alloc _)
  have HPS := hid hps
  have hn2 : (ns.length : Int) ≤ 1000 := by omega
  have hf2 : (fs.length : Int) ≤ 1000 := by omega
  clear h1 h2 hps
  go_enter Tryz.func54, Tryz.ntmps54
  go_wp2_with fail
  generalize hw1 : (w.alloc (.cells #[.slice NA ns.length NC, .slice FA fs.length FC] 26)).alloc (.cells #[.slice MA ns.length MC, .slice GA fs.length GC] 26) = w1 at *
  clear hw1
  generalize hB : w.heap.size = B at *
  clear hB
  go_loopw [5] (fun i wr => ∃ j : Nat, j ≤ ns.length ∧ i = .int .i64 j ∧ Hid (TT B (.slice NA ns.length NC) (.slice FA fs.length FC) (.slice MA ns.length MC) (.slice GA fs.length GC) lvs pvs lvs2 pvs2 ns fs wr) ∧ Hid (Fr nob w wr)) (fun i _ => ns.length - (intOf i).toNat)
  case atStart => exact ⟨0, Nat.zero_le _, rfl, S0, F0⟩
  case round =>
    obtain ⟨j, hj, rfl, S, FR⟩ := hrel
    obtain ⟨d0, d1⟩ := S.out.1.cells
    obtain ⟨d2, d3⟩ := S.out.2.cells
    by_cases hlt : j < ns.length
    · have hlt2 : (j : Int) < (ns.length : Int) := by omega
      have hj6 : (j : Int) ≤ 1000 := by omega
      obtain ⟨nd, hnd⟩ : ∃ nd, ns[j]? = some nd := ⟨_, List.getElem?_eq_getElem hlt⟩
      obtain ⟨nb, c1, lv, e, _, hlv, x0, x1, x2, x3, x4⟩ := S.out.1.tree.node hnd
      injection e with e1 e2 e3
      subst e1
      obtain ⟨mb, c2, lv2, e, _, hlv2, y0, y1, y2, y3, y4⟩ := S.out.2.tree.node hnd
      injection e with e1 e4 e5
      subst e1
      obtain ⟨KA, KC, rfl, _, _⟩ := hlv.cap
      obtain ⟨LA, LC, rfl, _, _⟩ := hlv2.cap
      have HK1 := hid hlv
      have HK2 := hid hlv2
      have n1 : nb < wr.heap.size := World.block_lt_of_cell? wr ⟨nb, j * 5, none⟩ x0
      have n2 : mb < wr.heap.size := World.block_lt_of_cell? wr ⟨mb, j * 5, none⟩ y0
      have n3 : ¬ nb = wr.heap.size := by omega
      have n4 : ¬ mb = wr.heap.size := by omega
      have n5 : B < wr.heap.size := World.block_lt_of_cell? wr ⟨B, 0, none⟩ d0
      have n6 : B + 1 < wr.heap.size := World.block_lt_of_cell? wr ⟨B + 1, 0, none⟩ d2
      have n7 : ¬ B = wr.heap.size := by omega
      have n8 : ¬ B + 1 = wr.heap.size := by omega
      clear hnd e2 e3 e4 e5 hlv hlv2
      obtain ⟨k, line, n, name, kl⟩ := nd
      dsimp only at x0 x1 x2 x3 x4 y0 y1 y2 y3 y4 HK1 HK2
      go_wp2_with fail
      have FA2 : Fr nob wr ((wr.alloc (.cells #[.int .i64 k, .int .i64 line, .int .i64 n, .string (bs name), .slice KA kl.length KC] 50)).alloc (.cells #[.int .i64 k, .int .i64 line, .int .i64 n, .string (bs name), .slice LA kl.length LC] 50)) := ((Fr.refl nob wr).alloc _).alloc _
      have XB := hid (show Blk ((wr.alloc (.cells #[.int .i64 k, .int .i64 line, .int .i64 n, .string (bs name), .slice KA kl.length KC] 50)).alloc (.cells #[.int .i64 k, .int .i64 line, .int .i64 n, .string (bs name), .slice LA kl.length LC] 50)) wr.heap.size 50 _ from (Blk.new wr _ _).alloc _)
      have YB := hid (show Blk ((wr.alloc (.cells #[.int .i64 k, .int .i64 line, .int .i64 n, .string (bs name), .slice KA kl.length KC] 50)).alloc (.cells #[.int .i64 k, .int .i64 line, .int .i64 n, .string (bs name), .slice LA kl.length LC] 50)) (wr.heap.size + 1) 50 _ from Blk.new1 _ _ _ _)
      have S2 := hid (S.out.no FA2)
      have FR2 := hid (FR.out.tr FA2)
      have K1 := hid (HK1.out.fr FA2 (fun _ _ x => x))
      have K2 := hid (HK2.out.fr FA2 (fun _ _ x => x))
      clear n1 n2 n3 n4 n5 n6 n7 n8 d0 d1 d2 d3 x0 x1 x2 x3 x4 y0 y1 y2 y3 y4 FA2
      generalize hC : wr.heap.size = C at *
      clear hC
      generalize hw2 : (wr.alloc (.cells #[.int .i64 k, .int .i64 line, .int .i64 n, .string (bs name), .slice KA kl.length KC] 50)).alloc (.cells #[.int .i64 k, .int .i64 line, .int .i64 n, .string (bs name), .slice LA kl.length LC] 50) = w2 at *
      clear hw2
      refine (rints_any K1.out K2.out).mono ?_
      rintro e w3 ⟨rfl, hf⟩
      have S3 := hid (S2.out.no hf)
      have FR3 := hid (FR2.out.tr hf)
      have X3 := hid (XB.out.fr hf (fun x => x))
      have Y3 := hid (YB.out.fr hf (fun x => x))
      clear hf
      have a0 : w3.cell? ⟨C, 0, none⟩ = some (.int .i64 k) := by simpa using X3.out.cell 0
      have a1 : w3.cell? ⟨C, 1, none⟩ = some (.int .i64 line) := by simpa using X3.out.cell 1
      have a2 : w3.cell? ⟨C, 2, none⟩ = some (.int .i64 n) := by simpa using X3.out.cell 2
      have a3 : w3.cell? ⟨C, 3, none⟩ = some (.string (bs name)) := by simpa using X3.out.cell 3
      have b0 : w3.cell? ⟨C + 1, 0, none⟩ = some (.int .i64 k) := by simpa using Y3.out.cell 0
      have b1 : w3.cell? ⟨C + 1, 1, none⟩ = some (.int .i64 line) := by simpa using Y3.out.cell 1
      have b2 : w3.cell? ⟨C + 1, 2, none⟩ = some (.int .i64 n) := by simpa using Y3.out.cell 2
      have b3 : w3.cell? ⟨C + 1, 3, none⟩ = some (.string (bs name)) := by simpa using Y3.out.cell 3
      go_wp2_with fail
      go_roundw
      case rel => exact ⟨j + 1, by omega, by go_num, S3, FR3⟩
      case measure => simp [intOf]; omega
    · have hle : (ns.length : Int) ≤ (j : Int) := by omega
      go_wp2_with fail
      go_loopw [9] (fun i wr => ∃ j : Nat, j ≤ fs.length ∧ i = .int .i64 j ∧ Hid (TT B (.slice NA ns.length NC) (.slice FA fs.length FC) (.slice MA ns.length MC) (.slice GA fs.length GC) lvs pvs lvs2 pvs2 ns fs wr) ∧ Hid (Fr nob w wr)) (fun i _ => fs.length - (intOf i).toNat)
      case atStart => exact ⟨0, Nat.zero_le _, rfl, S, FR⟩
      case round =>
        clear d0 d1 d2 d3 S FR
        obtain ⟨j, hj, rfl, S, FR⟩ := hrel
        obtain ⟨d0, d1⟩ := S.out.1.cells
        obtain ⟨d2, d3⟩ := S.out.2.cells
        by_cases hlt : j < fs.length
        · have hlt2 : (j : Int) < (fs.length : Int) := by omega
          have hj6 : (j : Int) ≤ 1000 := by omega
          obtain ⟨f, hf⟩ : ∃ f, fs[j]? = some f := ⟨_, List.getElem?_eq_getElem hlt⟩
          obtain ⟨fb, e, _⟩ := S.out.1.tree.fns.some (by omega)
          subst e
          obtain ⟨gb, e, _⟩ := S.out.2.tree.fns.some (by omega)
          subst e
          obtain ⟨pv, hp, x0, x1, x2, x3, x4⟩ := S.out.1.tree.fn hf
          obtain ⟨qv, hq, y0, y1, y2, y3, y4⟩ := S.out.2.tree.fn hf
          obtain ⟨PA, PC, rfl, _, _⟩ := hp.cap
          obtain ⟨QA, QC, rfl, _, _⟩ := hq.cap
          have HP := hid hp
          have HQ := hid hq
          have hpl := HPS.out f (List.mem_of_getElem? hf)
          have n1 : fb < wr.heap.size := World.block_lt_of_cell? wr ⟨fb, j * 5, none⟩ x0
          have n2 : gb < wr.heap.size := World.block_lt_of_cell? wr ⟨gb, j * 5, none⟩ y0
          have n3 : ¬ fb = wr.heap.size := by omega
          have n4 : ¬ gb = wr.heap.size := by omega
          have n5 : B < wr.heap.size := World.block_lt_of_cell? wr ⟨B, 0, none⟩ d0
          have n6 : B + 1 < wr.heap.size := World.block_lt_of_cell? wr ⟨B + 1, 0, none⟩ d2
          have n7 : ¬ B = wr.heap.size := by omega
          have n8 : ¬ B + 1 = wr.heap.size := by omega
          clear hf hp hq
          obtain ⟨name, line, ps, ret, body⟩ := f
          dsimp only at x0 x1 x2 x3 x4 y0 y1 y2 y3 y4 HP HQ hpl
          have hpl2 : (ps.length : Int) ≤ 1000 := by omega
          go_wp2_with fail
          have FA2 : Fr nob wr ((wr.alloc (.cells #[.string (bs name), .int .i64 line, .slice PA ps.length PC, .int .i64 ret, .int .i64 body] 48)).alloc (.cells #[.string (bs name), .int .i64 line, .slice QA ps.length QC, .int .i64 ret, .int .i64 body] 48)) := ((Fr.refl nob wr).alloc _).alloc _
          have XB := hid (show Blk ((wr.alloc (.cells #[.string (bs name), .int .i64 line, .slice PA ps.length PC, .int .i64 ret, .int .i64 body] 48)).alloc (.cells #[.string (bs name), .int .i64 line, .slice QA ps.length QC, .int .i64 ret, .int .i64 body] 48)) wr.heap.size 48 _ from (Blk.new wr _ _).alloc _)
          have YB := hid (show Blk ((wr.alloc (.cells #[.string (bs name), .int .i64 line, .slice PA ps.length PC, .int .i64 ret, .int .i64 body] 48)).alloc (.cells #[.string (bs name), .int .i64 line, .slice QA ps.length QC, .int .i64 ret, .int .i64 body] 48)) (wr.heap.size + 1) 48 _ from Blk.new1 _ _ _ _)
          have S2 := hid (S.out.no FA2)
          have FR2 := hid (FR.out.tr FA2)
          have K1 := hid (HP.out.fr FA2 (fun _ _ x => x))
          have K2 := hid (HQ.out.fr FA2 (fun _ _ x => x))
          clear n1 n2 n3 n4 n5 n6 n7 n8 d0 d1 d2 d3 x0 x1 x2 x3 x4 y0 y1 y2 y3 y4 FA2
          generalize hC : wr.heap.size = C at *
          clear hC
          generalize hw2 : (wr.alloc (.cells #[.string (bs name), .int .i64 line, .slice PA ps.length PC, .int .i64 ret, .int .i64 body] 48)).alloc (.cells #[.string (bs name), .int .i64 line, .slice QA ps.length QC, .int .i64 ret, .int .i64 body] 48) = w2 at *
          clear hw2
          go_loopw [12] (fun i wq => ∃ j : Nat, j ≤ ps.length ∧ i = .int .i64 j ∧ Hid (TT B (.slice NA ns.length NC) (.slice (some ⟨fb, 0, none⟩) fs.length FC) (.slice MA ns.length MC) (.slice (some ⟨gb, 0, none⟩) fs.length GC) lvs pvs lvs2 pvs2 ns fs wq) ∧ Hid (Fr nob w wq) ∧ Hid (Fr nob w2 wq)) (fun i _ => ps.length - (intOf i).toNat)
          case atStart => exact ⟨0, Nat.zero_le _, rfl, S2, FR2, hid (Fr.refl nob w2)⟩
          case round =>
            clear S FR
            obtain ⟨m, hm, rfl, S, FR, F2⟩ := hrel
            have X3 := hid (XB.out.fr F2.out (fun x => x))
            have Y3 := hid (YB.out.fr F2.out (fun x => x))
            have a2 : wr.cell? ⟨C, 2, none⟩ = some (.slice PA ps.length PC) := by simpa using X3.out.cell 2
            have b2 : wr.cell? ⟨C + 1, 2, none⟩ = some (.slice QA ps.length QC) := by simpa using Y3.out.cell 2
            by_cases hml : m < ps.length
            · have hml2 : (m : Int) < (ps.length : Int) := by omega
              have hm6 : (m : Int) ≤ 1000 := by omega
              obtain ⟨q, hq⟩ : ∃ q, ps[m]? = some q := ⟨_, List.getElem?_eq_getElem hml⟩
              obtain ⟨pb, e, hc1⟩ := (K1.out.fr F2.out (fun _ _ x => x)).some (by omega)
              subst e
              obtain ⟨qb, e, hc2⟩ := (K2.out.fr F2.out (fun _ _ x => x)).some (by omega)
              subst e
              have p0 := hc1 _ _ (paramCells_get hq).1
              have p1 := hc1 _ _ (paramCells_get hq).2
              have q0 := hc2 _ _ (paramCells_get hq).1
              have q1 := hc2 _ _ (paramCells_get hq).2
              clear hc1 hc2 hq
              go_wp2_with fail
              go_quiet (fail)
              go_wp2_with fail
              go_roundw
              case rel => exact ⟨m + 1, by omega, by go_num, hid (by first | exact S.out | exact S.out.no ((Fr.refl nob _).drewN _)), hid (by first | exact FR.out | exact FR.out.drewN _), hid (by first | exact F2.out | exact F2.out.drewN _)⟩
              case measure => simp [intOf]; omega
            · have hle : (ps.length : Int) ≤ (m : Int) := by omega
              go_wp2_with fail
              go_roundw
              case rel => exact ⟨j + 1, by omega, by go_num, S, FR⟩
              case measure => simp [intOf]; omega
        · have hle : (fs.length : Int) ≤ (j : Int) := by omega
          go_wp2_with fail
          go_ret
          exact ⟨rfl, FR.out⟩
end
end Go.Proofs.YtlbjicjinnnboaaGreatDoor
/- Parse: what a parser's answer is, in one. -/
namespace Go.Proofs.YtlbjicjinnnboaaGreatDoor
open Go.RowKit
set_option linter.unusedVariables false
set_option linter.unusedSimpArgs false
def rNs : ParseR → List NodeM
  | .good ns _ => ns
  | .bad _ _ => []
def rFs : ParseR → List FuncM
  | .good _ fs => fs
  | .bad _ _ => []
def rA : ParseR → Nat
  | .good _ _ => 0
  | .bad p _ => p
def rE : ParseR → Nat
  | .good _ _ => 0
  | .bad _ e => e
theorem parseAt_tree {B : Nat} {w : World} {e : Ending} {r : ParseR} (h : ParseAt B w e r) : ∃ nv fv lvs pvs, e = .returned (.tuple #[.agg #[nv, fv], .int .i64 (rA r), .int .i64 (rE r)]) ∧ TreeAt B w nv fv lvs pvs (rNs r) (rFs r) := by
  cases r with
  | bad p er => exact ⟨_, _, [], [], h, Own.nil _ _ _, trivial, rfl, Own.nil _ _ _, trivial, rfl, fun k hk => by simp [blk] at hk, fun k hk => by simp [blk] at hk⟩
  | good ns fs => exact h
/-- A tree is not too big. -/
theorem parse_small {src : List UInt8} {r : ParseR} (h : parseM src = some r) : (rNs r).length ≤ 300 ∧ (rFs r).length ≤ 6 ∧ ∀ f ∈ rFs r, f.params.length ≤ 3 := by
  cases r with
  | bad p er => exact ⟨by simp [rNs], by simp [rFs], fun f hf => by simp [rFs] at hf⟩
  | good ns fs =>
    unfold parseM at h
    cases hl : lexM src with
    | bad p e => rw [hl] at h; simp at h
    | good ts =>
      rw [hl] at h
      simp only [parseT, Option.map_eq_some_iff] at h
      obtain ⟨q, hq, h⟩ := h
      split at h
      · cases h
      · split at h
        · cases h
        · rename_i hb
          injection h with h1 h2
          subst h1; subst h2
          have h3 : ¬ 300 < q.2.nodes.length := fun e => hb (.inl e)
          have h6 : ¬ 6 < q.1.length := fun e => hb (.inr (.inl e))
          refine ⟨by show q.2.nodes.length ≤ 300; omega, by show q.1.length ≤ 6; omega, fun f hf => ?_⟩
          by_cases hp : 3 < f.params.length
          · exact absurd (.inr (.inr (List.any_eq_true.2 ⟨f, hf, by simp [hp]⟩))) hb
          · omega
end Go.Proofs.YtlbjicjinnnboaaGreatDoor
