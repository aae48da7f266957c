/- MG: WBld, MapLit, WPut, WPut2, WExpr, WSigns, WExprK, WExprL, WRow, WExprM, WExprA. -/
import Derived.Test.YtahhgnbiahomiaaDoorMF
import Derived.Test.YtahhgnbiahomiaaDoorME
import Derived.Lib.Builder
import Derived.Lib.AppendStr
import Derived.Lib.UnsafeStr
import Derived.Laws.Externs
import Derived.Test.YtahhgnbiahomiaaDoorMA
import Derived.MapFrom
import Derived.Carry
import Derived.StillTailTactics
import Derived.Test.YtahhgnbiahomiaaDoorWShelf
import Derived.Deep.RegionHeld3
/- Show: a strings.Builder that lies in a field of the writer. -/
namespace Go.Proofs.YtahhgnbiahomiaaDoor
open Go.RowKit
set_option linter.unusedVariables false
set_option linter.unusedSimpArgs false

theorem u_ptr : Tryd.prog.underlying 50 = some (.pointer 53) := by kernel_rfl
theorem u_uns : Tryd.prog.underlying 100 = some .unsafePointer := by kernel_rfl
theorem i_bld : (Tryd.prog.info? 53).map (fun i => i.size) = some 2 := by kernel_rfl
theorem lies_bld : liesAt Tryd.prog Tryd.prog.depth 55 (4 / Tryd.prog.cellsOf 55) 2 53 1 = true := by kernel_rfl
set_option maxHeartbeats 1000000 in
set_option maxRecDepth 100000 in
theorem check_used (g : Nat) (w : World) (h0 : w.cell? ⟨g, 2, none⟩ = some (.pointer (some ⟨g, 2, none⟩))) :
    Calls Tryd.prog 69 #[.pointer (some ⟨g, 2, none⟩)] w fun e w' => e = .returned (.tuple #[]) ∧ w' = w := by
  obtain ⟨j, hj, hjs⟩ := Option.map_eq_some_iff.1 i_bld
  go_enter Tryd.func69, Tryd.ntmps69
  go_wp2
  rw [Lib.run_neq_ptr_same w _ u_ptr hj]
  go_wp2
  go_end0
  exact ⟨rfl, rfl⟩
set_option maxHeartbeats 1000000 in
set_option maxRecDepth 100000 in
theorem check_fresh (g : Nat) (w : World) (h0 : w.cell? ⟨g, 2, none⟩ = some (.pointer none)) (hsh : w.shape? g = some (55, 4)) (hfz : w.frozen? ⟨g, 2, none⟩ = false) :
    Calls Tryd.prog 69 #[.pointer (some ⟨g, 2, none⟩)] w fun e w' => e = .returned (.tuple #[]) ∧ w' = w.setCell ⟨g, 2, none⟩ (.pointer (some ⟨g, 2, none⟩)) := by
  obtain ⟨j, hj, hjs⟩ := Option.map_eq_some_iff.1 i_bld
  go_enter Tryd.func69, Tryd.ntmps69
  go_wp2
  rw [Lib.run_to_unsafe w ⟨g, 2, none⟩ u_ptr u_uns hj (by rw [hjs]; decide) hsh (show (2 : Nat) < 4 by decide)]
  simp only [Result.andThen]
  rw [Oper.upon_value]
  go_wp2
  rw [run_callFunc_extern Tryd.func77 (by kernel_rfl) (by kernel_rfl) (by kernel_rfl) (e := Extern.AbiNoEscape.same) (by kernel_rfl)]
  rw [Lib.run_noEscape]
  simp only [Result.andThen]
  rw [Oper.upon_value]
  go_wp2
  rw [Lib.run_from_unsafe w ⟨g, 2, none⟩ u_uns u_ptr hj hsh lies_bld]
  simp only [Result.andThen]
  rw [Oper.upon_value]
  go_wp2
  go_end0
  exact ⟨rfl, rfl⟩
/-- The writer's steps turn its own block, blocks of bytes behind it, and new ones. -/
def FrW (g : Nat) (w w' : World) : Prop := Fr (fun k => k = g ∨ (g < k ∧ ∃ cs f, w.heap[k]? = some (.cells cs 5 f))) w w'
theorem FrW.trans {g : Nat} {w w1 w2 : World} (h : FrW g w w1) (h2 : FrW g w1 w2) : FrW g w w2 := by
  refine Fr.trans h h2 (fun _ _ x => x) (fun k hk hM => ?_)
  rcases hM with rfl | ⟨hgk, cs, f, hc⟩
  · exact .inl rfl
  · by_cases hn : k = g ∨ (g < k ∧ ∃ cs f, w.heap[k]? = some (.cells cs 5 f))
    · exact hn
    · have := h.block k hk hn
      exact .inr ⟨hgk, cs, f, by rw [← this]; exact hc⟩
theorem FrW.no {g : Nat} {w w1 : World} (h : Fr nob w w1) : FrW g w w1 := Fr.ofNo h
theorem FrW.blk {g b : Nat} {t u : TypeId} {cs cg : Array Value} {w w' : World} (h : FrW g w w') (hg : Blk w g u cg) (hb : Blk w b t cs) (h1 : t ≠ u) (h2 : t ≠ 5) : Blk w' b t cs := by
  refine hb.fr h ?_
  rintro (e | ⟨_, cs', f, hc⟩)
  · subst e; exact hb.ne hg h1 rfl
  · unfold Blk at hb
    rw [hb] at hc
    injection hc with hc
    injection hc with _ ht
    exact h2 ht
theorem Own.frW {g : Nat} {w w' : World} {cs : Array Value} {t : TypeId} {e : TypeId} {size n : Nat} {v : Value} {xs : List Value} (h : Own w e size v n xs) (hb : Blk w g t cs) (ht : e ≠ t) (hn : e ≠ 5) (f : FrW g w w') : Own w' e size v n xs :=
  h.fr f (fun b hb' hm => by
    rcases hm with e1 | ⟨_, cs', f', hc⟩
    · exact h.blk_ne hb ht (by rw [hb', e1])
    · obtain ⟨cur, hcur⟩ := h.ty hb'
      unfold Blk at hcur
      rw [hcur] at hc
      injection hc with hc
      injection hc with _ h2 _
      exact hn h2)
theorem TreeAt.frW {B g : Nat} {w w' : World} {cs : Array Value} {nv fv : Value} {lvs pvs : List Value} {ns : List NodeM} {fs : List FuncM} (h : TreeAt B w nv fv lvs pvs ns fs) (hb : Blk w g 55 cs) (f : FrW g w w') : TreeAt B w' nv fv lvs pvs ns fs := by
  have hbel : ∀ {ns : List NodeM} {vs : List Value}, Below2 w ns vs → Below2 w' ns vs := by
    intro ns
    induction ns with
    | nil => intro vs hb; cases vs with
      | nil => trivial
      | cons _ _ => exact hb.elim
    | cons n ns ih => intro vs hb2; cases vs with
      | nil => exact hb2.elim
      | cons u vs => exact ⟨hb2.1.frW hb (by decide) (by decide) f, ih hb2.2⟩
  have hpar : ∀ {fs : List FuncM} {vs : List Value}, ParAll w fs vs → ParAll w' fs vs := by
    intro fs
    induction fs with
    | nil => intro vs hb; cases vs with
      | nil => trivial
      | cons _ _ => exact hb.elim
    | cons n ns ih => intro vs hb2; cases vs with
      | nil => exact hb2.elim
      | cons u vs => exact ⟨hb2.1.frW hb (by decide) (by decide) f, ih hb2.2⟩
  exact ⟨h.nodes.frW hb (by decide) (by decide) f, hbel h.below, h.same, h.fns.frW hb (by decide) (by decide) f, hpar h.pars, h.samef, h.newn, h.newf⟩
/-- The numerals' table, laid ahead of the writer. -/
def TabAt (g : Nat) (w : World) : Prop := ∃ k, Tryd.prog.globalNamed "internal/strconv.uint64pow10" = some k ∧ k < g ∧ g < w.heap.size ∧ Lib.TabIs Tryd.prog w "internal/strconv.uint64pow10" .u64 Lib.pow10Tab
theorem TabAt.frW {g : Nat} {w w' : World} (h : TabAt g w) (f : FrW g w w') : TabAt g w' := by
  obtain ⟨k, hk, hlt, hg, ht⟩ := h
  have hs := f.size
  refine ⟨k, hk, hlt, by omega, ?_⟩
  unfold Lib.TabIs World.var? at *
  rw [hk] at ht ⊢
  simp only [Option.bind_some] at ht ⊢
  rw [f.block k (by omega) (by rintro (e | ⟨e, _⟩) <;> omega)]
  exact ht
/-- A writer that writes into a builder. -/
structure WS (g : Nat) (nv fv : Value) (lvs pvs : List Value) (ns : List NodeM) (fs : List FuncM) (w0 w : World) (out : List UInt8) : Prop where
  blk : ∃ p v, Blk w g 55 #[nv, fv, p, v] ∧ (p = .pointer none ∨ p = .pointer (some ⟨g, 2, none⟩)) ∧ w.ownsRow (g + 1) 5 1 v out.length (Lib.byteCells out)
  tree : TreeAt 0 w nv fv lvs pvs ns fs
  fr : FrW g w0 w
  tab : TabAt g w
section
variable {g : Nat} {nv fv : Value} {lvs pvs : List Value} {ns : List NodeM} {fs : List FuncM} {w0 w w' : World} {out : List UInt8}
theorem WS.no (h : WS g nv fv lvs pvs ns fs w0 w out) (f : Fr nob w w') : WS g nv fv lvs pvs ns fs w0 w' out := by
  obtain ⟨p, v, hb, hp, ho⟩ := h.blk
  refine ⟨⟨p, v, hb.fr f (fun x => x), hp, ?_⟩, h.tree.frW hb (FrW.no f), FrW.trans h.fr (FrW.no f), h.tab.frW (FrW.no f)⟩
  obtain ⟨hl, hr⟩ := ho
  refine ⟨hl, ?_⟩
  rcases hr with hr | ⟨k, cap, cur, e1, e2, e3, r⟩
  · exact .inl hr
  · exact .inr ⟨k, cap, cur, e1, e2, (f.block k (Array.getElem?_eq_some_iff.1 e3).1 (fun x => x)).trans e3, r⟩
theorem WS.here (h : WS g nv fv lvs pvs ns fs w0 w out) : WS g nv fv lvs pvs ns fs w w out := ⟨h.blk, h.tree, Fr.refl _ _, h.tab⟩
theorem WS.back (h : WS g nv fv lvs pvs ns fs w0 w out) {out' : List UInt8} (h' : WS g nv fv lvs pvs ns fs w w' out') : WS g nv fv lvs pvs ns fs w0 w' out' := ⟨h'.blk, h'.tree, FrW.trans h.fr h'.fr, h'.tab⟩
theorem WS.blkg (h : WS g nv fv lvs pvs ns fs w0 w out) : ∃ cs, Blk w g 55 cs := by
  obtain ⟨p, v, hb, _⟩ := h.blk
  exact ⟨_, hb⟩
theorem own_bytes {w : World} {B n : Nat} {v : Value} {xs : List Value} {t : TypeId} {cs : Array Value} {g : Nat} (ho : w.ownsRow B 5 1 v n xs) (hb : Blk w g t cs) (hne : 5 ≠ t) : v.ownBlock ≠ some g := by
  rcases ho.2 with ⟨rfl, _⟩ | ⟨k, cap, cur, rfl, e2, e3, r⟩
  · simp [Value.ownBlock]
  · intro e
    simp [Value.ownBlock] at e
    subst e
    unfold Blk at hb
    rw [hb] at e3
    injection e3 with e3
    injection e3 with _ h2
    exact hne h2.symm
theorem ownsRow_far {w : World} {B n : Nat} {e : TypeId} {v : Value} {xs : List Value} {p : Addr} (ho : w.ownsRow B e 1 v n xs) (hne : v.ownBlock ≠ some p.block) (u : Value) : (w.setCell p u).ownsRow B e 1 v n xs := by
  refine ⟨ho.1, ?_⟩
  rcases ho.2 with hr | ⟨k, cap, cur, e1, e2, e3, r⟩
  · exact .inl hr
  · refine .inr ⟨k, cap, cur, e1, e2, ?_, r⟩
    subst e1
    exact (Below.heap_setCell w p u k (fun e => hne (by simp [Value.ownBlock, e]))).trans e3
set_option maxHeartbeats 2000000 in
set_option maxRecDepth 100000 in
/-- WriteString, at the writer's builder. -/
theorem wstr_any (h : WS g nv fv lvs pvs ns fs w0 w out) (s : ByteArray) (hlen : out.length + s.size ≤ 140737488355328) :
    Calls Tryd.prog 61 #[.pointer (some ⟨g, 2, none⟩), .string s] w fun e w' => e = .returned (.tuple #[.int .i64 s.size, .nilIface]) ∧ WS g nv fv lvs pvs ns fs w0 w' (out ++ s.data.toList) := by
  have key : ∃ w1, (Calls Tryd.prog 69 #[.pointer (some ⟨g, 2, none⟩)] w fun e w' => e = .returned (.tuple #[]) ∧ w' = w1) ∧ ∃ v, Blk w1 g 55 #[nv, fv, .pointer (some ⟨g, 2, none⟩), v] ∧ w1.ownsRow (g + 1) 5 1 v out.length (Lib.byteCells out) ∧ FrW g w w1 := by
    obtain ⟨p, v, hb, rfl | rfl, ho⟩ := h.blk
    · have hf1 : Fr (oneb g) w (w.setCell ⟨g, 2, none⟩ (.pointer (some ⟨g, 2, none⟩))) := (Fr.refl _ _).setCell _ _ (fun _ => rfl)
      refine ⟨_, check_fresh g w (by simpa using hb.cell 2) (by unfold Blk at hb; simp [World.shape?, hb]) (hb.frozen 2), v, hb.setCell 2 _, ownsRow_far ho (own_bytes ho hb (by decide)) _, hf1.mono (fun k _ e => .inl e)⟩
    · exact ⟨w, check_used g w (by simpa using hb.cell 2), v, hb, ho, Fr.refl _ _⟩
  obtain ⟨w1, hcc, v, hb, ho, hf⟩ := key
  have HC := hid hcc
  have HB := hid hb
  have HO := hid ho
  have F1 := hid hf
  have HS := hid h
  have hsz := hb.lt
  have hl63 : (s.size : Int) ≤ 9223372036854775807 := by omega
  obtain ⟨i0, hi, hz0, hz1, hz2⟩ := info_parts (show (Tryd.prog.info? 5).map (fun i => (i.zero, i.size, i.bytes)) = some (some (.int .u8 0), 1, 1) by kernel_rfl)
  have us := (show Tryd.prog.underlying 51 = some (.slice 5) by kernel_rfl)
  have ut := (show Tryd.prog.underlying 9 = some .string by kernel_rfl)
  have HI := hid (And.intro hi (And.intro hz0 (And.intro hz1 (And.intro hz2 (And.intro us ut)))))
  have HL := hid hlen
  clear hcc hb ho hf h hi hz0 hz1 hz2 us ut hlen
  go_enter Tryd.func61, Tryd.ntmps61
  go_wp2_with fail
  refine HC.out.mono ?_
  rintro e w2 ⟨rfl, rfl⟩
  have c3 := HB.out.cell 3
  have f3 := HB.out.frozen 3
  simp at c3
  go_wp2_with (at_builtin; go_loud (refine Lib.wpList_append_own_string _ rfl _ _ 51 9 rfl (g + 1) 5 i0 HI.out.2.2.2.2.1 HI.out.2.2.2.2.2 HI.out.1 HI.out.2.1 HI.out.2.2.1 HI.out.2.2.2.1 v out.length (Lib.byteCells out) rfl HO.out s rfl (by have := HL.out; unfold maxLen; omega) HL.out (by have := HB.out.lt; omega) ?_); intro v3 w3 ho3 hg3 hv3; have O3 := hid ho3; have G3 := hid (Fr.grown hg3); have B3 := hid (HB.out.fr G3.out (fun hm => own_bytes HO.out HB.out (by decide) hm)); have d3 := B3.out.cell 3; have g3 := B3.out.frozen 3; have l3 := B3.out.lt; simp at d3; (obtain ⟨A3, n3, c3', hv3'⟩ : ∃ A n c, v3 = .slice A n c := (by rcases ho3.2 with ⟨e, _⟩ | ⟨k, cap, cur, e, _⟩ <;> exact ⟨_, _, _, e⟩)); subst hv3'; clear hv3 ho3 hg3)
  go_ret2
  have hset : Fr (oneb g) w3 (w3.setCell ⟨g, 3, none⟩ (.slice A3 n3 c3')) := (Fr.refl _ _).setCell _ _ (fun _ => rfl)
  have hF : FrW g w (w3.setCell ⟨g, 3, none⟩ (.slice A3 n3 c3')) := by
    refine FrW.trans (FrW.trans F1.out ?_) (hset.mono (fun k _ e => .inl e))
    refine G3.out.mono (fun k hk hm => ?_)
    rcases HO.out.2 with ⟨rfl, _⟩ | ⟨k2, cap, cur, rfl, e2, e3, r⟩
    · simp [obl, Value.ownBlock] at hm
    · simp [obl, Value.ownBlock] at hm
      subst hm
      exact .inr ⟨by omega, cur, _, e3⟩
  obtain ⟨cs, hg⟩ := HS.out.blkg
  refine ⟨rfl, ⟨_, _, B3.out.setCell 3 _, .inr rfl, ?_⟩, HS.out.tree.frW hg hF, FrW.trans HS.out.fr hF, HS.out.tab.frW hF⟩
  have h5 := ownsRow_far (p := ⟨g, 3, none⟩) O3.out (own_bytes O3.out B3.out (by decide)) (.slice A3 n3 c3')
  rw [List.length_append, Lib.byteCells_append, ← Lib.strCells_eq, show s.data.toList.length = s.size by simp]
  exact h5
theorem Fr.of_freeze {M : Nat → Prop} {w w' : World} (h : Fr M w w') (p : Addr) (hp : M p.block) (n : Nat) : Fr M w (w'.freeze p n) := by
  refine h.tr ?_
  unfold World.freeze
  split
  · exact Fr.refl _ _
  · exact ⟨rfl, rfl, rfl, by simp, fun k hk hm => by
      simp only [Array.getElem?_modify]
      rw [if_neg (fun e => hm (by rw [← e]; exact hp))]⟩
set_option maxHeartbeats 2000000 in
set_option maxRecDepth 100000 in
/-- String, at the writer's builder. -/
theorem wtext_any (h : WS g nv fv lvs pvs ns fs w0 w out) : Calls Tryd.prog 21 #[.pointer (some ⟨g, 2, none⟩)] w fun e w' => e = .returned (.string (bs out)) ∧ Fr (fun k => g < k) w w' := by
  obtain ⟨p, v, hb, _, hown⟩ := h.blk
  have hUS := fun (W : World) (q : Option Addr) => Lib.run_unsafeString_none (P := Tryd.prog) W 76 3 9 q
  by_cases h0 : out = []
  · subst h0
    rcases hown.2 with ⟨rfl, _⟩ | ⟨k, cap, cur, rfl, hbg, hg, hnc, hcm, hcs, htake⟩
    · have c1 : w.drew.cell? ⟨g, 3, none⟩ = some (.slice none 0 0) := by simpa using hb.cell 3
      have hSD : (Builtin.unsafeSliceData_ #[51] 76 #[.slice none 0 0]).run Tryd.prog w.drew = .ok (.pointer none) w.drew := rfl
      clear h hb hown
      go_enter Tryd.func21, Tryd.ntmps21
      go_wp2
      go_region
      all_goals (go_wp2; go_ret; exact ⟨rfl, (Fr.refl _ _).drew⟩)
    · have hlt := hb.lt
      by_cases hc0 : cap = 0
      · subst hc0
        have c1 : w.drew.cell? ⟨g, 3, none⟩ = some (.slice (some ⟨k, 0, none⟩) 0 0) := by simpa using hb.cell 3
        have hSD : (Builtin.unsafeSliceData_ #[51] 76 #[.slice (some ⟨k, 0, none⟩) 0 0]).run Tryd.prog w.drew = .ok (.pointer (some ⟨w.drew.heap.size, 0, none⟩)) (w.drew.alloc (.view ⟨k, 0, none⟩ 5)) :=
          Lib.run_unsafeSliceData_zero w.drew _ _ 5 (by kernel_rfl) ⟨k, 0, none⟩ 0 (5, cur.size) (by have hg' : w.drew.heap[k]? = some (.cells cur 5 (0, 0)) := hg; simp [World.shape?, hg'])
        have c2 : (w.drew.alloc (.view ⟨k, 0, none⟩ 5)).cell? ⟨g, 3, none⟩ = some (.slice (some ⟨k, 0, none⟩) 0 0) := by
          have : (w.drew.alloc (.view ⟨k, 0, none⟩ 5)).heap[g]? = _ := (Lib.alloc_old w.drew _ g hlt).trans hb
          rw [Lib.cell_of_heap this]; rfl
        have c3 : (w.alloc (.view ⟨k, 0, none⟩ 5)).drew.cell? ⟨g, 3, none⟩ = some (.slice (some ⟨k, 0, none⟩) 0 0) := c2
        have c0 : w.cell? ⟨g, 3, none⟩ = some (.slice (some ⟨k, 0, none⟩) 0 0) := c1
        clear h hb hown hg hnc hcm hcs htake
        go_enter Tryd.func21, Tryd.ntmps21
        go_wp2
        go_region
        all_goals (go_wp2; go_ret; exact ⟨rfl, ((Fr.refl _ _).drew).alloc _⟩)
      · have c1 : w.drew.cell? ⟨g, 3, none⟩ = some (.slice (some ⟨k, 0, none⟩) 0 cap) := by simpa using hb.cell 3
        have hSD : (Builtin.unsafeSliceData_ #[51] 76 #[.slice (some ⟨k, 0, none⟩) 0 cap]).run Tryd.prog w.drew = .ok (.pointer (some ⟨k, 0, none⟩)) w.drew :=
          Lib.run_unsafeSliceData_row _ _ _ _ _ _ hc0
        clear h hb hown hg hnc hcm hcs htake hc0
        go_enter Tryd.func21, Tryd.ntmps21
        go_wp2
        go_region
        all_goals (go_wp2; go_ret; exact ⟨rfl, (Fr.refl _ _).drew⟩)
  · have hl0 : out.length ≠ 0 := by simpa using h0
    obtain ⟨k, cap, cur, rfl, hbg, hg, hnc, hcm, hcs, htake⟩ : ∃ k cap cur, v = .slice (some ⟨k, 0, none⟩) out.length cap ∧ g + 1 ≤ k ∧ w.heap[k]? = some (.cells cur 5 (0, 0)) ∧ out.length ≤ cap ∧ cap ≤ maxLen ∧ cur.size = cap * 1 ∧ cur.toList.take (out.length * 1) = Lib.byteCells out := by
      rcases hown.2 with ⟨_, hz⟩ | ⟨k, cap, cur, hv, r⟩
      · exact absurd hz hl0
      · exact ⟨k, cap, cur, hv, r⟩
    have c1 : w.drew.cell? ⟨g, 3, none⟩ = some (.slice (some ⟨k, 0, none⟩) out.length cap) := by simpa using hb.cell 3
    have hSD : (Builtin.unsafeSliceData_ #[51] 76 #[.slice (some ⟨k, 0, none⟩) out.length cap]).run Tryd.prog w.drew = .ok (.pointer (some ⟨k, 0, none⟩)) w.drew :=
      Lib.run_unsafeSliceData_row _ _ _ _ _ _ (by omega)
    have hUS : (Builtin.unsafeString_ #[76, 3] 9 #[.pointer (some ⟨k, 0, none⟩), .int .i64 out.length]).run Tryd.prog w.drew = .ok (.string ⟨out.toArray⟩) (w.drew.freeze ⟨k, 0, none⟩ out.length) := by
      refine Lib.run_unsafeString_row w.drew 76 3 9 5 (by kernel_rfl) (by kernel_rfl) k cur.size (by have hg' : w.drew.heap[k]? = some (.cells cur 5 (0, 0)) := hg; simp [World.shape?, hg']) out h0 (by omega) (by unfold maxLen at hcm; omega) ?_
      intro j x hx
      have := hown.cells (g := k) rfl j (.int .u8 x.toNat) (by simp [Lib.byteCells, hx])
      exact this
    have hkk : g < k := by omega
    clear h hb hown hg hnc hcm hcs htake h0 hl0 hbg
    go_enter Tryd.func21, Tryd.ntmps21
    go_wp2
    go_region
    all_goals (go_wp2; go_ret; exact ⟨rfl, Fr.of_freeze ((Fr.refl _ _).drew) ⟨k, 0, none⟩ hkk _⟩)
end
end Go.Proofs.YtahhgnbiahomiaaDoor
/- Maps that a function makes itself, whose keys are known. No program is named here. -/
namespace Go.Proofs.YtahhgnbiahomiaaDoor
open Go.RowKit Go.MapKept
set_option linter.unusedVariables false
set_option linter.unusedSimpArgs false
section
variable {P : Program} {w : World} {mty kt et : TypeId} {d : TypeDesc} {r clock : Nat} {es : Array MapEntry} {key value z : Value}
def mapTo (w : World) (r : Nat) (es : Array MapEntry) (c : Nat) : World := { w with heap := w.heap.setIfInBounds r (.map es c) }
theorem mapTo_heap (hb : w.heap[r]? = some (.map es clock)) (es' : Array MapEntry) (c : Nat) : (mapTo w r es' c).heap[r]? = some (.map es' c) := (heap_set hb).1
theorem mapTo_fr (w : World) (r : Nat) (es : Array MapEntry) (c : Nat) : Fr (oneb r) w (mapTo w r es c) :=
  ⟨rfl, rfl, rfl, by simp [mapTo], fun k hk hm => by
    unfold mapTo
    simp only [Array.getElem?_setIfInBounds]
    rw [if_neg (fun e => hm e.symm)]⟩
theorem run_insert_new (hm : P.underlying mty = some (.map kt et)) (hd : P.underlying kt = some d) (hb : w.heap[r]? = some (.map es clock)) (hk : IsKey d key) (hf : Instr.findNow d key es.toList 0 = some none) :
    (Instr.mapUpdate mty (.map (some r)) key value).run P w = .ok () (mapTo w r (es.push ⟨key, value, clock⟩) (clock + 1)) := by
  simp [Instr.mapUpdate, run_underlying hm, Go.MapKept.run_getObj_map hb, run_checkKey hd hk, run_findKey hd hf, Go.MapKept.run_setObj_map _ hb, Result.andThen, mapTo]
theorem run_lookup_hit (hm : P.underlying mty = some (.map kt et)) (hd : P.underlying kt = some d) (hb : w.heap[r]? = some (.map es clock)) (hk : IsKey d key) {j : Nat} (hf : Instr.findNow d key es.toList 0 = some (some (j, value))) :
    (Instr.lookup mty (.map (some r)) key false).run P w = .ok value w := by
  simp [Instr.lookup, run_underlying hm, Go.MapKept.run_getObj_map hb, run_checkKey hd hk, run_findKey hd hf, Result.andThen]
theorem run_lookup_ok_hit (hm : P.underlying mty = some (.map kt et)) (hd : P.underlying kt = some d) (hb : w.heap[r]? = some (.map es clock)) (hk : IsKey d key) {j : Nat} (hf : Instr.findNow d key es.toList 0 = some (some (j, value))) :
    (Instr.lookup mty (.map (some r)) key true).run P w = .ok (.tuple #[value, .bool true]) w := by
  simp [Instr.lookup, run_underlying hm, Go.MapKept.run_getObj_map hb, run_checkKey hd hk, run_findKey hd hf, Result.andThen]
theorem run_lookup_ok_miss (hm : P.underlying mty = some (.map kt et)) (hd : P.underlying kt = some d) (hb : w.heap[r]? = some (.map es clock)) (hk : IsKey d key) (hf : Instr.findNow d key es.toList 0 = some none) (hz : (zeroValue et).run P w = .ok z w) :
    (Instr.lookup mty (.map (some r)) key true).run P w = .ok (.tuple #[z, .bool false]) w := by
  simp [Instr.lookup, run_underlying hm, Go.MapKept.run_getObj_map hb, run_checkKey hd hk, run_findKey hd hf, Result.andThen, hz]
theorem ins_step (hm : P.underlying mty = some (.map kt et)) (hd : P.underlying kt = some d) (hb : w.heap[r]? = some (.map es clock)) (hk : IsKey d key) (hf : Instr.findNow d key es.toList 0 = some none) (value : Value) :
    ∃ w', (Instr.mapUpdate mty (.map (some r)) key value).run P w = .ok () w' ∧ w'.heap[r]? = some (.map (es.push ⟨key, value, clock⟩) (clock + 1)) ∧ Fr (oneb r) w w' :=
  ⟨_, run_insert_new hm hd hb hk hf, mapTo_heap hb _ _, mapTo_fr _ _ _ _⟩
end
end Go.Proofs.YtahhgnbiahomiaaDoor
/- Show: levels, words, the writer's put. -/
namespace Go.Proofs.YtahhgnbiahomiaaDoor
open Go.RowKit
set_option linter.unusedVariables false
set_option linter.unusedSimpArgs false

theorem u_lev : Tryd.prog.underlying 61 = some (.map 9 3) := by kernel_rfl
theorem u_str : Tryd.prog.underlying 9 = some .string := by kernel_rfl
def levEs : Array MapEntry := #[⟨.string ⟨#[124, 124]⟩, .int .i64 0, 0⟩, ⟨.string ⟨#[38, 38]⟩, .int .i64 1, 1⟩, ⟨.string ⟨#[60]⟩, .int .i64 2, 2⟩, ⟨.string ⟨#[60, 61]⟩, .int .i64 2, 3⟩, ⟨.string ⟨#[61, 61]⟩, .int .i64 2, 4⟩, ⟨.string ⟨#[33, 61]⟩, .int .i64 2, 5⟩, ⟨.string ⟨#[43]⟩, .int .i64 3, 6⟩, ⟨.string ⟨#[45]⟩, .int .i64 3, 7⟩, ⟨.string ⟨#[42]⟩, .int .i64 4, 8⟩, ⟨.string ⟨#[47]⟩, .int .i64 4, 9⟩, ⟨.string ⟨#[37]⟩, .int .i64 4, 10⟩]
set_option maxHeartbeats 2000000 in
set_option maxRecDepth 100000 in
theorem levels_any (w : World) : Calls Tryd.prog 23 #[] w fun e w' => (∃ r, e = .returned (.map (some r)) ∧ w'.heap[r]? = some (.map levEs 11)) ∧ Fr nob w w' := by
  have hmm := @run_makeMap Tryd.prog
  have b0 : (w.alloc (.map #[] 0)).heap[w.heap.size]? = some (.map #[] 0) := heap_alloc_new w _
  obtain ⟨w1, i1, b1, f1⟩ := ins_step u_lev u_str b0 (key := .string ⟨#[124, 124]⟩) trivial rfl (.int .i64 0)
  obtain ⟨w2, i2, b2, f2⟩ := ins_step u_lev u_str b1 (key := .string ⟨#[38, 38]⟩) trivial rfl (.int .i64 1)
  obtain ⟨w3, i3, b3, f3⟩ := ins_step u_lev u_str b2 (key := .string ⟨#[60]⟩) trivial rfl (.int .i64 2)
  obtain ⟨w4, i4, b4, f4⟩ := ins_step u_lev u_str b3 (key := .string ⟨#[60, 61]⟩) trivial rfl (.int .i64 2)
  obtain ⟨w5, i5, b5, f5⟩ := ins_step u_lev u_str b4 (key := .string ⟨#[61, 61]⟩) trivial rfl (.int .i64 2)
  obtain ⟨w6, i6, b6, f6⟩ := ins_step u_lev u_str b5 (key := .string ⟨#[33, 61]⟩) trivial rfl (.int .i64 2)
  obtain ⟨w7, i7, b7, f7⟩ := ins_step u_lev u_str b6 (key := .string ⟨#[43]⟩) trivial rfl (.int .i64 3)
  obtain ⟨w8, i8, b8, f8⟩ := ins_step u_lev u_str b7 (key := .string ⟨#[45]⟩) trivial rfl (.int .i64 3)
  obtain ⟨w9, i9, b9, f9⟩ := ins_step u_lev u_str b8 (key := .string ⟨#[42]⟩) trivial rfl (.int .i64 4)
  obtain ⟨w10, i10, b10, f10⟩ := ins_step u_lev u_str b9 (key := .string ⟨#[47]⟩) trivial rfl (.int .i64 4)
  obtain ⟨w11, i11, b11, f11⟩ := ins_step u_lev u_str b10 (key := .string ⟨#[37]⟩) trivial rfl (.int .i64 4)
  have HB := hid (show w11.heap[w.heap.size]? = some (.map levEs 11) from b11)
  have HF := hid (show Fr nob w w11 from by
    have h1 : Fr nob w (w.alloc (.map #[] 0)) := (Fr.refl nob w).alloc _
    have h2 := ((((((((((f1.tr f2).tr f3).tr f4).tr f5).tr f6).tr f7).tr f8).tr f9).tr f10).tr f11)
    exact Fr.trans h1 h2 (fun _ _ x => x) (fun k hk hm => by have : k = w.heap.size := hm; omega))
  clear b0 b1 b2 b3 b4 b5 b6 b7 b8 b9 b10 b11 f1 f2 f3 f4 f5 f6 f7 f8 f9 f10 f11
  go_enter Tryd.func23, Tryd.ntmps23
  go_wp2
  go_ret
  exact ⟨⟨_, rfl, HB.out⟩, HF.out⟩
theorem lev_find {x : List UInt8} (h : x ∈ allSigns) : ∃ j, Instr.findNow .string (.string (bs x)) levEs.toList 0 = some (some (j, .int .i64 (signLv x))) := by
  simp only [allSigns, List.mem_cons, List.not_mem_nil, or_false] at h
  rcases h with rfl | rfl | rfl | rfl | rfl | rfl | rfl | rfl | rfl | rfl | rfl
  · exact ⟨0, rfl⟩
  · exact ⟨1, rfl⟩
  · exact ⟨2, rfl⟩
  · exact ⟨3, rfl⟩
  · exact ⟨4, rfl⟩
  · exact ⟨5, rfl⟩
  · exact ⟨6, rfl⟩
  · exact ⟨7, rfl⟩
  · exact ⟨8, rfl⟩
  · exact ⟨9, rfl⟩
  · exact ⟨10, rfl⟩
set_option maxHeartbeats 2000000 in
set_option maxRecDepth 100000 in
theorem level_any (nd : NodeM) (lv : Value) (hs : nd.kind = 9 → nd.name ∈ allSigns) (A : Option Addr) (n c : Nat) (hlv : lv = .slice A n c) (w : World) :
    Calls Tryd.prog 12 #[.agg #[.int .i64 nd.kind, .int .i64 nd.line, .int .i64 nd.n, .string (bs nd.name), lv]] w fun e w' => e = .returned (.int .i64 (levN nd)) ∧ Fr nob w w' := by
  subst hlv
  unfold levN
  have hN := World.new_ne
  by_cases h7 : nd.kind = 7
  · have e1 : ((nd.kind : Int) == 7) = true := by rw [h7]; rfl
    rw [if_pos (.inl h7)]
    clear h7 hs
    go_enter Tryd.func12, Tryd.ntmps12
    go_wp2
    go_ret
    exact ⟨rfl, (Fr.refl nob w).alloc _⟩
  · by_cases h8 : nd.kind = 8
    · have e1 : ((nd.kind : Int) == 7) = false := beq_eq_false_iff_ne.2 (by omega)
      have e2 : ((nd.kind : Int) == 8) = true := by rw [h8]; rfl
      rw [if_pos (.inr h8)]
      clear h7 h8 hs
      go_enter Tryd.func12, Tryd.ntmps12
      go_wp2
      go_ret
      exact ⟨rfl, (Fr.refl nob w).alloc _⟩
    · have e1 : ((nd.kind : Int) == 7) = false := beq_eq_false_iff_ne.2 (by omega)
      have e2 : ((nd.kind : Int) == 8) = false := beq_eq_false_iff_ne.2 (by omega)
      rw [if_neg (by omega)]
      by_cases h9 : nd.kind = 9
      · have e3 : ((nd.kind : Int) == 9) = true := by rw [h9]; rfl
        rw [if_pos h9]
        obtain ⟨j, hj⟩ := lev_find (hs h9)
        have HJ := hid hj
        clear h7 h8 h9 hs hj
        go_enter Tryd.func12, Tryd.ntmps12
        go_wp2
        have F0 := hid (show Fr nob w (w.alloc (.cells #[.int .i64 nd.kind, .int .i64 nd.line, .int .i64 nd.n, .string (bs nd.name), .slice A n c] 34)) from (Fr.refl nob w).alloc _)
        have B0 := Blk.new w 34 #[.int .i64 nd.kind, .int .i64 nd.line, .int .i64 nd.n, .string (bs nd.name), .slice A n c]
        have HB0 := hid B0
        clear B0
        generalize w.alloc (.cells #[.int .i64 nd.kind, .int .i64 nd.line, .int .i64 nd.n, .string (bs nd.name), .slice A n c] 34) = wa at *
        generalize w.heap.size = B at *
        have c3 := HB0.out.cell 3
        simp at c3
        have n1 := World.new_ne wa ⟨B, 3, none⟩ c3
        have LK : ∀ (w2 : World) (r : Nat), w2.heap[r]? = some (.map levEs 11) → (Instr.lookup 61 (.map (some r)) (.string (bs nd.name)) false).run Tryd.prog w2 = .ok (.int .i64 (signLv nd.name)) w2 :=
          fun w2 r hb => run_lookup_hit u_lev u_str hb (key := .string (bs nd.name)) trivial HJ.out
        have HLK := hid LK
        have CK : ∀ (w1 w2 : World), Fr nob w1 w2 → w1.heap = wa.heap → w2.cell? ⟨B, 3, none⟩ = some (.string (bs nd.name)) := fun w1 w2 hf he => by
          have h1 : Blk w1 B 34 #[.int .i64 nd.kind, .int .i64 nd.line, .int .i64 nd.n, .string (bs nd.name), .slice A n c] := by unfold Blk; rw [he]; exact HB0.out
          have := (h1.fr hf (fun x => x)).cell 3
          simpa using this
        have HCK := hid CK
        clear LK CK
        go_region_held3 (fun wx => wx.cell? ⟨B, 3, none⟩ = some (.string (bs nd.name))) (first | exact K2.out | go_keep) (first | (go_at_call 23; go_loud (refine (levels_any _).mono ?_); go_loud (rintro e w2 ⟨⟨r, rfl, hb⟩, hf⟩); go_loud (have L1 := HLK.out w2 r hb); go_loud (have K2 := hid (HCK.out _ w2 hf rfl)); have F2 := hid hf; clear hb hf))
        go_wp2
        go_ret
        exact ⟨rfl, by first | exact F0.out.tr F2.out | exact (F0.out.tr F2.out).drew | exact F0.out.drew.tr F2.out | exact (F0.out.drew.tr F2.out).drew⟩
      · have e3 : ((nd.kind : Int) == 9) = false := beq_eq_false_iff_ne.2 (by omega)
        rw [if_neg h9]
        clear h7 h8 h9 hs
        go_enter Tryd.func12, Tryd.ntmps12
        go_wp2
        go_ret
        exact ⟨rfl, (Fr.refl nob w).alloc _⟩
end Go.Proofs.YtahhgnbiahomiaaDoor
/- Show: the writer's put, words. -/
namespace Go.Proofs.YtahhgnbiahomiaaDoor
open Go.RowKit
set_option linter.unusedVariables false
set_option linter.unusedSimpArgs false
def strVals (ls : List ByteArray) : Array Value := (ls.map Value.string).toArray
def joinB (ls : List ByteArray) : List UInt8 := ls.flatMap fun s => s.data.toList
section
variable {g : Nat} {nv fv : Value} {lvs pvs : List Value} {ns : List NodeM} {fs : List FuncM} {w0 w w' : World} {out : List UInt8}
theorem joinB_take {ls : List ByteArray} {j : Nat} {s : ByteArray} (h : ls[j]? = some s) : joinB (ls.take (j + 1)) = joinB (ls.take j) ++ s.data.toList := by
  unfold joinB
  rw [List.take_add_one, h, List.flatMap_append]
  simp
theorem joinB_le {ls : List ByteArray} {j : Nat} {s : ByteArray} (h : ls[j]? = some s) : (joinB (ls.take j)).length + s.size ≤ (joinB ls).length := by
  have h1 : joinB ls = joinB (ls.take (j + 1)) ++ joinB (ls.drop (j + 1)) := by unfold joinB; rw [← List.flatMap_append, List.take_append_drop]
  rw [h1, joinB_take h]
  simp
set_option maxHeartbeats 2000000 in
set_option maxRecDepth 100000 in
/-- put writes texts. -/
theorem wput_any (h : WS g nv fv lvs pvs ns fs w0 w out) (ls : List ByteArray) (b : Nat) (hb : Blk w b 9 (strVals ls)) (hlen : out.length + (joinB ls).length ≤ 140737488355328) (hl : ls.length ≤ 10) :
    Calls Tryd.prog 37 #[.pointer (some ⟨g, 0, none⟩), .slice (some ⟨b, 0, none⟩) ls.length ls.length] w fun e w' => e = .returned (.tuple #[]) ∧ WS g nv fv lvs pvs ns fs w0 w' (out ++ joinB ls) := by
  have H := hid h
  have HB := hid hb
  have HLEN := hid hlen
  have hl2 : (ls.length : Int) ≤ 10 := by omega
  clear h hb hlen
  go_enter Tryd.func37, Tryd.ntmps37
  go_wp2_with fail
  go_loopw [8] (fun i wr => ∃ j : Nat, j ≤ ls.length ∧ i = .int .i64 j ∧ Hid (WS g nv fv lvs pvs ns fs w wr (out ++ joinB (ls.take j)))) (fun i _ => ls.length - (intOf i).toNat)
  case atStart => exact ⟨0, Nat.zero_le _, rfl, hid (by simpa [joinB] using H.out.here)⟩
  case round =>
    obtain ⟨j, hj, rfl, S⟩ := hrel
    by_cases hlt : j < ls.length
    · have hlt2 : (j : Int) < (ls.length : Int) := by omega
      have hj2 : (j : Int) ≤ 10 := by omega
      obtain ⟨s, hs⟩ : ∃ s, ls[j]? = some s := ⟨_, List.getElem?_eq_getElem hlt⟩
      obtain ⟨cg, hg⟩ := H.out.blkg
      have HB2 := hid (S.out.fr.blk hg HB.out (by decide) (by decide))
      have c0 : wr.cell? ⟨b, j, none⟩ = some (.string s) := by
        rw [HB2.out.cell]
        unfold strVals
        simp [hs]
      have HS := hid hs
      have HW := hid (wstr_any S.out s (by have := joinB_le hs; have := HLEN.out; rw [List.length_append]; omega))
      clear hg hs
      go_wp2_with fail
      refine HW.out.mono ?_
      rintro e w3 ⟨rfl, h3⟩
      have S3 := hid h3
      clear h3
      go_wp2_with fail
      go_roundw
      case rel => exact ⟨j + 1, by omega, by go_num, hid (by rw [joinB_take HS.out, ← List.append_assoc]; exact S3.out)⟩
      case measure => simp [intOf]; omega
    · have hle : (ls.length : Int) ≤ (j : Int) := by omega
      have htk := List.take_of_length_le (show ls.length ≤ j by omega)
      have S2 := hid (show WS g nv fv lvs pvs ns fs w wr (out ++ joinB ls) by have h5 := S.out; rw [htk] at h5; exact h5)
      clear htk
      go_wp2_with fail
      refine bodyPost_end (results_none rfl _ _ _) rfl ⟨rfl, H.out.back S2.out⟩
theorem wput1 (h : WS g nv fv lvs pvs ns fs w0 w out) {B : Nat} (hB : w.heap.size = B) (s : ByteArray) (hlen : out.length + s.size ≤ 140737488355328) :
    Calls Tryd.prog 37 #[.pointer (some ⟨g, 0, none⟩), .slice (some ⟨B, 0, none⟩) 1 1] (w.alloc (.cells #[.string s] 9)) fun e w' => e = .returned (.tuple #[]) ∧ WS g nv fv lvs pvs ns fs w0 w' (out ++ s.data.toList) := by
  subst hB
  have := wput_any (h.no ((Fr.refl nob w).alloc (.cells #[.string s] 9))) [s] w.heap.size (Blk.new w _ _) (by simpa [joinB] using hlen) (show 1 ≤ 10 by decide)
  simpa [joinB] using this
theorem wput2 (h : WS g nv fv lvs pvs ns fs w0 w out) {B : Nat} (hB : w.heap.size = B) (s t : ByteArray) (hlen : out.length + s.size + t.size ≤ 140737488355328) :
    Calls Tryd.prog 37 #[.pointer (some ⟨g, 0, none⟩), .slice (some ⟨B, 0, none⟩) 2 2] (w.alloc (.cells #[.string s, .string t] 9)) fun e w' => e = .returned (.tuple #[]) ∧ WS g nv fv lvs pvs ns fs w0 w' (out ++ (s.data.toList ++ t.data.toList)) := by
  subst hB
  have := wput_any (h.no ((Fr.refl nob w).alloc (.cells #[.string s, .string t] 9))) [s, t] w.heap.size (Blk.new w _ _) (by simp [joinB]; omega) (show 2 ≤ 10 by decide)
  simpa [joinB] using this
theorem wput3 (h : WS g nv fv lvs pvs ns fs w0 w out) {B : Nat} (hB : w.heap.size = B) (s t u : ByteArray) (hlen : out.length + s.size + t.size + u.size ≤ 140737488355328) :
    Calls Tryd.prog 37 #[.pointer (some ⟨g, 0, none⟩), .slice (some ⟨B, 0, none⟩) 3 3] (w.alloc (.cells #[.string s, .string t, .string u] 9)) fun e w' => e = .returned (.tuple #[]) ∧ WS g nv fv lvs pvs ns fs w0 w' (out ++ (s.data.toList ++ (t.data.toList ++ u.data.toList))) := by
  subst hB
  have := wput_any (h.no ((Fr.refl nob w).alloc (.cells #[.string s, .string t, .string u] 9))) [s, t, u] w.heap.size (Blk.new w _ _) (by simp [joinB]; omega) (show 3 ≤ 10 by decide)
  simpa [joinB] using this
end
theorem wordT_any (t : Nat) (h : t ≤ 4) (w : World) : Calls Tryd.prog 40 #[.int .i64 t] w fun e w' => e = .returned (.string (bs (wordT t))) ∧ Fr nob w w' := by
  rcases (by omega : t = 0 ∨ t = 1 ∨ t = 2 ∨ t = 3 ∨ t = 4) with rfl | rfl | rfl | rfl | rfl
  all_goals
    go_enter Tryd.func40, Tryd.ntmps40
    go_wp2
    go_ret
    exact ⟨rfl, (Fr.refl nob w).alloc _⟩
theorem fbool_any (b : Bool) (w : World) : Calls Tryd.prog 42 #[.bool b] w fun e w' => e = .returned (.string (bs (if b then [116, 114, 117, 101] else [102, 97, 108, 115, 101]))) ∧ w = w' := by
  cases b
  all_goals
    go_enter Tryd.func42, Tryd.ntmps42
    go_wp2
    go_ret
    exact ⟨rfl, rfl⟩
end Go.Proofs.YtahhgnbiahomiaaDoor
/- Show: expressions. -/
namespace Go.Proofs.YtahhgnbiahomiaaDoor
open Go.RowKit
set_option linter.unusedVariables false
set_option linter.unusedSimpArgs false
theorem nodesCells_get : ∀ {ns : List NodeM} {vs : List Value} {j : Nat} {nd : NodeM} {v : Value}, ns[j]? = some nd → vs[j]? = some v → ∀ i u, (nodeCells nd v)[i]? = some u → (nodesCells ns vs)[j * 5 + i]? = some u
  | [], _, _, _, _, h, _ => by simp at h
  | _ :: _, [], _, _, _, _, h => by simp at h
  | a :: ns, b :: vs, 0, nd, v, h, h2 => by
    simp at h h2; subst h; subst h2
    intro i u hu
    rw [nodesCells, List.getElem?_append_left (by have := (List.getElem?_eq_some_iff.1 hu).1; omega), Nat.zero_mul, Nat.zero_add]
    exact hu
  | a :: ns, b :: vs, j + 1, nd, v, h, h2 => by
    intro i u hu
    have := nodesCells_get (ns := ns) (vs := vs) (j := j) (by simpa using h) (by simpa using h2) i u hu
    rw [nodesCells, List.getElem?_append_right (by simp [nodeCells]; omega), show (nodeCells a b).length = 5 from rfl, show (j + 1) * 5 + i - 5 = j * 5 + i by omega]
    exact this
theorem Below2.get {w : World} : ∀ {ns : List NodeM} {vs : List Value} {j : Nat} {nd : NodeM} {v : Value}, Below2 w ns vs → ns[j]? = some nd → vs[j]? = some v → Own w 3 1 v nd.l.length (ints nd.l)
  | [], _, _, _, _, _, h, _ => by simp at h
  | _ :: _, [], _, _, _, _, _, h => by simp at h
  | a :: ns, b :: vs, 0, nd, v, hp, h, h2 => by simp at h h2; subst h; subst h2; exact hp.1
  | a :: ns, b :: vs, j + 1, nd, v, hp, h, h2 => Below2.get hp.2 (by simpa using h) (by simpa using h2)
section
variable {g : Nat} {lvs pvs : List Value} {ns : List NodeM} {fs : List FuncM} {w0 w w' : World} {out : List UInt8} {NA FA : Option Addr} {NC FC : Nat}
/-- A node of a tree in memory. -/
theorem TreeAt.node {B : Nat} {nv fv : Value} (h : TreeAt B w nv fv lvs pvs ns fs) {x : Nat} {nd : NodeM} (hx : ns[x]? = some nd) : ∃ nb c lv, nv = .slice (some ⟨nb, 0, none⟩) ns.length c ∧ ns.length ≤ c ∧ Own w 3 1 lv nd.l.length (ints nd.l) ∧
    w.cell? ⟨nb, x * 5, none⟩ = some (.int .i64 nd.kind) ∧ w.cell? ⟨nb, x * 5 + 1, none⟩ = some (.int .i64 nd.line) ∧ w.cell? ⟨nb, x * 5 + 2, none⟩ = some (.int .i64 nd.n) ∧ w.cell? ⟨nb, x * 5 + 3, none⟩ = some (.string (bs nd.name)) ∧ w.cell? ⟨nb, x * 5 + 4, none⟩ = some lv := by
  have hlt := (List.getElem?_eq_some_iff.1 hx).1
  obtain ⟨A, c, rfl, hc, _⟩ := h.nodes.cap
  obtain ⟨nb, rfl, hcell⟩ := h.nodes.some (by omega)
  obtain ⟨lv, hlv⟩ : ∃ lv, lvs[x]? = some lv := ⟨_, List.getElem?_eq_getElem (by have := h.same; omega)⟩
  have key := nodesCells_get hx hlv
  exact ⟨nb, c, lv, rfl, hc, h.below.get hx hlv, hcell _ _ (key 0 _ rfl), hcell _ _ (key 1 _ rfl), hcell _ _ (key 2 _ rfl), hcell _ _ (key 3 _ rfl), hcell _ _ (key 4 _ rfl)⟩
/-- A node's row of numbers. -/
theorem kids_get {v : Value} {l : List Nat} (h : Own w 3 1 v l.length (ints l)) (h0 : 0 < l.length) : ∃ kb c, v = .slice (some ⟨kb, 0, none⟩) l.length c ∧ l.length ≤ c ∧ ∀ j a, l[j]? = some a → w.cell? ⟨kb, j, none⟩ = some (.int .i64 (a : Nat)) := by
  obtain ⟨A, c, rfl, hc, _⟩ := h.cap
  obtain ⟨kb, rfl, hcell⟩ := h.some h0
  exact ⟨kb, c, rfl, hc, fun j a ha => hcell _ _ (by simp [ints, ha])⟩
end
section
variable {g : Nat} {nv fv : Value} {lvs pvs : List Value} {ns : List NodeM} {fs : List FuncM}
/-- expr shows a node. -/
def ExprOk (g : Nat) (nv fv : Value) (lvs pvs : List Value) (ns : List NodeM) (fs : List FuncM) (x : Nat) : Prop :=
  ∀ (w0 w : World) (out : List UInt8), WS g nv fv lvs pvs ns fs w0 w out → Kid ns clsR x → out.length + (txt ns x).length ≤ 100000000 →
    Calls Tryd.prog 24 #[.pointer (some ⟨g, 0, none⟩), .int .i64 x] w fun e w' => e = .returned (.tuple #[]) ∧ WS g nv fv lvs pvs ns fs w0 w' (out ++ txt ns x)
set_option maxHeartbeats 2000000 in
set_option maxRecDepth 100000 in
theorem around_any {x : Nat} (hx : ExprOk g nv fv lvs pvs ns fs x) (hk : Kid ns clsR x) (a b : ByteArray) {w0 w : World} {out : List UInt8} (h : WS g nv fv lvs pvs ns fs w0 w out) (hlen : out.length + a.size + (txt ns x).length + b.size ≤ 100000000) :
    Calls Tryd.prog 43 #[.pointer (some ⟨g, 0, none⟩), .string a, .int .i64 x, .string b] w fun e w' => e = .returned (.tuple #[]) ∧ WS g nv fv lvs pvs ns fs w0 w' (out ++ (a.data.toList ++ (txt ns x ++ b.data.toList))) := by
  have S0 := hid h
  have HX := hid hx
  have HK := hid hk
  have HL := hid hlen
  clear h hx hk hlen
  go_enter Tryd.func43, Tryd.ntmps43
  go_wp2_with fail
  refine (wput1 S0.out rfl a (by have := HL.out; omega)).mono ?_
  rintro e w1 ⟨rfl, h1⟩
  have S1 := hid h1
  clear h1
  go_wp2_with fail
  refine (HX.out _ _ _ S1.out HK.out (by have := HL.out; simp; omega)).mono ?_
  rintro e w2 ⟨rfl, h2⟩
  have S2 := hid h2
  clear h2
  go_wp2_with fail
  refine (wput1 S2.out rfl b (by have := HL.out; simp; omega)).mono ?_
  rintro e w3 ⟨rfl, h3⟩
  have S3 := hid h3
  clear h3
  go_wp2_with fail
  refine bodyPost_end (results_none rfl _ _ _) rfl ⟨rfl, ?_⟩
  have := S3.out
  simpa [List.append_assoc] using this
theorem WS.cell0 {w0 w : World} {out : List UInt8} (h : WS g nv fv lvs pvs ns fs w0 w out) : w.cell? ⟨g, 0, none⟩ = some nv ∧ w.cell? ⟨g, 1, none⟩ = some fv ∧ g < w.heap.size := by
  obtain ⟨p, v, hb, _⟩ := h.blk
  exact ⟨by simpa using hb.cell 0, by simpa using hb.cell 1, hb.lt⟩
theorem sign_of {nd : NodeM} {m : List NodeM} (h : NodeOk m nd) (h9 : nd.kind = 9) : nd.name ∈ allSigns := by
  cases h <;> first | assumption | simp at h9
set_option maxHeartbeats 2000000 in
set_option maxRecDepth 100000 in
theorem at_any {x : Nat} (hok : NodesOk ns) (hx : ExprOk g nv fv lvs pvs ns fs x) (hk : Kid ns clsR x) (lv : Nat) (hlv : lv ≤ 10) {w0 w : World} {out : List UInt8} (h : WS g nv fv lvs pvs ns fs w0 w out) (hlen : out.length + (atT (shV ns x) lv).length ≤ 100000000) :
    Calls Tryd.prog 64 #[.pointer (some ⟨g, 0, none⟩), .int .i64 x, .int .i64 lv] w fun e w' => e = .returned (.tuple #[]) ∧ WS g nv fv lvs pvs ns fs w0 w' (out ++ atT (shV ns x) lv) := by
  obtain ⟨nd, hnd⟩ : ∃ nd, ns[x]? = some nd := ⟨_, List.getElem?_eq_getElem hk.lt⟩
  have hlt := hk.lt
  obtain ⟨nb, c, kv, rfl, hc, hkv, x0, x1, x2, x3, x4⟩ := h.tree.node hnd
  obtain ⟨KA, KC, rfl, _, _⟩ := hkv.cap
  obtain ⟨d0, _, hg⟩ := h.cell0
  have hlev := shV_lev hnd
  have HLV := hid (fun w' => level_any nd (.slice KA nd.l.length KC) (fun h9 => sign_of (hok x nd hnd) h9) KA _ KC rfl w')
  have hx3 : (x : Int) < (ns.length : Int) := by omega
  have hx4 : (ns.length : Int) ≤ 9223372036854775807 := by have := h.tree.nodes.cap; obtain ⟨A, c2, e, h1, h2⟩ := this; unfold maxLen at h2; omega
  have eT : atT (shV ns x) lv = if levN nd < lv then 40 :: (txt ns x ++ [41]) else txt ns x := by unfold atT; rw [hlev]; rfl
  rw [eT] at hlen ⊢
  have hl2 : (lv : Int) ≤ 10 := by omega
  have hll : levN nd ≤ 6 := by
    unfold levN; split
    · omega
    · split
      · unfold signLv; (repeat' split) <;> omega
      · omega
  have S0 := hid h
  have HX := hid hx
  have HK := hid hk
  have HL0 := hid hlen
  generalize levN nd = L at *
  clear h hx hk hlen hnd hlev eT hlv hkv hlt hok
  by_cases hb : L < lv
  · have HL := hid (show out.length + (txt ns x).length + 2 ≤ 100000000 by have h5 := HL0.out; rw [if_pos hb] at h5; simp only [List.length_cons, List.length_append, List.length_nil] at h5; omega)
    clear HL0
    rw [if_pos hb]
    have hb2 : (L : Int) < (lv : Int) := by omega
    clear hb
    go_enter Tryd.func64, Tryd.ntmps64
    go_wp2_with fail
    refine (HLV.out _).mono ?_
    rintro e w1 ⟨rfl, h1⟩
    have S1 := hid (S0.out.no h1)
    clear h1 d0 hg x0 x1 x2 x3 x4
    go_wp2_with fail
    refine (wput1 S1.out rfl ⟨#[40]⟩ (by have := HL.out; show out.length + 1 ≤ _; omega)).mono ?_
    rintro e w2 ⟨rfl, h2⟩
    have S2 := hid h2
    clear h2
    go_wp2_with fail
    refine (HX.out _ _ _ S2.out HK.out (by have := HL.out; simp; omega)).mono ?_
    rintro e w3 ⟨rfl, h3⟩
    have S3 := hid h3
    clear h3
    go_wp2_with fail
    refine (wput1 S3.out rfl ⟨#[41]⟩ (by have := HL.out; simp; show _ + 1 ≤ _; omega)).mono ?_
    rintro e w4 ⟨rfl, h4⟩
    have S4 := hid h4
    clear h4
    go_wp2_with fail
    refine bodyPost_end (results_none rfl _ _ _) rfl ⟨rfl, ?_⟩
    have := S4.out
    simpa [List.append_assoc] using this
  · have HL := hid (show out.length + (txt ns x).length ≤ 100000000 by have h5 := HL0.out; rwa [if_neg hb] at h5)
    clear HL0
    rw [if_neg hb]
    have hb2 : (lv : Int) ≤ (L : Int) := by omega
    clear hb
    go_enter Tryd.func64, Tryd.ntmps64
    go_wp2_with fail
    refine (HLV.out _).mono ?_
    rintro e w1 ⟨rfl, h1⟩
    have S1 := hid (S0.out.no h1)
    clear h1 d0 hg x0 x1 x2 x3 x4
    go_wp2_with fail
    refine (HX.out _ _ _ S1.out HK.out (by have := HL.out; simp; omega)).mono ?_
    rintro e w3 ⟨rfl, h3⟩
    have S3 := hid h3
    clear h3
    go_wp2_with fail
    refine bodyPost_ret (results_none rfl _ _ _) rfl ⟨rfl, S3.out⟩
end
end Go.Proofs.YtahhgnbiahomiaaDoor
/- Show: signs. Printed by wip/tools/mksigns.py. -/
namespace Go.Proofs.YtahhgnbiahomiaaDoor
open Go.RowKit
set_option linter.unusedVariables false
set_option linter.unusedSimpArgs false
/-- What lies beside a writer and is not turned by it. -/
def KeptBy (g : Nat) (K : World → Prop) : Prop := ∀ (w w' : World) (cg : Array Value), Blk w g 55 cg → FrW g w w' → K w → K w'
/-- A writer, and what lies beside it. -/
structure WK (g : Nat) (nv fv : Value) (lvs pvs : List Value) (ns : List NodeM) (fs : List FuncM) (K : World → Prop) (w0 w : World) (out : List UInt8) : Prop where
  st : WS g nv fv lvs pvs ns fs w0 w out
  keep : K w
  kb : KeptBy g K
section
variable {g : Nat} {nv fv : Value} {lvs pvs : List Value} {ns : List NodeM} {fs : List FuncM} {K : World → Prop}
theorem WK.to {w0 w w' : World} {out out' : List UInt8} (h : WK g nv fv lvs pvs ns fs K w0 w out) (h' : WS g nv fv lvs pvs ns fs w w' out') : WK g nv fv lvs pvs ns fs K w0 w' out' := by
  obtain ⟨cg, hg⟩ := h.st.blkg
  exact ⟨h.st.back h', h.kb _ _ _ hg h'.fr h.keep, h.kb⟩
theorem WK.step {w0 w W : World} {out out' : List UInt8} (h : WK g nv fv lvs pvs ns fs K w0 w out) {f : FuncId} {args : Array Value} {E : Ending → Prop} (c : Calls Tryd.prog f args W fun e w' => E e ∧ WS g nv fv lvs pvs ns fs w w' out') :
    Calls Tryd.prog f args W fun e w' => E e ∧ WK g nv fv lvs pvs ns fs K w0 w' out' := c.mono fun e w' ⟨he, h'⟩ => ⟨he, h.to h'⟩
theorem WK.here {w0 w : World} {out : List UInt8} (h : WK g nv fv lvs pvs ns fs K w0 w out) : WS g nv fv lvs pvs ns fs w w out := h.st.here
theorem kept_blk (b : Nat) (t : TypeId) (cs : Array Value) (h1 : t ≠ 55) (h2 : t ≠ 5) : KeptBy g fun w => Blk w b t cs := fun w w' cg hg hf hb => hf.blk hg hb h1 h2
theorem kept_own (e : TypeId) (size n : Nat) (v : Value) (xs : List Value) (h1 : e ≠ 55) (h2 : e ≠ 5) : KeptBy g fun w => Own w e size v n xs := fun w w' cg hg hf ho => ho.frW hg h1 h2 hf
theorem kept_and {K1 K2 : World → Prop} (h1 : KeptBy g K1) (h2 : KeptBy g K2) : KeptBy g fun w => K1 w ∧ K2 w := fun w w' cg hg hf h => ⟨h1 w w' cg hg hf h.1, h2 w w' cg hg hf h.2⟩
/-- A node's copy, and its row of numbers. -/
def NodeK (b : Nat) (k line n : Nat) (name : ByteArray) (kv : Value) (l : List Nat) (w : World) : Prop := Blk w b 34 #[.int .i64 k, .int .i64 line, .int .i64 n, .string name, kv] ∧ Own w 3 1 kv l.length (ints l)
theorem kept_node (b : Nat) (k line n : Nat) (name : ByteArray) (kv : Value) (l : List Nat) : KeptBy g (NodeK b k line n name kv l) := kept_and (kept_blk _ _ _ (by decide) (by decide)) (kept_own _ _ _ _ _ (by decide) (by decide))
/-- The copy is made. -/
theorem WS.copy {w0 w : World} {out : List UInt8} (h : WS g nv fv lvs pvs ns fs w0 w out) {k line n : Nat} {name : ByteArray} {kv : Value} {l : List Nat} (ho : Own w 3 1 kv l.length (ints l)) :
    WK g nv fv lvs pvs ns fs (NodeK w.heap.size k line n name kv l) w0 (w.alloc (.cells #[.int .i64 k, .int .i64 line, .int .i64 n, .string name, kv] 34)) out :=
  ⟨h.no ((Fr.refl nob w).alloc _), ⟨Blk.new w _ _, ho.alloc _⟩, kept_node _ _ _ _ _ _ _⟩
theorem NodeK.cells {b k line n : Nat} {name : ByteArray} {kv : Value} {l : List Nat} {w : World} (h : NodeK b k line n name kv l w) : w.cell? ⟨b, 0, none⟩ = some (.int .i64 k) ∧ w.cell? ⟨b, 2, none⟩ = some (.int .i64 n) ∧ w.cell? ⟨b, 3, none⟩ = some (.string name) ∧ w.cell? ⟨b, 4, none⟩ = some kv ∧ b < w.heap.size :=
  ⟨by simpa using h.1.cell 0, by simpa using h.1.cell 2, by simpa using h.1.cell 3, by simpa using h.1.cell 4, h.1.lt⟩
theorem NodeK.kid {b k line n kb kc : Nat} {name : ByteArray} {l : List Nat} {w : World} (h : NodeK b k line n name (.slice (some ⟨kb, 0, none⟩) l.length kc) l w) (j a : Nat) (ha : l[j]? = some a) : w.cell? ⟨kb, j, none⟩ = some (.int .i64 (a : Nat)) := by
  have hl := (List.getElem?_eq_some_iff.1 ha).1
  obtain ⟨kb', c', e, _, hc⟩ := kids_get h.2 (by omega)
  injection e with e1 e2 e3
  injection e1 with e1
  injection e1 with e1
  subst e1
  exact hc j a ha
set_option maxHeartbeats 2000000 in
set_option maxRecDepth 100000 in
theorem signs_neg (hok : NodesOk ns) {a : Nat} (hx : ExprOk g nv fv lvs pvs ns fs a) (hk : Kid ns clsR a) (line : Nat) {kv : Value} {w0 w : World} {out : List UInt8} (h : WS g nv fv lvs pvs ns fs w0 w out) (hkv : Own w 3 1 kv [a].length (ints [a])) (hlen : out.length + (45 :: atT (shV ns a) 5).length ≤ 100000000) :
    Calls Tryd.prog 45 #[.pointer (some ⟨g, 0, none⟩), .agg #[.int .i64 7, .int .i64 line, .int .i64 0, .string ⟨#[]⟩, kv]] w fun e w' => e = .returned (.tuple #[]) ∧ WS g nv fv lvs pvs ns fs w0 w' (out ++ (45 :: atT (shV ns a) 5)) := by
  obtain ⟨kb, kc, rfl, _, _⟩ := kids_get hkv Nat.one_pos
  have S0 := hid h
  have HO := hid hkv
  have HX := hid hx
  have HK := hid hk
  have HOK := hid hok
  have HL := hid (show out.length + 1 + (atT (shV ns a) 5).length ≤ 100000000 by rw [List.length_cons] at hlen; omega)
  clear h hx hk hlen hok hkv
  go_enter Tryd.func45, Tryd.ntmps45
  go_wp2_with fail
  have S1 := hid (S0.out.copy (k := 7) (line := line) (n := 0) (name := ⟨#[]⟩) HO.out)
  have HSZ := hid (show (w.alloc (.cells #[.int .i64 7, .int .i64 line, .int .i64 0, .string ⟨#[]⟩, .slice (some ⟨kb, 0, none⟩) 1 kc] 34)).heap.size = w.heap.size + 1 by simp)
  generalize hB : w.heap.size = B at *
  clear hB
  generalize hw1 : w.alloc (.cells #[.int .i64 7, .int .i64 line, .int .i64 0, .string ⟨#[]⟩, .slice (some ⟨kb, 0, none⟩) 1 kc] 34) = w1 at *
  clear hw1 HO S0
  refine (S1.out.step (wput1 S1.out.here HSZ.out ⟨#[45]⟩ (by have := HL.out; show _ + 1 ≤ _; omega))).mono ?_
  rintro e w2 ⟨rfl, h2⟩
  have S2 := hid h2
  clear h2 S1
  obtain ⟨c0, c2, c3, c4, hB⟩ := S2.out.keep.cells
  have k0 := S2.out.keep.kid 0 a rfl
  go_wp2_with fail
  refine (S2.out.step (at_any HOK.out HX.out HK.out 5 (by decide) S2.out.here (by have := HL.out; simp; omega))).mono ?_
  rintro e w3 ⟨rfl, h3⟩
  have S3 := hid h3
  clear h3 c0 c2 c3 c4 k0
  go_wp2_with fail
  first | refine bodyPost_end (results_none rfl _ _ _) rfl ⟨rfl, ?_⟩ | refine bodyPost_ret (results_none rfl _ _ _) rfl ⟨rfl, ?_⟩
  have := S3.out.st
  simpa [List.append_assoc] using this
set_option maxHeartbeats 2000000 in
set_option maxRecDepth 100000 in
theorem signs_not (hok : NodesOk ns) {a : Nat} (hx : ExprOk g nv fv lvs pvs ns fs a) (hk : Kid ns clsR a) (line : Nat) {kv : Value} {w0 w : World} {out : List UInt8} (h : WS g nv fv lvs pvs ns fs w0 w out) (hkv : Own w 3 1 kv [a].length (ints [a])) (hlen : out.length + (33 :: atT (shV ns a) 5).length ≤ 100000000) :
    Calls Tryd.prog 45 #[.pointer (some ⟨g, 0, none⟩), .agg #[.int .i64 8, .int .i64 line, .int .i64 0, .string ⟨#[]⟩, kv]] w fun e w' => e = .returned (.tuple #[]) ∧ WS g nv fv lvs pvs ns fs w0 w' (out ++ (33 :: atT (shV ns a) 5)) := by
  obtain ⟨kb, kc, rfl, _, _⟩ := kids_get hkv Nat.one_pos
  have S0 := hid h
  have HO := hid hkv
  have HX := hid hx
  have HK := hid hk
  have HOK := hid hok
  have HL := hid (show out.length + 1 + (atT (shV ns a) 5).length ≤ 100000000 by rw [List.length_cons] at hlen; omega)
  clear h hx hk hlen hok hkv
  go_enter Tryd.func45, Tryd.ntmps45
  go_wp2_with fail
  have S1 := hid (S0.out.copy (k := 8) (line := line) (n := 0) (name := ⟨#[]⟩) HO.out)
  have HSZ := hid (show (w.alloc (.cells #[.int .i64 8, .int .i64 line, .int .i64 0, .string ⟨#[]⟩, .slice (some ⟨kb, 0, none⟩) 1 kc] 34)).heap.size = w.heap.size + 1 by simp)
  generalize hB : w.heap.size = B at *
  clear hB
  generalize hw1 : w.alloc (.cells #[.int .i64 8, .int .i64 line, .int .i64 0, .string ⟨#[]⟩, .slice (some ⟨kb, 0, none⟩) 1 kc] 34) = w1 at *
  clear hw1 HO S0
  refine (S1.out.step (wput1 S1.out.here HSZ.out ⟨#[33]⟩ (by have := HL.out; show _ + 1 ≤ _; omega))).mono ?_
  rintro e w2 ⟨rfl, h2⟩
  have S2 := hid h2
  clear h2 S1
  obtain ⟨c0, c2, c3, c4, hB⟩ := S2.out.keep.cells
  have k0 := S2.out.keep.kid 0 a rfl
  go_wp2_with fail
  refine (S2.out.step (at_any HOK.out HX.out HK.out 5 (by decide) S2.out.here (by have := HL.out; simp; omega))).mono ?_
  rintro e w3 ⟨rfl, h3⟩
  have S3 := hid h3
  clear h3 c0 c2 c3 c4 k0
  go_wp2_with fail
  first | refine bodyPost_end (results_none rfl _ _ _) rfl ⟨rfl, ?_⟩ | refine bodyPost_ret (results_none rfl _ _ _) rfl ⟨rfl, ?_⟩
  have := S3.out.st
  simpa [List.append_assoc] using this
set_option maxHeartbeats 2000000 in
set_option maxRecDepth 100000 in
theorem signs_bin (hok : NodesOk ns) {a b : Nat} (hx : ExprOk g nv fv lvs pvs ns fs a) (hk : Kid ns clsR a) (hx2 : ExprOk g nv fv lvs pvs ns fs b) (hk2 : Kid ns clsR b) (line : Nat) {y : List UInt8} (hy : y ∈ allSigns) {kv : Value} {w0 w : World} {out : List UInt8} (h : WS g nv fv lvs pvs ns fs w0 w out) (hkv : Own w 3 1 kv [a, b].length (ints [a, b])) (hlen : out.length + (atT (shV ns a) (leftLv (signLv y)) ++ (y ++ atT (shV ns b) (signLv y + 1))).length ≤ 100000000) :
    Calls Tryd.prog 45 #[.pointer (some ⟨g, 0, none⟩), .agg #[.int .i64 9, .int .i64 line, .int .i64 0, .string (bs y), kv]] w fun e w' => e = .returned (.tuple #[]) ∧ WS g nv fv lvs pvs ns fs w0 w' (out ++ (atT (shV ns a) (leftLv (signLv y)) ++ (y ++ atT (shV ns b) (signLv y + 1)))) := by
  obtain ⟨kb, kc, rfl, _, _⟩ := kids_get hkv (show 0 < 2 by decide)
  have HLV := hid (fun w' => level_any ⟨9, line, 0, y, [a, b]⟩ (.slice (some ⟨kb, 0, none⟩) 2 kc) (fun _ => hy) _ _ _ rfl w')
  have e9 : levN ⟨9, line, 0, y, [a, b]⟩ = signLv y := by unfold levN; simp
  rw [e9] at HLV
  have hll : signLv y ≤ 4 := by unfold signLv; (repeat' split) <;> omega
  have hl4 : (signLv y : Int) ≤ 4 := by omega
  have S0 := hid h
  have HO := hid hkv
  have HX := hid hx
  have HK := hid hk
  have HX2 := hid hx2
  have HK2 := hid hk2
  have HOK := hid hok
  have HL := hid (show out.length + (atT (shV ns a) (leftLv (signLv y))).length + y.length + (atT (shV ns b) (signLv y + 1)).length ≤ 100000000 by rw [List.length_append, List.length_append] at hlen; omega)
  clear h hx hk hx2 hk2 hlen hok hkv hy e9
  unfold leftLv at *
  generalize signLv y = L at *
  by_cases h2 : L = 2
  · skip
    have l2 : ((L : Int) == 2) = true := (by rw [h2]; rfl)
    rw [show (if L = 2 then 3 else L) = L + 1 by rw [if_pos h2]; omega] at HL ⊢
    clear h2
    go_enter Tryd.func45, Tryd.ntmps45
    go_wp2_with fail
    have S1 := hid (S0.out.copy (k := 9) (line := line) (n := 0) (name := bs y) HO.out)
    generalize hB : w.heap.size = B at *
    clear hB
    generalize hw1 : w.alloc (.cells #[.int .i64 9, .int .i64 line, .int .i64 0, .string (bs y), .slice (some ⟨kb, 0, none⟩) 2 kc] 34) = w1 at *
    clear hw1 HO S0
    refine (HLV.out _).mono ?_
    rintro e w2 ⟨rfl, hf2⟩
    have S2 := hid (S1.out.to (S1.out.here.no hf2))
    clear hf2 S1
    obtain ⟨c0, c2, c3, c4, hB⟩ := S2.out.keep.cells
    have k0 := S2.out.keep.kid 0 a rfl
    go_wp2_with fail
    refine (S2.out.step (at_any HOK.out HX.out HK.out (L + 1) (by omega) S2.out.here (by have := HL.out; omega))).mono ?_
    rintro e w3 ⟨rfl, h3⟩
    have S3 := hid h3
    clear h3 c0 c2 c3 c4 k0 hB S2
    obtain ⟨c0, c2, c3, c4, hB⟩ := S3.out.keep.cells
    go_wp2_with fail
    refine (S3.out.step (wput1 S3.out.here rfl (bs y) (by have h5 := HL.out; rw [List.length_append, show (bs y).size = y.length from by show y.toArray.size = _; simp]; omega))).mono ?_
    rintro e w4 ⟨rfl, h4⟩
    have S4 := hid h4
    clear h4 c0 c2 c3 c4 hB S3
    obtain ⟨c0, c2, c3, c4, hB⟩ := S4.out.keep.cells
    have k1 := S4.out.keep.kid 1 b rfl
    go_wp2_with fail
    refine (S4.out.step (at_any HOK.out HX2.out HK2.out (L + 1) (by omega) S4.out.here (by have h5 := HL.out; rw [List.length_append, List.length_append, show (bs y).data.toList = y from rfl]; omega))).mono ?_
    rintro e w5 ⟨rfl, h5⟩
    have S5 := hid h5
    clear h5 c0 c2 c3 c4 k1 hB S4
    go_wp2_with fail
    first | refine bodyPost_end (results_none rfl _ _ _) rfl ⟨rfl, ?_⟩ | refine bodyPost_ret (results_none rfl _ _ _) rfl ⟨rfl, ?_⟩
    have := S5.out.st
    rw [show (bs y).data.toList = y from rfl] at this
    simpa [List.append_assoc] using this
  · skip
    have l2 : ((L : Int) == 2) = false := beq_eq_false_iff_ne.2 (by omega)
    rw [if_neg h2] at HL ⊢
    clear h2
    go_enter Tryd.func45, Tryd.ntmps45
    go_wp2_with fail
    have S1 := hid (S0.out.copy (k := 9) (line := line) (n := 0) (name := bs y) HO.out)
    generalize hB : w.heap.size = B at *
    clear hB
    generalize hw1 : w.alloc (.cells #[.int .i64 9, .int .i64 line, .int .i64 0, .string (bs y), .slice (some ⟨kb, 0, none⟩) 2 kc] 34) = w1 at *
    clear hw1 HO S0
    refine (HLV.out _).mono ?_
    rintro e w2 ⟨rfl, hf2⟩
    have S2 := hid (S1.out.to (S1.out.here.no hf2))
    clear hf2 S1
    obtain ⟨c0, c2, c3, c4, hB⟩ := S2.out.keep.cells
    have k0 := S2.out.keep.kid 0 a rfl
    go_wp2_with fail
    refine (S2.out.step (at_any HOK.out HX.out HK.out L (by omega) S2.out.here (by have := HL.out; omega))).mono ?_
    rintro e w3 ⟨rfl, h3⟩
    have S3 := hid h3
    clear h3 c0 c2 c3 c4 k0 hB S2
    obtain ⟨c0, c2, c3, c4, hB⟩ := S3.out.keep.cells
    go_wp2_with fail
    refine (S3.out.step (wput1 S3.out.here rfl (bs y) (by have h5 := HL.out; rw [List.length_append, show (bs y).size = y.length from by show y.toArray.size = _; simp]; omega))).mono ?_
    rintro e w4 ⟨rfl, h4⟩
    have S4 := hid h4
    clear h4 c0 c2 c3 c4 hB S3
    obtain ⟨c0, c2, c3, c4, hB⟩ := S4.out.keep.cells
    have k1 := S4.out.keep.kid 1 b rfl
    go_wp2_with fail
    refine (S4.out.step (at_any HOK.out HX2.out HK2.out (L + 1) (by omega) S4.out.here (by have h5 := HL.out; rw [List.length_append, List.length_append, show (bs y).data.toList = y from rfl]; omega))).mono ?_
    rintro e w5 ⟨rfl, h5⟩
    have S5 := hid h5
    clear h5 c0 c2 c3 c4 k1 hB S4
    go_wp2_with fail
    first | refine bodyPost_end (results_none rfl _ _ _) rfl ⟨rfl, ?_⟩ | refine bodyPost_ret (results_none rfl _ _ _) rfl ⟨rfl, ?_⟩
    have := S5.out.st
    rw [show (bs y).data.toList = y from rfl] at this
    simpa [List.append_assoc] using this
end
end Go.Proofs.YtahhgnbiahomiaaDoor
/- Show: expr, by kinds. Printed by wip/tools/mkexpr.py. -/
namespace Go.Proofs.YtahhgnbiahomiaaDoor
open Go.RowKit
set_option linter.unusedVariables false
set_option linter.unusedSimpArgs false
section
variable {g : Nat} {nv fv : Value} {lvs pvs : List Value} {ns : List NodeM} {fs : List FuncM}
/-- A pointer to the writer, and a node's copy behind it. -/
def PtrK (g b : Nat) (w : World) : Prop := Blk w b 73 #[.pointer (some ⟨g, 0, none⟩)]
def ExK (g b k line n : Nat) (name : ByteArray) (kv : Value) (l : List Nat) (w : World) : Prop := PtrK g b w ∧ NodeK (b + 1) k line n name kv l w
theorem bs_size (l : List UInt8) : (bs l).size = l.length := by show l.toArray.size = _; simp
@[simp] theorem bs_list (l : List UInt8) : (bs l).data.toList = l := by show l.toArray.toList = _; simp
theorem kept_ex (b k line n : Nat) (name : ByteArray) (kv : Value) (l : List Nat) : KeptBy g (ExK g b k line n name kv l) := kept_and (kept_blk _ _ _ (by decide) (by decide)) (kept_node _ _ _ _ _ _ _)
theorem ExK.ptr {b k line n : Nat} {name : ByteArray} {kv : Value} {l : List Nat} {w : World} (h : ExK g b k line n name kv l w) : w.cell? ⟨b, 0, none⟩ = some (.pointer (some ⟨g, 0, none⟩)) := by simpa using h.1.cell 0
theorem WS.copy2 {w0 w : World} {out : List UInt8} (h : WS g nv fv lvs pvs ns fs w0 w out) {k line n : Nat} {name : ByteArray} {kv : Value} {l : List Nat} (ho : Own w 3 1 kv l.length (ints l)) :
    WK g nv fv lvs pvs ns fs (ExK g w.heap.size k line n name kv l) w0 ((w.alloc (.cells #[.pointer (some ⟨g, 0, none⟩)] 73)).alloc (.cells #[.int .i64 k, .int .i64 line, .int .i64 n, .string name, kv] 34)) out :=
  ⟨(h.no ((Fr.refl nob w).alloc _)).no ((Fr.refl nob _).alloc _), ⟨(Blk.new w _ _).alloc _, Blk.new1 _ _ _ _, (ho.alloc _).alloc _⟩, kept_ex _ _ _ _ _ _ _⟩
set_option maxHeartbeats 2000000 in
set_option maxRecDepth 100000 in
theorem expr_var (hok : NodesOk ns) {x : Nat} {line : Nat} {nm : List UInt8} (hx : ns[x]? = some ⟨4, line, 0, nm, []⟩) {w0 w : World} {out : List UInt8} (h : WS g nv fv lvs pvs ns fs w0 w out) (hlen : out.length + nm.length ≤ 100000000) :
    Calls Tryd.prog 24 #[.pointer (some ⟨g, 0, none⟩), .int .i64 x] w fun e w' => e = .returned (.tuple #[]) ∧ WS g nv fv lvs pvs ns fs w0 w' (out ++ nm) := by
  obtain ⟨nb, c, kv, rfl, hc, hkv, x0, x1, x2, x3, x4⟩ := h.tree.node hx
  have hlt := (List.getElem?_eq_some_iff.1 hx).1
  have hx3 : (x : Int) < (ns.length : Int) := by omega
  have hx4 : (ns.length : Int) ≤ 9223372036854775807 := by have := h.tree.nodes.cap; obtain ⟨A, c2, e, h1, h2⟩ := this; unfold maxLen at h2; omega
  obtain ⟨d0, _, hg⟩ := h.cell0
  have n3 : nb < w.heap.size := World.block_lt_of_cell? w ⟨nb, x * 5, none⟩ x0
  have n1 : ¬ g = w.heap.size := by omega
  have n2 : ¬ nb = w.heap.size := by omega
  dsimp only at x0 x1 x2 x3 x4 hkv
  obtain ⟨KA, KC, rfl, _, _⟩ := hkv.cap
  have S0 := hid h
  have HO := hid hkv
  have HOK := hid hok
  have HL := hid hlen
  clear h hlen hok hkv hx hlt hc
  go_enter Tryd.func24, Tryd.ntmps24
  go_wp2_with fail
  have S1 := hid (S0.out.copy2 (k := 4) (line := line) (n := 0) (name := (bs nm)) HO.out)
  have HSZ := hid (show ((w.alloc (.cells #[.pointer (some ⟨g, 0, none⟩)] 73)).alloc (.cells #[.int .i64 4, .int .i64 line, .int .i64 0, .string (bs nm), .slice KA ([] : List Nat).length KC] 34)).heap.size = w.heap.size + 1 + 1 by simp)
  clear d0 hg n1 n2 n3 x0 x1 x2 x3 x4 hx3 hx4 HO S0
  generalize hB : w.heap.size = B at *
  clear hB
  generalize hw1 : (w.alloc (.cells #[.pointer (some ⟨g, 0, none⟩)] 73)).alloc (.cells #[.int .i64 4, .int .i64 line, .int .i64 0, .string (bs nm), .slice KA ([] : List Nat).length KC] 34) = w1 at *
  clear hw1
  refine (S1.out.step (wput1 S1.out.here HSZ.out (bs nm) (by have h5 := HL.out; have h6 := bs_size nm; omega))).mono ?_
  rintro e w2 ⟨rfl, h2⟩
  have S2 := hid h2
  clear h2
  go_wp2_with fail
  first | refine bodyPost_end (results_none rfl _ _ _) rfl ⟨rfl, ?_⟩ | refine bodyPost_ret (results_none rfl _ _ _) rfl ⟨rfl, ?_⟩
  have := S2.out.st
  simpa [List.append_assoc, bs_list] using this
set_option maxHeartbeats 2000000 in
set_option maxRecDepth 100000 in
theorem expr_text (hok : NodesOk ns) {x : Nat} {line : Nat} {nm : List UInt8} (hx : ns[x]? = some ⟨3, line, 0, nm, []⟩) {w0 w : World} {out : List UInt8} (h : WS g nv fv lvs pvs ns fs w0 w out) (hlen : out.length + nm.length + 2 ≤ 100000000) :
    Calls Tryd.prog 24 #[.pointer (some ⟨g, 0, none⟩), .int .i64 x] w fun e w' => e = .returned (.tuple #[]) ∧ WS g nv fv lvs pvs ns fs w0 w' (out ++ (34 :: (nm ++ [34]))) := by
  obtain ⟨nb, c, kv, rfl, hc, hkv, x0, x1, x2, x3, x4⟩ := h.tree.node hx
  have hlt := (List.getElem?_eq_some_iff.1 hx).1
  have hx3 : (x : Int) < (ns.length : Int) := by omega
  have hx4 : (ns.length : Int) ≤ 9223372036854775807 := by have := h.tree.nodes.cap; obtain ⟨A, c2, e, h1, h2⟩ := this; unfold maxLen at h2; omega
  obtain ⟨d0, _, hg⟩ := h.cell0
  have n3 : nb < w.heap.size := World.block_lt_of_cell? w ⟨nb, x * 5, none⟩ x0
  have n1 : ¬ g = w.heap.size := by omega
  have n2 : ¬ nb = w.heap.size := by omega
  dsimp only at x0 x1 x2 x3 x4 hkv
  obtain ⟨KA, KC, rfl, _, _⟩ := hkv.cap
  have S0 := hid h
  have HO := hid hkv
  have HOK := hid hok
  have HL := hid hlen
  clear h hlen hok hkv hx hlt hc
  go_enter Tryd.func24, Tryd.ntmps24
  go_wp2_with fail
  have S1 := hid (S0.out.copy2 (k := 3) (line := line) (n := 0) (name := (bs nm)) HO.out)
  have HSZ := hid (show ((w.alloc (.cells #[.pointer (some ⟨g, 0, none⟩)] 73)).alloc (.cells #[.int .i64 3, .int .i64 line, .int .i64 0, .string (bs nm), .slice KA ([] : List Nat).length KC] 34)).heap.size = w.heap.size + 1 + 1 by simp)
  clear d0 hg n1 n2 n3 x0 x1 x2 x3 x4 hx3 hx4 HO S0
  generalize hB : w.heap.size = B at *
  clear hB
  generalize hw1 : (w.alloc (.cells #[.pointer (some ⟨g, 0, none⟩)] 73)).alloc (.cells #[.int .i64 3, .int .i64 line, .int .i64 0, .string (bs nm), .slice KA ([] : List Nat).length KC] 34) = w1 at *
  clear hw1
  refine (S1.out.step (wput3 S1.out.here HSZ.out ⟨#[34]⟩ (bs nm) ⟨#[34]⟩ (by have h5 := HL.out; rw [bs_size]; show _ + 1 + _ + 1 ≤ _; omega))).mono ?_
  rintro e w2 ⟨rfl, h2⟩
  have S2 := hid h2
  clear h2
  go_wp2_with fail
  first | refine bodyPost_end (results_none rfl _ _ _) rfl ⟨rfl, ?_⟩ | refine bodyPost_ret (results_none rfl _ _ _) rfl ⟨rfl, ?_⟩
  have := S2.out.st
  simpa [List.append_assoc, bs_list] using this
set_option maxHeartbeats 2000000 in
set_option maxRecDepth 100000 in
theorem expr_input (hok : NodesOk ns) {x : Nat} {line : Nat} (hx : ns[x]? = some ⟨19, line, 0, [], []⟩) {w0 w : World} {out : List UInt8} (h : WS g nv fv lvs pvs ns fs w0 w out) (hlen : out.length + 5 ≤ 100000000) :
    Calls Tryd.prog 24 #[.pointer (some ⟨g, 0, none⟩), .int .i64 x] w fun e w' => e = .returned (.tuple #[]) ∧ WS g nv fv lvs pvs ns fs w0 w' (out ++ [105, 110, 112, 117, 116]) := by
  obtain ⟨nb, c, kv, rfl, hc, hkv, x0, x1, x2, x3, x4⟩ := h.tree.node hx
  have hlt := (List.getElem?_eq_some_iff.1 hx).1
  have hx3 : (x : Int) < (ns.length : Int) := by omega
  have hx4 : (ns.length : Int) ≤ 9223372036854775807 := by have := h.tree.nodes.cap; obtain ⟨A, c2, e, h1, h2⟩ := this; unfold maxLen at h2; omega
  obtain ⟨d0, _, hg⟩ := h.cell0
  have n3 : nb < w.heap.size := World.block_lt_of_cell? w ⟨nb, x * 5, none⟩ x0
  have n1 : ¬ g = w.heap.size := by omega
  have n2 : ¬ nb = w.heap.size := by omega
  dsimp only at x0 x1 x2 x3 x4 hkv
  obtain ⟨KA, KC, rfl, _, _⟩ := hkv.cap
  have S0 := hid h
  have HO := hid hkv
  have HOK := hid hok
  have HL := hid hlen
  clear h hlen hok hkv hx hlt hc
  go_enter Tryd.func24, Tryd.ntmps24
  go_wp2_with fail
  have S1 := hid (S0.out.copy2 (k := 19) (line := line) (n := 0) (name := (bs [])) HO.out)
  have HSZ := hid (show ((w.alloc (.cells #[.pointer (some ⟨g, 0, none⟩)] 73)).alloc (.cells #[.int .i64 19, .int .i64 line, .int .i64 0, .string (bs []), .slice KA ([] : List Nat).length KC] 34)).heap.size = w.heap.size + 1 + 1 by simp)
  clear d0 hg n1 n2 n3 x0 x1 x2 x3 x4 hx3 hx4 HO S0
  generalize hB : w.heap.size = B at *
  clear hB
  generalize hw1 : (w.alloc (.cells #[.pointer (some ⟨g, 0, none⟩)] 73)).alloc (.cells #[.int .i64 19, .int .i64 line, .int .i64 0, .string (bs []), .slice KA ([] : List Nat).length KC] 34) = w1 at *
  clear hw1
  refine (S1.out.step (wput1 S1.out.here HSZ.out ⟨#[105, 110, 112, 117, 116]⟩ (by have h5 := HL.out; show _ + 5 ≤ _; omega))).mono ?_
  rintro e w2 ⟨rfl, h2⟩
  have S2 := hid h2
  clear h2
  go_wp2_with fail
  first | refine bodyPost_end (results_none rfl _ _ _) rfl ⟨rfl, ?_⟩ | refine bodyPost_ret (results_none rfl _ _ _) rfl ⟨rfl, ?_⟩
  have := S2.out.st
  simpa [List.append_assoc, bs_list] using this
set_option maxHeartbeats 2000000 in
set_option maxRecDepth 100000 in
theorem expr_neg (hok : NodesOk ns) {x : Nat} {line a : Nat} (hxa : ExprOk g nv fv lvs pvs ns fs a) (hka : Kid ns clsR a) (hx : ns[x]? = some ⟨7, line, 0, [], [a]⟩) {w0 w : World} {out : List UInt8} (h : WS g nv fv lvs pvs ns fs w0 w out) (hlen : out.length + (45 :: atT (shV ns a) 5).length ≤ 100000000) :
    Calls Tryd.prog 24 #[.pointer (some ⟨g, 0, none⟩), .int .i64 x] w fun e w' => e = .returned (.tuple #[]) ∧ WS g nv fv lvs pvs ns fs w0 w' (out ++ (45 :: atT (shV ns a) 5)) := by
  obtain ⟨nb, c, kv, rfl, hc, hkv, x0, x1, x2, x3, x4⟩ := h.tree.node hx
  have hlt := (List.getElem?_eq_some_iff.1 hx).1
  have hx3 : (x : Int) < (ns.length : Int) := by omega
  have hx4 : (ns.length : Int) ≤ 9223372036854775807 := by have := h.tree.nodes.cap; obtain ⟨A, c2, e, h1, h2⟩ := this; unfold maxLen at h2; omega
  obtain ⟨d0, _, hg⟩ := h.cell0
  have n3 : nb < w.heap.size := World.block_lt_of_cell? w ⟨nb, x * 5, none⟩ x0
  have n1 : ¬ g = w.heap.size := by omega
  have n2 : ¬ nb = w.heap.size := by omega
  dsimp only at x0 x1 x2 x3 x4 hkv
  obtain ⟨kb, kc, rfl, _, _⟩ := kids_get hkv Nat.one_pos
  have HX := hid hxa
  have HK := hid hka
  clear hxa hka
  have S0 := hid h
  have HO := hid hkv
  have HOK := hid hok
  have HL := hid hlen
  clear h hlen hok hkv hx hlt hc
  go_enter Tryd.func24, Tryd.ntmps24
  go_wp2_with fail
  have S1 := hid (S0.out.copy2 (k := 7) (line := line) (n := 0) (name := (bs [])) HO.out)
  have HSZ := hid (show ((w.alloc (.cells #[.pointer (some ⟨g, 0, none⟩)] 73)).alloc (.cells #[.int .i64 7, .int .i64 line, .int .i64 0, .string (bs []), .slice (some ⟨kb, 0, none⟩) [a].length kc] 34)).heap.size = w.heap.size + 1 + 1 by simp)
  clear d0 hg n1 n2 n3 x0 x1 x2 x3 x4 hx3 hx4 HO S0
  generalize hB : w.heap.size = B at *
  clear hB
  generalize hw1 : (w.alloc (.cells #[.pointer (some ⟨g, 0, none⟩)] 73)).alloc (.cells #[.int .i64 7, .int .i64 line, .int .i64 0, .string (bs []), .slice (some ⟨kb, 0, none⟩) [a].length kc] 34) = w1 at *
  clear hw1
  refine (S1.out.step (signs_neg HOK.out HX.out HK.out line S1.out.here S1.out.keep.2.2 HL.out)).mono ?_
  rintro e w2 ⟨rfl, h2⟩
  have S2 := hid h2
  clear h2
  go_wp2_with fail
  first | refine bodyPost_end (results_none rfl _ _ _) rfl ⟨rfl, ?_⟩ | refine bodyPost_ret (results_none rfl _ _ _) rfl ⟨rfl, ?_⟩
  have := S2.out.st
  simpa [List.append_assoc, bs_list] using this
set_option maxHeartbeats 2000000 in
set_option maxRecDepth 100000 in
theorem expr_not (hok : NodesOk ns) {x : Nat} {line a : Nat} (hxa : ExprOk g nv fv lvs pvs ns fs a) (hka : Kid ns clsR a) (hx : ns[x]? = some ⟨8, line, 0, [], [a]⟩) {w0 w : World} {out : List UInt8} (h : WS g nv fv lvs pvs ns fs w0 w out) (hlen : out.length + (33 :: atT (shV ns a) 5).length ≤ 100000000) :
    Calls Tryd.prog 24 #[.pointer (some ⟨g, 0, none⟩), .int .i64 x] w fun e w' => e = .returned (.tuple #[]) ∧ WS g nv fv lvs pvs ns fs w0 w' (out ++ (33 :: atT (shV ns a) 5)) := by
  obtain ⟨nb, c, kv, rfl, hc, hkv, x0, x1, x2, x3, x4⟩ := h.tree.node hx
  have hlt := (List.getElem?_eq_some_iff.1 hx).1
  have hx3 : (x : Int) < (ns.length : Int) := by omega
  have hx4 : (ns.length : Int) ≤ 9223372036854775807 := by have := h.tree.nodes.cap; obtain ⟨A, c2, e, h1, h2⟩ := this; unfold maxLen at h2; omega
  obtain ⟨d0, _, hg⟩ := h.cell0
  have n3 : nb < w.heap.size := World.block_lt_of_cell? w ⟨nb, x * 5, none⟩ x0
  have n1 : ¬ g = w.heap.size := by omega
  have n2 : ¬ nb = w.heap.size := by omega
  dsimp only at x0 x1 x2 x3 x4 hkv
  obtain ⟨kb, kc, rfl, _, _⟩ := kids_get hkv Nat.one_pos
  have HX := hid hxa
  have HK := hid hka
  clear hxa hka
  have S0 := hid h
  have HO := hid hkv
  have HOK := hid hok
  have HL := hid hlen
  clear h hlen hok hkv hx hlt hc
  go_enter Tryd.func24, Tryd.ntmps24
  go_wp2_with fail
  have S1 := hid (S0.out.copy2 (k := 8) (line := line) (n := 0) (name := (bs [])) HO.out)
  have HSZ := hid (show ((w.alloc (.cells #[.pointer (some ⟨g, 0, none⟩)] 73)).alloc (.cells #[.int .i64 8, .int .i64 line, .int .i64 0, .string (bs []), .slice (some ⟨kb, 0, none⟩) [a].length kc] 34)).heap.size = w.heap.size + 1 + 1 by simp)
  clear d0 hg n1 n2 n3 x0 x1 x2 x3 x4 hx3 hx4 HO S0
  generalize hB : w.heap.size = B at *
  clear hB
  generalize hw1 : (w.alloc (.cells #[.pointer (some ⟨g, 0, none⟩)] 73)).alloc (.cells #[.int .i64 8, .int .i64 line, .int .i64 0, .string (bs []), .slice (some ⟨kb, 0, none⟩) [a].length kc] 34) = w1 at *
  clear hw1
  refine (S1.out.step (signs_not HOK.out HX.out HK.out line S1.out.here S1.out.keep.2.2 HL.out)).mono ?_
  rintro e w2 ⟨rfl, h2⟩
  have S2 := hid h2
  clear h2
  go_wp2_with fail
  first | refine bodyPost_end (results_none rfl _ _ _) rfl ⟨rfl, ?_⟩ | refine bodyPost_ret (results_none rfl _ _ _) rfl ⟨rfl, ?_⟩
  have := S2.out.st
  simpa [List.append_assoc, bs_list] using this
set_option maxHeartbeats 2000000 in
set_option maxRecDepth 100000 in
theorem expr_bin (hok : NodesOk ns) {x : Nat} {line a b : Nat} {nm : List UInt8} (hy : nm ∈ allSigns) (hxa : ExprOk g nv fv lvs pvs ns fs a) (hka : Kid ns clsR a) (hxb : ExprOk g nv fv lvs pvs ns fs b) (hkb : Kid ns clsR b) (hx : ns[x]? = some ⟨9, line, 0, nm, [a, b]⟩) {w0 w : World} {out : List UInt8} (h : WS g nv fv lvs pvs ns fs w0 w out) (hlen : out.length + (atT (shV ns a) (leftLv (signLv nm)) ++ (nm ++ atT (shV ns b) (signLv nm + 1))).length ≤ 100000000) :
    Calls Tryd.prog 24 #[.pointer (some ⟨g, 0, none⟩), .int .i64 x] w fun e w' => e = .returned (.tuple #[]) ∧ WS g nv fv lvs pvs ns fs w0 w' (out ++ (atT (shV ns a) (leftLv (signLv nm)) ++ (nm ++ atT (shV ns b) (signLv nm + 1)))) := by
  obtain ⟨nb, c, kv, rfl, hc, hkv, x0, x1, x2, x3, x4⟩ := h.tree.node hx
  have hlt := (List.getElem?_eq_some_iff.1 hx).1
  have hx3 : (x : Int) < (ns.length : Int) := by omega
  have hx4 : (ns.length : Int) ≤ 9223372036854775807 := by have := h.tree.nodes.cap; obtain ⟨A, c2, e, h1, h2⟩ := this; unfold maxLen at h2; omega
  obtain ⟨d0, _, hg⟩ := h.cell0
  have n3 : nb < w.heap.size := World.block_lt_of_cell? w ⟨nb, x * 5, none⟩ x0
  have n1 : ¬ g = w.heap.size := by omega
  have n2 : ¬ nb = w.heap.size := by omega
  dsimp only at x0 x1 x2 x3 x4 hkv
  obtain ⟨kb, kc, rfl, _, _⟩ := kids_get hkv (show 0 < 2 by decide)
  have HX := hid hxa
  have HK := hid hka
  have HX2 := hid hxb
  have HK2 := hid hkb
  have HY := hid hy
  clear hxa hka hxb hkb hy
  have S0 := hid h
  have HO := hid hkv
  have HOK := hid hok
  have HL := hid hlen
  clear h hlen hok hkv hx hlt hc
  go_enter Tryd.func24, Tryd.ntmps24
  go_wp2_with fail
  have S1 := hid (S0.out.copy2 (k := 9) (line := line) (n := 0) (name := (bs nm)) HO.out)
  have HSZ := hid (show ((w.alloc (.cells #[.pointer (some ⟨g, 0, none⟩)] 73)).alloc (.cells #[.int .i64 9, .int .i64 line, .int .i64 0, .string (bs nm), .slice (some ⟨kb, 0, none⟩) [a, b].length kc] 34)).heap.size = w.heap.size + 1 + 1 by simp)
  clear d0 hg n1 n2 n3 x0 x1 x2 x3 x4 hx3 hx4 HO S0
  generalize hB : w.heap.size = B at *
  clear hB
  generalize hw1 : (w.alloc (.cells #[.pointer (some ⟨g, 0, none⟩)] 73)).alloc (.cells #[.int .i64 9, .int .i64 line, .int .i64 0, .string (bs nm), .slice (some ⟨kb, 0, none⟩) [a, b].length kc] 34) = w1 at *
  clear hw1
  refine (S1.out.step (signs_bin HOK.out HX.out HK.out HX2.out HK2.out line HY.out S1.out.here S1.out.keep.2.2 HL.out)).mono ?_
  rintro e w2 ⟨rfl, h2⟩
  have S2 := hid h2
  clear h2
  go_wp2_with fail
  first | refine bodyPost_end (results_none rfl _ _ _) rfl ⟨rfl, ?_⟩ | refine bodyPost_ret (results_none rfl _ _ _) rfl ⟨rfl, ?_⟩
  have := S2.out.st
  simpa [List.append_assoc, bs_list] using this
set_option maxHeartbeats 2000000 in
set_option maxRecDepth 100000 in
theorem expr_len (hok : NodesOk ns) {x : Nat} {line a : Nat} (hxa : ExprOk g nv fv lvs pvs ns fs a) (hka : Kid ns clsR a) (hx : ns[x]? = some ⟨6, line, 0, [], [a]⟩) {w0 w : World} {out : List UInt8} (h : WS g nv fv lvs pvs ns fs w0 w out) (hlen : out.length + (txt ns a).length + 5 ≤ 100000000) :
    Calls Tryd.prog 24 #[.pointer (some ⟨g, 0, none⟩), .int .i64 x] w fun e w' => e = .returned (.tuple #[]) ∧ WS g nv fv lvs pvs ns fs w0 w' (out ++ ([108, 101, 110, 40] ++ (txt ns a ++ [41]))) := by
  obtain ⟨nb, c, kv, rfl, hc, hkv, x0, x1, x2, x3, x4⟩ := h.tree.node hx
  have hlt := (List.getElem?_eq_some_iff.1 hx).1
  have hx3 : (x : Int) < (ns.length : Int) := by omega
  have hx4 : (ns.length : Int) ≤ 9223372036854775807 := by have := h.tree.nodes.cap; obtain ⟨A, c2, e, h1, h2⟩ := this; unfold maxLen at h2; omega
  obtain ⟨d0, _, hg⟩ := h.cell0
  have n3 : nb < w.heap.size := World.block_lt_of_cell? w ⟨nb, x * 5, none⟩ x0
  have n1 : ¬ g = w.heap.size := by omega
  have n2 : ¬ nb = w.heap.size := by omega
  dsimp only at x0 x1 x2 x3 x4 hkv
  obtain ⟨kb, kc, rfl, _, _⟩ := kids_get hkv Nat.one_pos
  have HX := hid hxa
  have HK := hid hka
  clear hxa hka
  have S0 := hid h
  have HO := hid hkv
  have HOK := hid hok
  have HL := hid hlen
  clear h hlen hok hkv hx hlt hc
  go_enter Tryd.func24, Tryd.ntmps24
  go_wp2_with fail
  have S1 := hid (S0.out.copy2 (k := 6) (line := line) (n := 0) (name := (bs [])) HO.out)
  have HSZ := hid (show ((w.alloc (.cells #[.pointer (some ⟨g, 0, none⟩)] 73)).alloc (.cells #[.int .i64 6, .int .i64 line, .int .i64 0, .string (bs []), .slice (some ⟨kb, 0, none⟩) [a].length kc] 34)).heap.size = w.heap.size + 1 + 1 by simp)
  clear d0 hg n1 n2 n3 x0 x1 x2 x3 x4 hx3 hx4 HO S0
  generalize hB : w.heap.size = B at *
  clear hB
  generalize hw1 : (w.alloc (.cells #[.pointer (some ⟨g, 0, none⟩)] 73)).alloc (.cells #[.int .i64 6, .int .i64 line, .int .i64 0, .string (bs []), .slice (some ⟨kb, 0, none⟩) [a].length kc] 34) = w1 at *
  clear hw1
  have p0 := S1.out.keep.ptr
  obtain ⟨c0, c2, c3, c4, hB⟩ := S1.out.keep.2.cells
  have k0 := S1.out.keep.2.kid 0 a rfl
  go_still_tail 5, (by kernel_rfl)
  change wpList _ _ _ _ _ w1.drew
  have S2 := hid (S1.out.to (S1.out.here.no ((Fr.refl nob w1).drew)))
  clear p0 c0 c2 c3 c4 k0 hB S1
  generalize w1.drew = w2 at *
  go_wp2_with fail
  refine (S2.out.step (around_any HX.out HK.out ⟨#[108, 101, 110, 40]⟩ ⟨#[41]⟩ S2.out.here (by have h5 := HL.out; show _ + 4 + _ + 1 ≤ _; omega))).mono ?_
  rintro e w3 ⟨rfl, h3⟩
  have S3 := hid h3
  clear h3
  go_wp2_with fail
  first | refine bodyPost_end (results_none rfl _ _ _) rfl ⟨rfl, ?_⟩ | refine bodyPost_ret (results_none rfl _ _ _) rfl ⟨rfl, ?_⟩
  have := S3.out.st
  simpa [List.append_assoc, bs_list] using this
end
end Go.Proofs.YtahhgnbiahomiaaDoor
/- Show: expr, by kinds: what draws. Printed by wip/tools/mkexpr.py. -/
namespace Go.Proofs.YtahhgnbiahomiaaDoor
open Go.RowKit
set_option linter.unusedVariables false
set_option linter.unusedSimpArgs false
section
variable {g : Nat} {nv fv : Value} {lvs pvs : List Value} {ns : List NodeM} {fs : List FuncM}
theorem Fr.grew (w : World) (k : Nat) (os : Array Obj) : Fr nob w (Go.Sort.grow (w.drewN k) os) := by
  refine ⟨rfl, rfl, rfl, ?_, fun j hj _ => ?_⟩
  · show w.heap.size ≤ (w.heap ++ os).size; rw [Array.size_append]; omega
  · show (w.heap ++ os)[j]? = w.heap[j]?
    rw [Array.getElem?_append_left hj]
theorem itoa_any {w0 w w' : World} {out : List UInt8} (h : WS g nv fv lvs pvs ns fs w0 w out) (f : Fr nob w w') (n : Nat) (hn : n ≤ 9223372036854775807) :
    Calls Tryd.prog 25 #[.int .i64 n] w' fun e w2 => e = .returned (.string (bs (Lib.itoa n))) ∧ Fr nob w' w2 := by
  obtain ⟨_, _, _, _, ht⟩ := (h.no f).tab
  refine (Tryd.strconv_Itoa n (by omega) (by omega) w' ht).mono ?_
  rintro e w2 ⟨rfl, k, os, rfl⟩
  exact ⟨rfl, Fr.grew w' k os⟩
theorem bs_add (a b : List UInt8) : (bs a ++ bs b : ByteArray) = bs (a ++ b) := by
  apply ByteArray.ext
  show (bs a ++ bs b).data = _
  rw [ByteArray.data_append]
  show a.toArray ++ b.toArray = (a ++ b).toArray
  simp
set_option maxHeartbeats 2000000 in
set_option maxRecDepth 100000 in
theorem expr_new (hok : NodesOk ns) {x : Nat} {line a : Nat} (hxa : ExprOk g nv fv lvs pvs ns fs a) (hka : Kid ns clsR a) (hx : ns[x]? = some ⟨20, line, 0, [], [a]⟩) {w0 w : World} {out : List UInt8} (h : WS g nv fv lvs pvs ns fs w0 w out) (hlen : out.length + (txt ns a).length + 5 ≤ 100000000) :
    Calls Tryd.prog 24 #[.pointer (some ⟨g, 0, none⟩), .int .i64 x] w fun e w' => e = .returned (.tuple #[]) ∧ WS g nv fv lvs pvs ns fs w0 w' (out ++ ([110, 101, 119, 40] ++ (txt ns a ++ [41]))) := by
  obtain ⟨nb, c, kv, rfl, hc, hkv, x0, x1, x2, x3, x4⟩ := h.tree.node hx
  have hlt := (List.getElem?_eq_some_iff.1 hx).1
  have hx3 : (x : Int) < (ns.length : Int) := by omega
  have hx4 : (ns.length : Int) ≤ 9223372036854775807 := by have := h.tree.nodes.cap; obtain ⟨A, c2, e, h1, h2⟩ := this; unfold maxLen at h2; omega
  obtain ⟨d0, _, hg⟩ := h.cell0
  have n3 : nb < w.heap.size := World.block_lt_of_cell? w ⟨nb, x * 5, none⟩ x0
  have n1 : ¬ g = w.heap.size := by omega
  have n2 : ¬ nb = w.heap.size := by omega
  dsimp only at x0 x1 x2 x3 x4 hkv
  obtain ⟨kb, kc, rfl, _, _⟩ := kids_get hkv Nat.one_pos
  have HX := hid hxa
  have HK := hid hka
  clear hxa hka
  have S0 := hid h
  have HO := hid hkv
  have HOK := hid hok
  have HL := hid hlen
  clear h hlen hok hkv hx hlt hc
  go_enter Tryd.func24, Tryd.ntmps24
  go_wp2_with fail
  have S1 := hid (S0.out.copy2 (k := 20) (line := line) (n := 0) (name := (bs [])) HO.out)
  have HSZ := hid (show ((w.alloc (.cells #[.pointer (some ⟨g, 0, none⟩)] 73)).alloc (.cells #[.int .i64 20, .int .i64 line, .int .i64 0, .string (bs []), .slice (some ⟨kb, 0, none⟩) [a].length kc] 34)).heap.size = w.heap.size + 1 + 1 by simp)
  clear d0 hg n1 n2 n3 x0 x1 x2 x3 x4 hx3 hx4 HO S0
  generalize hB : w.heap.size = B at *
  clear hB
  generalize hw1 : (w.alloc (.cells #[.pointer (some ⟨g, 0, none⟩)] 73)).alloc (.cells #[.int .i64 20, .int .i64 line, .int .i64 0, .string (bs []), .slice (some ⟨kb, 0, none⟩) [a].length kc] 34) = w1 at *
  clear hw1
  have p0 := S1.out.keep.ptr
  obtain ⟨c0, c2, c3, c4, hB⟩ := S1.out.keep.2.cells
  have k0 := S1.out.keep.2.kid 0 a rfl
  go_still_tail 5, (by kernel_rfl)
  change wpList _ _ _ _ _ w1.drew
  have S2 := hid (S1.out.to (S1.out.here.no ((Fr.refl nob w1).drew)))
  clear p0 c0 c2 c3 c4 k0 hB S1
  generalize w1.drew = w2 at *
  go_wp2_with fail
  refine (S2.out.step (around_any HX.out HK.out ⟨#[110, 101, 119, 40]⟩ ⟨#[41]⟩ S2.out.here (by have h5 := HL.out; show _ + 4 + _ + 1 ≤ _; omega))).mono ?_
  rintro e w3 ⟨rfl, h3⟩
  have S3 := hid h3
  clear h3
  go_wp2_with fail
  first | refine bodyPost_end (results_none rfl _ _ _) rfl ⟨rfl, ?_⟩ | refine bodyPost_ret (results_none rfl _ _ _) rfl ⟨rfl, ?_⟩
  have := S3.out.st
  simpa [List.append_assoc, bs_list] using this
set_option maxHeartbeats 2000000 in
set_option maxRecDepth 100000 in
theorem expr_int (hok : NodesOk ns) {x : Nat} {line : Nat} {n : Nat} (hn : n ≤ 9223372036854775807) (hx : ns[x]? = some ⟨1, line, n, [], []⟩) {w0 w : World} {out : List UInt8} (h : WS g nv fv lvs pvs ns fs w0 w out) (hlen : out.length + (Lib.itoa n).length ≤ 100000000) :
    Calls Tryd.prog 24 #[.pointer (some ⟨g, 0, none⟩), .int .i64 x] w fun e w' => e = .returned (.tuple #[]) ∧ WS g nv fv lvs pvs ns fs w0 w' (out ++ (Lib.itoa n)) := by
  obtain ⟨nb, c, kv, rfl, hc, hkv, x0, x1, x2, x3, x4⟩ := h.tree.node hx
  have hlt := (List.getElem?_eq_some_iff.1 hx).1
  have hx3 : (x : Int) < (ns.length : Int) := by omega
  have hx4 : (ns.length : Int) ≤ 9223372036854775807 := by have := h.tree.nodes.cap; obtain ⟨A, c2, e, h1, h2⟩ := this; unfold maxLen at h2; omega
  obtain ⟨d0, _, hg⟩ := h.cell0
  have n3 : nb < w.heap.size := World.block_lt_of_cell? w ⟨nb, x * 5, none⟩ x0
  have n1 : ¬ g = w.heap.size := by omega
  have n2 : ¬ nb = w.heap.size := by omega
  dsimp only at x0 x1 x2 x3 x4 hkv
  obtain ⟨KA, KC, rfl, _, _⟩ := hkv.cap
  have HN := hid hn
  clear hn
  have S0 := hid h
  have HO := hid hkv
  have HOK := hid hok
  have HL := hid hlen
  clear h hlen hok hkv hx hlt hc
  go_enter Tryd.func24, Tryd.ntmps24
  go_wp2_with fail
  have S1 := hid (S0.out.copy2 (k := 1) (line := line) (n := n) (name := (bs [])) HO.out)
  have HSZ := hid (show ((w.alloc (.cells #[.pointer (some ⟨g, 0, none⟩)] 73)).alloc (.cells #[.int .i64 1, .int .i64 line, .int .i64 n, .string (bs []), .slice KA ([] : List Nat).length KC] 34)).heap.size = w.heap.size + 1 + 1 by simp)
  clear d0 hg n1 n2 n3 x0 x1 x2 x3 x4 hx3 hx4 HO S0
  generalize hB : w.heap.size = B at *
  clear hB
  generalize hw1 : (w.alloc (.cells #[.pointer (some ⟨g, 0, none⟩)] 73)).alloc (.cells #[.int .i64 1, .int .i64 line, .int .i64 n, .string (bs []), .slice KA ([] : List Nat).length KC] 34) = w1 at *
  clear hw1
  have p0 := S1.out.keep.ptr
  obtain ⟨c0, c2, c3, c4, hB⟩ := S1.out.keep.2.cells
  have CK : ∀ (wa wb : World), Fr nob wa wb → wa.heap = w1.heap → wb.cell? ⟨B, 0, none⟩ = some (.pointer (some ⟨g, 0, none⟩)) ∧ wb.cell? ⟨B + 1, 2, none⟩ = some (.int .i64 (n : Nat)) := fun wa wb hf he => by
    have h1 : Blk wa B 73 #[.pointer (some ⟨g, 0, none⟩)] := by unfold Blk; rw [he]; exact S1.out.keep.1
    have h2 : Blk wa (B + 1) 34 #[.int .i64 1, .int .i64 line, .int .i64 (n : Nat), .string (bs []), .slice KA ([] : List Nat).length KC] := by unfold Blk; rw [he]; exact S1.out.keep.2.1
    have h3 := (h1.fr hf (fun x => x)).cell 0
    have h4 := (h2.fr hf (fun x => x)).cell 2
    exact ⟨by simpa using h3, by simpa using h4⟩
  have HCK := hid CK
  clear CK
  have I1 := hid (itoa_any S1.out.here ((Fr.refl nob w1).drew) n HN.out)
  go_region_held3 (fun wx => wx.cell? ⟨B, 0, none⟩ = some (.pointer (some ⟨g, 0, none⟩)) ∧ wx.cell? ⟨B + 1, 2, none⟩ = some (.int .i64 (n : Nat))) (first | exact K3.out | exact K2.out | go_keep)
    (first
      | (go_at_call 25; go_loud (refine I1.out.mono ?_); go_loud (rintro e w2 ⟨rfl, hf⟩); go_loud (have K2 := hid (HCK.out _ w2 hf rfl)); have F2 := hid hf; clear hf)
      | (go_at_call 37; go_loud (refine (wput1 (S1.out.here.no (((Fr.refl nob w1).drew).tr F2.out)) rfl (bs (Lib.itoa n)) (by have h5 := HL.out; have h6 := bs_size (Lib.itoa n); omega)).mono ?_); go_loud (rintro e w3 ⟨rfl, h3⟩); go_loud (have S3 := hid (S1.out.to h3)); go_loud (have K3 := hid (And.intro S3.out.keep.ptr S3.out.keep.2.cells.2.1)); clear h3))
  go_wp2_with fail
  first | refine bodyPost_end (results_none rfl _ _ _) rfl ⟨rfl, ?_⟩ | refine bodyPost_ret (results_none rfl _ _ _) rfl ⟨rfl, ?_⟩
  have := S3.out.st
  simpa [List.append_assoc, bs_list] using this
set_option maxHeartbeats 2000000 in
set_option maxRecDepth 100000 in
theorem expr_bool1 (hok : NodesOk ns) {x : Nat} {line : Nat} {n : Nat} (hn : n = 1) (hx : ns[x]? = some ⟨2, line, n, [], []⟩) {w0 w : World} {out : List UInt8} (h : WS g nv fv lvs pvs ns fs w0 w out) (hlen : out.length + 4 ≤ 100000000) :
    Calls Tryd.prog 24 #[.pointer (some ⟨g, 0, none⟩), .int .i64 x] w fun e w' => e = .returned (.tuple #[]) ∧ WS g nv fv lvs pvs ns fs w0 w' (out ++ [116, 114, 117, 101]) := by
  obtain ⟨nb, c, kv, rfl, hc, hkv, x0, x1, x2, x3, x4⟩ := h.tree.node hx
  have hlt := (List.getElem?_eq_some_iff.1 hx).1
  have hx3 : (x : Int) < (ns.length : Int) := by omega
  have hx4 : (ns.length : Int) ≤ 9223372036854775807 := by have := h.tree.nodes.cap; obtain ⟨A, c2, e, h1, h2⟩ := this; unfold maxLen at h2; omega
  obtain ⟨d0, _, hg⟩ := h.cell0
  have n3 : nb < w.heap.size := World.block_lt_of_cell? w ⟨nb, x * 5, none⟩ x0
  have n1 : ¬ g = w.heap.size := by omega
  have n2 : ¬ nb = w.heap.size := by omega
  dsimp only at x0 x1 x2 x3 x4 hkv
  obtain ⟨KA, KC, rfl, _, _⟩ := hkv.cap
  have b1 : ((n : Int) == 1) = true := by rw [hn]; rfl
  clear hn
  have S0 := hid h
  have HO := hid hkv
  have HOK := hid hok
  have HL := hid hlen
  clear h hlen hok hkv hx hlt hc
  go_enter Tryd.func24, Tryd.ntmps24
  go_wp2_with fail
  have S1 := hid (S0.out.copy2 (k := 2) (line := line) (n := n) (name := (bs [])) HO.out)
  have HSZ := hid (show ((w.alloc (.cells #[.pointer (some ⟨g, 0, none⟩)] 73)).alloc (.cells #[.int .i64 2, .int .i64 line, .int .i64 n, .string (bs []), .slice KA ([] : List Nat).length KC] 34)).heap.size = w.heap.size + 1 + 1 by simp)
  clear d0 hg n1 n2 n3 x0 x1 x2 x3 x4 hx3 hx4 HO S0
  generalize hB : w.heap.size = B at *
  clear hB
  generalize hw1 : (w.alloc (.cells #[.pointer (some ⟨g, 0, none⟩)] 73)).alloc (.cells #[.int .i64 2, .int .i64 line, .int .i64 n, .string (bs []), .slice KA ([] : List Nat).length KC] 34) = w1 at *
  clear hw1
  have p0 := S1.out.keep.ptr
  obtain ⟨c0, c2, c3, c4, hB⟩ := S1.out.keep.2.cells
  have CK : ∀ (wa wb : World), Fr nob wa wb → wa.heap = w1.heap → wb.cell? ⟨B, 0, none⟩ = some (.pointer (some ⟨g, 0, none⟩)) ∧ wb.cell? ⟨B + 1, 2, none⟩ = some (.int .i64 (n : Nat)) := fun wa wb hf he => by
    have h1 : Blk wa B 73 #[.pointer (some ⟨g, 0, none⟩)] := by unfold Blk; rw [he]; exact S1.out.keep.1
    have h2 : Blk wa (B + 1) 34 #[.int .i64 2, .int .i64 line, .int .i64 (n : Nat), .string (bs []), .slice KA ([] : List Nat).length KC] := by unfold Blk; rw [he]; exact S1.out.keep.2.1
    have h3 := (h1.fr hf (fun x => x)).cell 0
    have h4 := (h2.fr hf (fun x => x)).cell 2
    exact ⟨by simpa using h3, by simpa using h4⟩
  have HCK := hid CK
  clear CK
  go_region_held3 (fun wx => wx.cell? ⟨B, 0, none⟩ = some (.pointer (some ⟨g, 0, none⟩)) ∧ wx.cell? ⟨B + 1, 2, none⟩ = some (.int .i64 (n : Nat))) (first | exact K3.out | go_keep)
    (first
      | (go_at_call 42; go_loud (refine (fbool_any true _).mono ?_); go_loud (rintro e w2 ⟨rfl, rfl⟩))
      | (go_at_call 37; go_loud (refine (wput1 (S1.out.here.no ((Fr.refl nob w1).drew)) rfl (bs [116, 114, 117, 101]) (by have h5 := HL.out; show _ + 4 ≤ _; omega)).mono ?_); go_loud (rintro e w3 ⟨rfl, h3⟩); go_loud (have S3 := hid (S1.out.to h3)); go_loud (have K3 := hid (And.intro S3.out.keep.ptr S3.out.keep.2.cells.2.1)); clear h3))
  go_wp2_with fail
  first | refine bodyPost_end (results_none rfl _ _ _) rfl ⟨rfl, ?_⟩ | refine bodyPost_ret (results_none rfl _ _ _) rfl ⟨rfl, ?_⟩
  have := S3.out.st
  simpa [List.append_assoc, bs_list] using this
set_option maxHeartbeats 2000000 in
set_option maxRecDepth 100000 in
theorem expr_bool0 (hok : NodesOk ns) {x : Nat} {line : Nat} {n : Nat} (hn : ¬ n = 1) (hx : ns[x]? = some ⟨2, line, n, [], []⟩) {w0 w : World} {out : List UInt8} (h : WS g nv fv lvs pvs ns fs w0 w out) (hlen : out.length + 5 ≤ 100000000) :
    Calls Tryd.prog 24 #[.pointer (some ⟨g, 0, none⟩), .int .i64 x] w fun e w' => e = .returned (.tuple #[]) ∧ WS g nv fv lvs pvs ns fs w0 w' (out ++ [102, 97, 108, 115, 101]) := by
  obtain ⟨nb, c, kv, rfl, hc, hkv, x0, x1, x2, x3, x4⟩ := h.tree.node hx
  have hlt := (List.getElem?_eq_some_iff.1 hx).1
  have hx3 : (x : Int) < (ns.length : Int) := by omega
  have hx4 : (ns.length : Int) ≤ 9223372036854775807 := by have := h.tree.nodes.cap; obtain ⟨A, c2, e, h1, h2⟩ := this; unfold maxLen at h2; omega
  obtain ⟨d0, _, hg⟩ := h.cell0
  have n3 : nb < w.heap.size := World.block_lt_of_cell? w ⟨nb, x * 5, none⟩ x0
  have n1 : ¬ g = w.heap.size := by omega
  have n2 : ¬ nb = w.heap.size := by omega
  dsimp only at x0 x1 x2 x3 x4 hkv
  obtain ⟨KA, KC, rfl, _, _⟩ := hkv.cap
  have b1 : ((n : Int) == 1) = false := by exact beq_eq_false_iff_ne.2 (by omega)
  clear hn
  have S0 := hid h
  have HO := hid hkv
  have HOK := hid hok
  have HL := hid hlen
  clear h hlen hok hkv hx hlt hc
  go_enter Tryd.func24, Tryd.ntmps24
  go_wp2_with fail
  have S1 := hid (S0.out.copy2 (k := 2) (line := line) (n := n) (name := (bs [])) HO.out)
  have HSZ := hid (show ((w.alloc (.cells #[.pointer (some ⟨g, 0, none⟩)] 73)).alloc (.cells #[.int .i64 2, .int .i64 line, .int .i64 n, .string (bs []), .slice KA ([] : List Nat).length KC] 34)).heap.size = w.heap.size + 1 + 1 by simp)
  clear d0 hg n1 n2 n3 x0 x1 x2 x3 x4 hx3 hx4 HO S0
  generalize hB : w.heap.size = B at *
  clear hB
  generalize hw1 : (w.alloc (.cells #[.pointer (some ⟨g, 0, none⟩)] 73)).alloc (.cells #[.int .i64 2, .int .i64 line, .int .i64 n, .string (bs []), .slice KA ([] : List Nat).length KC] 34) = w1 at *
  clear hw1
  have p0 := S1.out.keep.ptr
  obtain ⟨c0, c2, c3, c4, hB⟩ := S1.out.keep.2.cells
  have CK : ∀ (wa wb : World), Fr nob wa wb → wa.heap = w1.heap → wb.cell? ⟨B, 0, none⟩ = some (.pointer (some ⟨g, 0, none⟩)) ∧ wb.cell? ⟨B + 1, 2, none⟩ = some (.int .i64 (n : Nat)) := fun wa wb hf he => by
    have h1 : Blk wa B 73 #[.pointer (some ⟨g, 0, none⟩)] := by unfold Blk; rw [he]; exact S1.out.keep.1
    have h2 : Blk wa (B + 1) 34 #[.int .i64 2, .int .i64 line, .int .i64 (n : Nat), .string (bs []), .slice KA ([] : List Nat).length KC] := by unfold Blk; rw [he]; exact S1.out.keep.2.1
    have h3 := (h1.fr hf (fun x => x)).cell 0
    have h4 := (h2.fr hf (fun x => x)).cell 2
    exact ⟨by simpa using h3, by simpa using h4⟩
  have HCK := hid CK
  clear CK
  go_region_held3 (fun wx => wx.cell? ⟨B, 0, none⟩ = some (.pointer (some ⟨g, 0, none⟩)) ∧ wx.cell? ⟨B + 1, 2, none⟩ = some (.int .i64 (n : Nat))) (first | exact K3.out | go_keep)
    (first
      | (go_at_call 42; go_loud (refine (fbool_any false _).mono ?_); go_loud (rintro e w2 ⟨rfl, rfl⟩))
      | (go_at_call 37; go_loud (refine (wput1 (S1.out.here.no ((Fr.refl nob w1).drew)) rfl (bs [102, 97, 108, 115, 101]) (by have h5 := HL.out; show _ + 5 ≤ _; omega)).mono ?_); go_loud (rintro e w3 ⟨rfl, h3⟩); go_loud (have S3 := hid (S1.out.to h3)); go_loud (have K3 := hid (And.intro S3.out.keep.ptr S3.out.keep.2.cells.2.1)); clear h3))
  go_wp2_with fail
  first | refine bodyPost_end (results_none rfl _ _ _) rfl ⟨rfl, ?_⟩ | refine bodyPost_ret (results_none rfl _ _ _) rfl ⟨rfl, ?_⟩
  have := S3.out.st
  simpa [List.append_assoc, bs_list] using this
set_option maxHeartbeats 2000000 in
set_option maxRecDepth 100000 in
theorem expr_index (hok : NodesOk ns) {x : Nat} {line a : Nat} {nm : List UInt8} (hxa : ExprOk g nv fv lvs pvs ns fs a) (hka : Kid ns clsR a) (hx : ns[x]? = some ⟨5, line, 0, nm, [a]⟩) {w0 w : World} {out : List UInt8} (h : WS g nv fv lvs pvs ns fs w0 w out) (hlen : out.length + (txt ns a).length + nm.length + 2 ≤ 100000000) :
    Calls Tryd.prog 24 #[.pointer (some ⟨g, 0, none⟩), .int .i64 x] w fun e w' => e = .returned (.tuple #[]) ∧ WS g nv fv lvs pvs ns fs w0 w' (out ++ ((nm ++ [91]) ++ (txt ns a ++ [93]))) := by
  obtain ⟨nb, c, kv, rfl, hc, hkv, x0, x1, x2, x3, x4⟩ := h.tree.node hx
  have hlt := (List.getElem?_eq_some_iff.1 hx).1
  have hx3 : (x : Int) < (ns.length : Int) := by omega
  have hx4 : (ns.length : Int) ≤ 9223372036854775807 := by have := h.tree.nodes.cap; obtain ⟨A, c2, e, h1, h2⟩ := this; unfold maxLen at h2; omega
  obtain ⟨d0, _, hg⟩ := h.cell0
  have n3 : nb < w.heap.size := World.block_lt_of_cell? w ⟨nb, x * 5, none⟩ x0
  have n1 : ¬ g = w.heap.size := by omega
  have n2 : ¬ nb = w.heap.size := by omega
  dsimp only at x0 x1 x2 x3 x4 hkv
  obtain ⟨kb, kc, rfl, _, _⟩ := kids_get hkv Nat.one_pos
  have HX := hid hxa
  have HK := hid hka
  clear hxa hka
  have S0 := hid h
  have HO := hid hkv
  have HOK := hid hok
  have HL := hid hlen
  clear h hlen hok hkv hx hlt hc
  go_enter Tryd.func24, Tryd.ntmps24
  go_wp2_with fail
  have S1 := hid (S0.out.copy2 (k := 5) (line := line) (n := 0) (name := (bs nm)) HO.out)
  have HSZ := hid (show ((w.alloc (.cells #[.pointer (some ⟨g, 0, none⟩)] 73)).alloc (.cells #[.int .i64 5, .int .i64 line, .int .i64 0, .string (bs nm), .slice (some ⟨kb, 0, none⟩) [a].length kc] 34)).heap.size = w.heap.size + 1 + 1 by simp)
  clear d0 hg n1 n2 n3 x0 x1 x2 x3 x4 hx3 hx4 HO S0
  generalize hB : w.heap.size = B at *
  clear hB
  generalize hw1 : (w.alloc (.cells #[.pointer (some ⟨g, 0, none⟩)] 73)).alloc (.cells #[.int .i64 5, .int .i64 line, .int .i64 0, .string (bs nm), .slice (some ⟨kb, 0, none⟩) [a].length kc] 34) = w1 at *
  clear hw1
  have p0 := S1.out.keep.ptr
  obtain ⟨c0, c2, c3, c4, hB⟩ := S1.out.keep.2.cells
  have k0 := S1.out.keep.2.kid 0 a rfl
  have nl : ¬ 9223372036854775807 < (bs nm).size + 1 := by have h5 := HL.out; rw [bs_size]; omega
  go_still_tail 8, (by kernel_rfl)
  change wpList _ _ _ _ _ w1.drew
  have S2 := hid (S1.out.to (S1.out.here.no ((Fr.refl nob w1).drew)))
  clear p0 c0 c2 c3 c4 k0 hB S1
  generalize w1.drew = w2 at *
  go_wp2_with fail
  rw [show (bs nm ++ ⟨#[91]⟩ : ByteArray) = bs (nm ++ [91]) from bs_add nm [91]]
  refine (S2.out.step (around_any HX.out HK.out (bs (nm ++ [91])) ⟨#[93]⟩ S2.out.here (by have h5 := HL.out; rw [bs_size, List.length_append]; show _ + (_ + 1) + _ + 1 ≤ _; omega))).mono ?_
  rintro e w3 ⟨rfl, h3⟩
  have S3 := hid h3
  clear h3
  go_wp2_with fail
  first | refine bodyPost_end (results_none rfl _ _ _) rfl ⟨rfl, ?_⟩ | refine bodyPost_ret (results_none rfl _ _ _) rfl ⟨rfl, ?_⟩
  have := S3.out.st
  simpa [List.append_assoc, bs_list] using this
end
end Go.Proofs.YtahhgnbiahomiaaDoor
/- Show: a row, by its closure. -/
namespace Go.Proofs.YtahhgnbiahomiaaDoor
open Go.RowKit
set_option linter.unusedVariables false
set_option linter.unusedSimpArgs false
/-- The first things of a row, with commas. -/
def rowP (T : Nat → List UInt8) : Nat → List UInt8
  | 0 => []
  | j + 1 => rowP T j ++ ((if j = 0 then [] else [44]) ++ T j)
theorem rowP_le (T : Nat → List UInt8) (j : Nat) : ∀ k, (rowP T j).length ≤ (rowP T (j + k)).length
  | 0 => Nat.le_refl _
  | k + 1 => by
    have := rowP_le T j k
    rw [← Nat.add_assoc, rowP, List.length_append]
    omega
theorem rowP_lt {T : Nat → List UInt8} {j m : Nat} (h : j < m) : (rowP T j).length + (if j = 0 then 0 else 1) + (T j).length ≤ (rowP T m).length := by
  have := rowP_le T (j + 1) (m - (j + 1))
  rw [show j + 1 + (m - (j + 1)) = m by omega, rowP, List.length_append, List.length_append] at this
  split <;> rename_i h0 <;> simp [h0] at this ⊢ <;> omega
section
variable {g : Nat} {nv fv : Value} {lvs pvs : List Value} {ns : List NodeM} {fs : List FuncM} {K : World → Prop}
set_option maxHeartbeats 2000000 in
set_option maxRecDepth 100000 in
/-- row writes things with commas between, in parentheses. -/
theorem row_any {fid : FuncId} (hen : ∀ args w, (callFunc fid args).run Tryd.prog w = .ok (.enter fid args) w) (b1 b2 many : Nat) (hm : many ≤ 1000000000) (T : Nat → List UInt8)
    (hone : ∀ i, i < many → ∀ (w : World) (out : List UInt8), WK g nv fv lvs pvs ns fs K w w out → out.length + (T i).length ≤ 100000000 → Calls Tryd.prog fid #[.int .i64 i, .pointer (some ⟨b1, 0, none⟩), .pointer (some ⟨b2, 0, none⟩)] w fun e w' => e = .returned (.tuple #[]) ∧ WS g nv fv lvs pvs ns fs w w' (out ++ T i))
    {w0 w : World} {out : List UInt8} (h : WK g nv fv lvs pvs ns fs K w0 w out) (hlen : out.length + (rowP T many).length + 2 ≤ 100000000) :
    Calls Tryd.prog 38 #[.pointer (some ⟨g, 0, none⟩), .int .i64 many, .func (.func fid) #[] #[.pointer (some ⟨b1, 0, none⟩), .pointer (some ⟨b2, 0, none⟩)]] w fun e w' => e = .returned (.tuple #[]) ∧ WK g nv fv lvs pvs ns fs K w0 w' (out ++ (40 :: (rowP T many ++ [41]))) := by
  have S0 := hid h
  have HONE := hid hone
  have HL := hid hlen
  have hm2 : (many : Int) ≤ 1000000000 := by omega
  clear h hone hlen
  go_enter Tryd.func38, Tryd.ntmps38
  go_wp2_with fail
  refine (S0.out.step (wput1 S0.out.here rfl ⟨#[40]⟩ (by have := HL.out; show _ + 1 ≤ _; omega))).mono ?_
  rintro e w1 ⟨rfl, h1⟩
  have S1 := hid h1
  clear h1
  go_wp2_with fail
  go_loopw [11] (fun i wr => ∃ j : Nat, j ≤ many ∧ i = .int .i64 j ∧ Hid (WK g nv fv lvs pvs ns fs K w0 wr (out ++ (40 :: rowP T j)))) (fun i _ => many - (intOf i).toNat)
  case atStart => exact ⟨0, Nat.zero_le _, rfl, hid (by simpa [rowP] using S1.out)⟩
  case round =>
    obtain ⟨j, hj, rfl, S⟩ := hrel
    by_cases hlt : j < many
    · have hlt2 : (j : Int) < (many : Int) := by omega
      have hj2 : (j : Int) ≤ 1000000000 := by omega
      have HP := hid (rowP_lt (T := T) hlt)
      by_cases h0 : j = 0
      · have h00 : ¬ (0 : Int) < (j : Int) := by omega
        have HW := hid (HONE.out j hlt wr _ ⟨S.out.st.here, S.out.keep, S.out.kb⟩ (by have h5 := HP.out; have h6 := HL.out; rw [if_pos h0] at h5; rw [List.length_append, List.length_cons]; omega))
        have H0 := hid h0
        clear h0
        go_wp2_with fail
        refine (S.out.step HW.out).mono ?_
        rintro e w3 ⟨rfl, h3⟩
        have S3 := hid h3
        clear h3
        go_wp2_with fail
        go_roundw
        case rel => exact ⟨j + 1, by omega, by go_num, hid (by rw [rowP, if_pos H0.out]; simpa [List.append_assoc] using S3.out)⟩
        case measure => simp [intOf]; omega
      · have h00 : (0 : Int) < (j : Int) := by omega
        go_wp2_with fail
        refine (S.out.step (wput1 S.out.here rfl ⟨#[44]⟩ (by have h5 := HP.out; have h6 := HL.out; rw [if_neg h0] at h5; rw [List.length_append, List.length_cons]; show _ + 1 ≤ _; omega))).mono ?_
        rintro e w2 ⟨rfl, h2⟩
        have S2 := hid h2
        have HW := hid (HONE.out j hlt w2 _ ⟨S2.out.st.here, S2.out.keep, S2.out.kb⟩ (by have h5 := HP.out; have h6 := HL.out; rw [if_neg h0] at h5; simp; omega))
        clear h2
        go_wp2_with fail
        refine (S2.out.step HW.out).mono ?_
        rintro e w3 ⟨rfl, h3⟩
        have S3 := hid h3
        clear h3
        go_wp2_with fail
        go_roundw
        case rel => exact ⟨j + 1, by omega, by go_num, hid (by rw [rowP, if_neg h0]; simpa [List.append_assoc] using S3.out)⟩
        case measure => simp [intOf]; omega
    · have hle : (many : Int) ≤ (j : Int) := by omega
      have hje : j = many := by omega
      go_wp2_with fail
      refine (S.out.step (wput1 S.out.here rfl ⟨#[41]⟩ (by have h6 := HL.out; rw [hje, List.length_append, List.length_cons]; show _ + 1 ≤ _; omega))).mono ?_
      rintro e w2 ⟨rfl, h2⟩
      have S2 := hid h2
      clear h2
      go_wp2_with fail
      refine bodyPost_end (results_none rfl _ _ _) rfl ⟨rfl, ?_⟩
      have := S2.out
      rw [hje] at this
      simpa [List.append_assoc] using this
end
end Go.Proofs.YtahhgnbiahomiaaDoor
/- Show: expr at a call. Printed by wip/tools/mkexpr.py. -/
namespace Go.Proofs.YtahhgnbiahomiaaDoor
open Go.RowKit
set_option linter.unusedVariables false
set_option linter.unusedSimpArgs false
section
variable {g : Nat} {nv fv : Value} {lvs pvs : List Value} {ns : List NodeM} {fs : List FuncM}
set_option maxHeartbeats 2000000 in
set_option maxRecDepth 100000 in
theorem clo_any {B line : Nat} {name : ByteArray} {KA : Option Addr} {KC : Nat} {l : List Nat} {i a : Nat} (ha : l[i]? = some a) (hx : ExprOk g nv fv lvs pvs ns fs a) (hk : Kid ns clsR a) {w : World} {out : List UInt8}
    (h : WK g nv fv lvs pvs ns fs (ExK g B 21 line 0 name (.slice KA l.length KC) l) w w out) (hlen : out.length + (txt ns a).length ≤ 100000000) :
    Calls Tryd.prog 44 #[.int .i64 i, .pointer (some ⟨B, 0, none⟩), .pointer (some ⟨B + 1, 0, none⟩)] w fun e w' => e = .returned (.tuple #[]) ∧ WS g nv fv lvs pvs ns fs w w' (out ++ txt ns a) := by
  have hi := (List.getElem?_eq_some_iff.1 ha).1
  obtain ⟨kb, c', e, hc, hq⟩ := kids_get h.keep.2.2 (by omega)
  clear hq
  injection e with e1 e2 e3
  subst e1
  have p0 := h.keep.ptr
  obtain ⟨c0, c2, c3, c4, hB⟩ := h.keep.2.cells
  have k0 := h.keep.2.kid i a ha
  have hi2 : (i : Int) < (l.length : Int) := by omega
  have hcap := h.keep.2.2.cap
  have hl4 : (l.length : Int) ≤ 9223372036854775807 := by obtain ⟨A, c2, e, h1, h2⟩ := hcap; unfold maxLen at h2; omega
  have S0 := hid h.st
  have HX := hid hx
  have HK := hid hk
  have HL := hid hlen
  clear h hx hk hlen ha hcap e2 e3
  go_enter Tryd.func44, Tryd.ntmps44
  go_still_tail 6, (by kernel_rfl)
  change wpList _ _ _ _ _ w.drew
  have S1 := hid (S0.out.no ((Fr.refl nob w).drew))
  clear p0 c0 c2 c3 c4 k0 hB S0
  generalize w.drew = w1 at *
  go_wp2_with fail
  refine (HX.out _ _ _ S1.out HK.out HL.out).mono ?_
  rintro e w2 ⟨rfl, h2⟩
  have S2 := hid h2
  clear h2
  go_wp2_with fail
  first | refine bodyPost_end (results_none rfl _ _ _) rfl ⟨rfl, ?_⟩ | refine bodyPost_ret (results_none rfl _ _ _) rfl ⟨rfl, ?_⟩
  exact S2.out
set_option maxHeartbeats 2000000 in
set_option maxRecDepth 100000 in
theorem expr_call (hok : NodesOk ns) {x : Nat} {line : Nat} {nm : List UInt8} {l : List Nat} (hl : ∀ a ∈ l, ExprOk g nv fv lvs pvs ns fs a ∧ Kid ns clsR a) (hll : l.length ≤ 1000000000) (hx : ns[x]? = some ⟨21, line, 0, nm, l⟩) {w0 w : World} {out : List UInt8} (h : WS g nv fv lvs pvs ns fs w0 w out) (hlen : out.length + nm.length + (rowP (fun j => txt ns (l.getD j 0)) l.length).length + 2 ≤ 100000000) :
    Calls Tryd.prog 24 #[.pointer (some ⟨g, 0, none⟩), .int .i64 x] w fun e w' => e = .returned (.tuple #[]) ∧ WS g nv fv lvs pvs ns fs w0 w' (out ++ (nm ++ (40 :: (rowP (fun j => txt ns (l.getD j 0)) l.length ++ [41])))) := by
  obtain ⟨nb, c, kv, rfl, hc, hkv, x0, x1, x2, x3, x4⟩ := h.tree.node hx
  have hlt := (List.getElem?_eq_some_iff.1 hx).1
  have hx3 : (x : Int) < (ns.length : Int) := by omega
  have hx4 : (ns.length : Int) ≤ 9223372036854775807 := by have := h.tree.nodes.cap; obtain ⟨A, c2, e, h1, h2⟩ := this; unfold maxLen at h2; omega
  obtain ⟨d0, _, hg⟩ := h.cell0
  have n3 : nb < w.heap.size := World.block_lt_of_cell? w ⟨nb, x * 5, none⟩ x0
  have n1 : ¬ g = w.heap.size := by omega
  have n2 : ¬ nb = w.heap.size := by omega
  dsimp only at x0 x1 x2 x3 x4 hkv
  obtain ⟨KA, KC, rfl, _, _⟩ := hkv.cap
  have hll2 : (l.length : Int) ≤ 1000000000 := by omega
  have HLL := hid hll
  have HK := hid hl
  clear hl hll
  have S0 := hid h
  have HO := hid hkv
  have HOK := hid hok
  have HL := hid hlen
  clear h hlen hok hkv hx hlt hc
  go_enter Tryd.func24, Tryd.ntmps24
  go_wp2_with fail
  have S1 := hid (S0.out.copy2 (k := 21) (line := line) (n := 0) (name := (bs nm)) HO.out)
  have HSZ := hid (show ((w.alloc (.cells #[.pointer (some ⟨g, 0, none⟩)] 73)).alloc (.cells #[.int .i64 21, .int .i64 line, .int .i64 0, .string (bs nm), .slice KA l.length KC] 34)).heap.size = w.heap.size + 1 + 1 by simp)
  clear d0 hg n1 n2 n3 x0 x1 x2 x3 x4 hx3 hx4 HO S0
  generalize hB : w.heap.size = B at *
  clear hB
  generalize hw1 : (w.alloc (.cells #[.pointer (some ⟨g, 0, none⟩)] 73)).alloc (.cells #[.int .i64 21, .int .i64 line, .int .i64 0, .string (bs nm), .slice KA l.length KC] 34) = w1 at *
  clear hw1
  refine (S1.out.step (wput1 S1.out.here HSZ.out (bs nm) (by have h5 := HL.out; rw [bs_size]; omega))).mono ?_
  rintro e w2 ⟨rfl, h2⟩
  have S2 := hid h2
  clear h2
  have p0 := S2.out.keep.ptr
  obtain ⟨c0, c2, c3, c4, hB⟩ := S2.out.keep.2.cells
  have hmf : ∀ (fn : Fn) (first cap : Array Value) (w : World), (Instr.makeFunc fn first cap).run Tryd.prog w = .ok (.func fn first cap) w := fun _ _ _ _ => rfl
  go_wp2_with fail
  refine (row_any (enters_of Tryd.func44 (by kernel_rfl) rfl) B (B + 1) l.length HLL.out (fun j => txt ns (l.getD j 0)) (fun i hi w' out' h' hl' => by
    have hg : l[i]? = some l[i] := List.getElem?_eq_getElem hi
    have hd : l.getD i 0 = l[i] := by rw [List.getD_eq_getElem?_getD, hg]; rfl
    obtain ⟨hx', hk'⟩ := HK.out l[i] (List.getElem_mem hi)
    have := clo_any hg hx' hk' h' (by rw [hd] at hl'; exact hl')
    rw [hd]
    exact this) S2.out (by have h5 := HL.out; rw [List.length_append, bs_list]; omega)).mono ?_
  rintro e w3 ⟨rfl, h3⟩
  have S3 := hid h3
  clear h3
  go_wp2_with fail
  first | refine bodyPost_end (results_none rfl _ _ _) rfl ⟨rfl, ?_⟩ | refine bodyPost_ret (results_none rfl _ _ _) rfl ⟨rfl, ?_⟩
  have := S3.out.st
  simpa [List.append_assoc, bs_list] using this
end
end Go.Proofs.YtahhgnbiahomiaaDoor
/- Show: expr, whole. -/
namespace Go.Proofs.YtahhgnbiahomiaaDoor
open Go.RowKit
set_option linter.unusedVariables false
set_option linter.unusedSimpArgs false
theorem joinC_snoc (L : List (List UInt8)) (x : List UInt8) : joinC (L ++ [x]) = joinC L ++ ((if L.length = 0 then [] else [44]) ++ x) := by
  cases L with
  | nil => simp [joinC]
  | cons a L => simp [joinC, List.append_assoc]
theorem rowP_range (T : Nat → List UInt8) : ∀ n, rowP T n = joinC ((List.range n).map T)
  | 0 => rfl
  | n + 1 => by
    rw [rowP, rowP_range T n, List.range_succ, List.map_append, List.map_singleton, joinC_snoc]
    simp
theorem rowP_join {f : Nat → List UInt8} (l : List Nat) : rowP (fun j => f (l.getD j 0)) l.length = joinC (l.map f) := by
  rw [rowP_range]
  congr 1
  apply List.ext_getElem
  · simp
  · intro i h1 h2
    simp at h1 h2 ⊢
    simp [h2]
theorem rowP_ge (T : Nat → List UInt8) : ∀ n, n ≤ (rowP T n).length + 1
  | 0 => by simp
  | n + 1 => by
    have := rowP_ge T n
    rw [rowP, List.length_append, List.length_append]
    split <;> simp <;> omega
section
variable {g : Nat} {nv fv : Value} {lvs pvs : List Value} {ns : List NodeM} {fs : List FuncM}
theorem expr_ok (hok : NodesOk ns) : ∀ x, ExprOk g nv fv lvs pvs ns fs x := by
  intro x
  induction x using Nat.strongRecOn with
  | _ x ih =>
    intro w0 w out h hk hlen
    obtain ⟨nd, hx, hcl⟩ := hk
    have hN := hok x nd hx
    have kid : ∀ {a}, Kid (ns.take x) clsE a → ExprOk g nv fv lvs pvs ns fs a ∧ Kid ns clsR a ∧ shV (ns.take x) a = shV ns a := fun {a} hk => by
      obtain ⟨h1, h2⟩ := hk.take
      exact ⟨ih a h1, h2.le (fun k hk => by unfold clsR; rw [hk]; rfl), shV_take h1⟩
    rw [txt_eq hx] at hlen ⊢
    cases hN with
    | int line n hn => exact expr_int hok hn hx h hlen
    | bool line n hn =>
      have e : textN (fun i => shV (ns.take x) i) ⟨2, line, n, [], []⟩ = if n = 1 then [116, 114, 117, 101] else [102, 97, 108, 115, 101] := rfl
      rw [e] at hlen ⊢
      by_cases h1 : n = 1
      · rw [if_pos h1] at hlen ⊢
        exact expr_bool1 hok h1 hx h hlen
      · rw [if_neg h1] at hlen ⊢
        exact expr_bool0 hok h1 hx h hlen
    | text line y =>
      refine expr_text hok hx h ?_
      have e : textN (fun i => shV (ns.take x) i) ⟨3, line, 0, y, []⟩ = 34 :: (y ++ [34]) := rfl
      rw [e] at hlen; simp only [List.length_cons, List.length_append, List.length_nil] at hlen; omega
    | var line y => exact expr_var hok hx h hlen
    | index line y a ha =>
      obtain ⟨k1, k2, k3⟩ := kid ha
      have e : textN (fun i => shV (ns.take x) i) ⟨5, line, 0, y, [a]⟩ = (y ++ [91]) ++ (txt ns a ++ [93]) := by
        show y ++ [91] ++ (shV (ns.take x) a).1 ++ [93] = _
        rw [k3]; simp [txt, List.append_assoc]
      rw [e] at hlen ⊢
      refine expr_index hok k1 k2 hx h ?_
      simp only [List.length_cons, List.length_append, List.length_nil] at hlen; omega
    | len line a ha =>
      obtain ⟨k1, k2, k3⟩ := kid ha
      have e : textN (fun i => shV (ns.take x) i) ⟨6, line, 0, [], [a]⟩ = [108, 101, 110, 40] ++ (txt ns a ++ [41]) := by
        show [108, 101, 110, 40] ++ (shV (ns.take x) a).1 ++ [41] = _
        rw [k3]; simp [txt, List.append_assoc]
      rw [e] at hlen ⊢
      refine expr_len hok k1 k2 hx h ?_
      simp only [List.length_cons, List.length_append, List.length_nil] at hlen; omega
    | neg line a ha =>
      obtain ⟨k1, k2, k3⟩ := kid ha
      have e : textN (fun i => shV (ns.take x) i) ⟨7, line, 0, [], [a]⟩ = 45 :: atT (shV ns a) 5 := by
        show 45 :: atT (shV (ns.take x) a) 5 = _
        rw [k3]
      rw [e] at hlen ⊢
      exact expr_neg hok k1 k2 hx h hlen
    | not line a ha =>
      obtain ⟨k1, k2, k3⟩ := kid ha
      have e : textN (fun i => shV (ns.take x) i) ⟨8, line, 0, [], [a]⟩ = 33 :: atT (shV ns a) 5 := by
        show 33 :: atT (shV (ns.take x) a) 5 = _
        rw [k3]
      rw [e] at hlen ⊢
      exact expr_not hok k1 k2 hx h hlen
    | bin line y a b hy ha hb =>
      obtain ⟨k1, k2, k3⟩ := kid ha
      obtain ⟨l1, l2, l3⟩ := kid hb
      have e : textN (fun i => shV (ns.take x) i) ⟨9, line, 0, y, [a, b]⟩ = atT (shV ns a) (leftLv (signLv y)) ++ (y ++ atT (shV ns b) (signLv y + 1)) := by
        show atT (shV (ns.take x) a) (leftLv (signLv y)) ++ y ++ atT (shV (ns.take x) b) (signLv y + 1) = _
        rw [k3, l3, List.append_assoc]
      rw [e] at hlen ⊢
      exact expr_bin hok hy k1 k2 l1 l2 hx h hlen
    | input line => exact expr_input hok hx h hlen
    | new line a ha =>
      obtain ⟨k1, k2, k3⟩ := kid ha
      have e : textN (fun i => shV (ns.take x) i) ⟨20, line, 0, [], [a]⟩ = [110, 101, 119, 40] ++ (txt ns a ++ [41]) := by
        show [110, 101, 119, 40] ++ (shV (ns.take x) a).1 ++ [41] = _
        rw [k3]; simp [txt, List.append_assoc]
      rw [e] at hlen ⊢
      refine expr_new hok k1 k2 hx h ?_
      simp only [List.length_cons, List.length_append, List.length_nil] at hlen; omega
    | call line y l hl =>
      have e : textN (fun i => shV (ns.take x) i) ⟨21, line, 0, y, l⟩ = y ++ (40 :: (rowP (fun j => txt ns (l.getD j 0)) l.length ++ [41])) := by
        show y ++ [40] ++ joinC (l.map fun c => (shV (ns.take x) c).1) ++ [41] = _
        rw [rowP_join l, show (l.map fun c => (shV (ns.take x) c).1) = l.map (txt ns) from List.map_congr_left (fun a ha => by rw [(kid (hl a ha)).2.2]; rfl)]
        simp [List.append_assoc]
      rw [e] at hlen ⊢
      have h5 := rowP_ge (fun j => txt ns (l.getD j 0)) l.length
      simp only [List.length_cons, List.length_append, List.length_nil] at hlen
      exact expr_call hok (fun a ha => ⟨(kid (hl a ha)).1, (kid (hl a ha)).2.1⟩) (by omega) hx h (by omega)
    | _ => simp [clsR, clsE] at hcl
end
end Go.Proofs.YtahhgnbiahomiaaDoor
