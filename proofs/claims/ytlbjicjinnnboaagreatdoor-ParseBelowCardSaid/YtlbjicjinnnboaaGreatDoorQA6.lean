/- QA6: QMany, QLexed, QAll, QAllB. -/
import Derived.Test.YtlbjicjinnnboaaGreatDoorQA1
import Derived.Test.YtlbjicjinnnboaaGreatDoorME
import Derived.Laws.EntriesVeiled
import Derived.Test.YtlbjicjinnnboaaGreatDoorQA5
/- The program's own parser: functions with many params. -/
namespace Go.Proofs.YtlbjicjinnnboaaGreatDoor
open Go.RowKit
set_option linter.unusedVariables false
set_option linter.unusedSimpArgs false
theorem fnCells_cell : ∀ {fs : List FuncM} {vs : List Value} {j : Nat} {f : FuncM} {v : Value}, fs[j]? = some f → vs[j]? = some v → ∀ k, k < 5 → (fnCells fs vs)[j * 5 + k]? = (fnCell f v)[k]?
  | [], _, _, _, _, h, _, _, _ => by simp at h
  | _ :: _, [], _, _, _, _, h, _, _ => by simp at h
  | a :: fs, b :: vs, 0, f, v, h, h2, k, hk => by
    simp at h h2; subst h; subst h2
    rw [fnCells, Nat.zero_mul, Nat.zero_add, List.getElem?_append_left (by simp [fnCell]; omega)]
  | a :: fs, b :: vs, j + 1, f, v, h, h2, k, hk => by
    have := fnCells_cell (fs := fs) (vs := vs) (j := j) (by simpa using h) (by simpa using h2) k hk
    rw [fnCells, List.getElem?_append_right (by simp [fnCell]; omega), show (fnCell a b).length = 5 from rfl, show (j + 1) * 5 + k - 5 = j * 5 + k by omega]
    exact this
set_option maxHeartbeats 1600000 in
set_option maxRecDepth 100000 in
theorem manyp_any (a : ByteArray) (l : Nat) (A : Option Addr) (n c r b : Nat) (w : World) :
    Calls Tryz.prog 53 #[.agg #[.string a, .int .i64 l, .slice A n c, .int .i64 r, .int .i64 b]] w fun e w' => e = .returned (.bool (decide (3 < n))) ∧ Fr nob w w' := by
  by_cases h : 3 < n
  · rw [decide_eq_true h]
    have h1 : (3 : Int) < (n : Int) := by omega
    clear h
    go_enter Tryz.func53, Tryz.ntmps53
    go_wp2_with fail
    go_ret
    exact ⟨rfl, (Fr.refl nob w).alloc _⟩
  · rw [decide_eq_false h]
    have h1 : ¬ (3 : Int) < (n : Int) := by omega
    have h2 : (n : Int) ≤ 3 := by omega
    clear h
    go_enter Tryz.func53, Tryz.ntmps53
    go_wp2_with fail
    go_ret
    exact ⟨rfl, (Fr.refl nob w).alloc _⟩
theorem enters_all1 : Enters Tryz.prog 53 := enters_of Tryz.func53 (by kernel_rfl) rfl
def manyP (f : FuncM) : Bool := decide (3 < f.params.length)
set_option maxHeartbeats 1600000 in
set_option maxRecDepth 100000 in
theorem findFn_any {w : World} {A : Option Addr} {c : Nat} {fs : List FuncM} {pvs : List Value} (ho : Own w 48 5 (.slice A fs.length c) fs.length (fnCells fs pvs)) (hp : ParAll w fs pvs) (hs : fs.length = pvs.length) :
    Calls Tryz.prog 42 #[.slice A fs.length c, .func (.func 53) #[] #[]] w fun e w' => ∃ z : Int, e = .returned (.int .i64 z) ∧ decide (0 ≤ z) = fs.any manyP ∧ Fr nob w w' := by
  have O := hid ho
  have HP := hid hp
  have HS := hid hs
  obtain ⟨A2, c2, hv, hc1, hc2⟩ := ho.cap
  simp only [Value.slice.injEq, true_and] at hv
  obtain ⟨hv1, hv2⟩ := hv
  subst hv1
  subst hv2
  have hml : (fs.length : Int) ≤ 9223372036854775807 := by unfold maxLen at hc2; omega
  generalize hm : fs.length = m at *
  have HMM := hid hm
  clear ho hp hs hm hc1 hc2
  go_enter Tryz.func42, Tryz.ntmps42
  go_wp2_with fail
  go_loopw [8] (fun i wr => ∃ j : Nat, j ≤ m ∧ i = .int .i64 j ∧ Hid ((fs.take j).any manyP = false) ∧ Hid (Fr nob w wr)) (fun i _ => m - (intOf i).toNat)
  case atStart => exact ⟨0, Nat.zero_le _, rfl, hid (by simp), hid (Fr.refl _ _)⟩
  case round =>
    obtain ⟨j, hj, rfl, HA, F⟩ := hrel
    by_cases hlt : j < m
    · have hlt2 : (j : Int) < (m : Int) := by omega
      have hlf : j < fs.length := by rw [HMM.out]; exact hlt
      obtain ⟨f, hf⟩ : ∃ f, fs[j]? = some f := ⟨_, List.getElem?_eq_getElem hlf⟩
      obtain ⟨pv, hpv⟩ : ∃ pv, pvs[j]? = some pv := ⟨_, List.getElem?_eq_getElem (by have := HS.out; have := HMM.out; omega)⟩
      obtain ⟨PA, PC, rfl, _, _⟩ := (HP.out.get hf hpv).cap
      have ho := O.out.fr F.out (fun _ _ x => x)
      rw [← HMM.out] at ho
      obtain ⟨fb, rfl, hcell⟩ := ho.some (by omega)
      have e0 := hcell (j * 5 + 0) _ (fnCells_cell hf hpv 0 (by decide))
      have e1 := hcell (j * 5 + 1) _ (fnCells_cell hf hpv 1 (by decide))
      have e2 := hcell (j * 5 + 2) _ (fnCells_cell hf hpv 2 (by decide))
      have e3 := hcell (j * 5 + 3) _ (fnCells_cell hf hpv 3 (by decide))
      have e4 := hcell (j * 5 + 4) _ (fnCells_cell hf hpv 4 (by decide))
      rw [Nat.add_zero] at e0
      have HT := hid (show (fs.take (j + 1)).any manyP = manyP f by rw [List.take_add_one, hf, List.any_append, HA.out]; simp)
      have HC := hid (fun wx => manyp_any (bs f.name) f.line PA f.params.length PC f.ret f.body wx)
      have HF := hid hf
      have HLF := hid hlf
      have HD : Hid (decide (3 < f.params.length) = manyP f) := rfl
      obtain ⟨z, hz⟩ : ∃ z, manyP f = z := ⟨_, rfl⟩
      rw [HD.out, hz] at HC
      rw [hz] at HT
      clear hf hpv hcell ho hlf HD hz
      cases z with
      | true =>
        go_wp2_with fail
        refine (HC.out _).mono ?_
        rintro e w2 ⟨rfl, hf2⟩
        have F2 := hid (F.out.tr hf2)
        clear hf2
        go_wp2_with fail
        go_ret
        refine ⟨j, rfl, ?_, F2.out⟩
        rw [show decide ((0 : Int) ≤ (j : Int)) = true by simp, eq_comm, List.any_eq_true]
        have h9 := HT.out
        rw [List.any_eq_true] at h9
        obtain ⟨x, hx, hxx⟩ := h9
        exact ⟨x, List.mem_of_mem_take hx, hxx⟩
      | false =>
        go_wp2_with fail
        refine (HC.out _).mono ?_
        rintro e w2 ⟨rfl, hf2⟩
        have F2 := hid (F.out.tr hf2)
        clear hf2
        go_wp2_with fail
        go_roundw
        case rel => exact ⟨j + 1, by omega, by go_num, HT, F2⟩
        case measure => simp [intOf]; omega
    · have hle : (m : Int) ≤ (j : Int) := by omega
      have hnl : ¬ (j : Int) < (m : Int) := by omega
      have HJ := hid (show fs.length ≤ j by rw [HMM.out]; omega)
      clear hlt
      go_wp2_with fail
      go_ret
      refine ⟨-1, rfl, ?_, F.out⟩
      have h9 := HA.out
      rw [List.take_of_length_le HJ.out] at h9
      rw [h9]; rfl
set_option maxHeartbeats 1600000 in
set_option maxRecDepth 100000 in
theorem many_any {w : World} {A : Option Addr} {c : Nat} {fs : List FuncM} {pvs : List Value} (ho : Own w 48 5 (.slice A fs.length c) fs.length (fnCells fs pvs)) (hp : ParAll w fs pvs) (hs : fs.length = pvs.length) :
    Calls Tryz.prog 52 #[.slice A fs.length c, .func (.func 53) #[] #[]] w fun e w' => e = .returned (.bool (fs.any manyP)) ∧ Fr nob w w' := by
  have H := hid (findFn_any ho hp hs)
  generalize fs.length = m at *
  clear ho hp hs
  go_enter Tryz.func52, Tryz.ntmps52
  go_wp2_with fail
  refine H.out.mono ?_
  rintro e w2 ⟨z, rfl, hz, hf⟩
  have HZ := hid hz
  clear hz
  go_wp2_with fail
  go_ret
  exact ⟨by rw [← HZ.out]; rfl, hf⟩
end Go.Proofs.YtlbjicjinnnboaaGreatDoor
/- The lexer's signs are no words. -/
namespace Go.Proofs.YtlbjicjinnnboaaGreatDoor
open Go.RowKit
set_option linter.unusedVariables false
set_option linter.unusedSimpArgs false
theorem first_sign {l : List UInt8} {k o m n : Nat} (h0 : 0 < l.length) (h : firstM l = .ok k o m n) (hk : k = 5) : ∀ c ∈ (l.drop o).take m, ¬ (97 ≤ c ∧ c ≤ 122) := by
  unfold firstM at h
  split at h
  · unfold numberM at h
    split at h
    · injection h with h1 h2 h3 h4
      omega
    · cases h
  · split at h
    · unfold nameM at h
      split at h
      · injection h with h1 h2 h3 h4
        omega
      · split at h
        · cases h
        · injection h with h1 h2 h3 h4
          omega
    · rename_i hl
      split at h
      · unfold textM at h
        split at h
        · cases h
        · split at h
          · cases h
          · injection h with h1 h2 h3 h4
            omega
      · unfold signM at h
        split at h
        · rename_i h2
          injection h with h1 h3 h4 h5
          subst h3; subst h4
          rw [List.drop_zero]
          have hin := h2.2
          unfold twoB isIn twosS at hin
          simp only [decide_eq_true_eq, List.map_cons, List.map_nil, List.mem_cons, List.not_mem_nil, or_false] at hin
          intro c hc
          rcases hin with e | e | e | e | e <;> rw [e] at hc <;> simp at hc
          · subst hc; decide
          · subst hc; decide
          · rcases hc with rfl | rfl <;> decide
          · subst hc; decide
          · rcases hc with rfl | rfl <;> decide
        · split at h
          · injection h with h1 h3 h4 h5
            subst h3; subst h4
            rw [List.drop_zero]
            intro c hc hcc
            cases l with
            | nil => cases h0
            | cons a t =>
              simp at hc
              subst hc
              apply hl
              have h1 : 97 ≤ c.toNat ∧ c.toNat ≤ 122 := ⟨UInt8.le_iff_toNat_le.1 hcc.1, UInt8.le_iff_toNat_le.1 hcc.2⟩
              unfold letterI byteAt
              simp only [List.getD_cons_zero, Bool.or_eq_true, Bool.and_eq_true, decide_eq_true_eq]
              left
              omega
          · cases h
theorem lex_signs : ∀ (n : Nat) (l : List UInt8) (p : Nat) (ts : List Tok), l.length ≤ n → lexFrom l p = .good ts → ∀ t ∈ ts, t.kind = 5 → ∀ c ∈ t.text, ¬ (97 ≤ c ∧ c ≤ 122) := by
  intro n
  induction n with
  | zero =>
    intro l p ts hl h
    have : l = [] := List.eq_nil_of_length_eq_zero (by omega)
    subst this
    rw [lex_nil] at h
    injection h with h
    subst h
    intro t ht hk
    rw [List.mem_singleton.1 ht] at hk
    cases hk
  | succ n ih =>
    intro l p ts hl h
    refine lex_step (Mo := fun l p => l.length ≤ n + 1 → lexFrom l p = .good ts → ∀ t ∈ ts, t.kind = 5 → ∀ c ∈ t.text, ¬ (97 ≤ c ∧ c ≤ 122)) l p ?_ ?_ ?_ ?_ ?_ hl h
    · intro _ _ h
      rw [lex_nil] at h
      injection h with h
      subst h
      intro t ht hk
      rw [List.mem_singleton.1 ht] at hk
      cases hk
    · intro h0 hb hl h
      rw [lex_blank h0 hb] at h
      have hd : (l.drop 1).length = l.length - 1 := by rw [List.length_drop]
      exact ih (l.drop 1) (p + 1) ts (by omega) h
    · intro h0 hb hr hp hl h
      rw [lex_remark h0 hb hr] at h
      have hd : (l.drop (runN lineI l)).length = l.length - runN lineI l := by rw [List.length_drop]
      exact ih (l.drop (runN lineI l)) (p + runN lineI l) ts (by omega) h
    · intro e h0 hb hr hf hl h
      rw [lex_err h0 hb hr hf] at h
      cases h
    · intro k o m n' h0 hb hr hf hl h
      obtain ⟨g1, g2, g3⟩ := firstM_ok h0 hf
      rw [lex_ok h0 hb hr hf] at h
      have hd : (l.drop n').length = l.length - n' := by rw [List.length_drop]
      cases hq : lexFrom (l.drop n') (p + n') with
      | bad i e => rw [hq] at h; cases h
      | good us =>
        rw [hq] at h
        injection h with h
        subst h
        intro t ht hk
        rcases List.mem_append.1 ht with ht | ht
        · rw [List.mem_singleton.1 ht] at hk ⊢
          exact first_sign h0 hf hk
        · exact ih (l.drop n') (p + n') us (by omega) hq t ht hk
theorem lexM_signs {l : List UInt8} {ts : List Tok} (h : lexM l = .good ts) : ∀ t ∈ ts, t.kind = 5 → ∀ c ∈ t.text, ¬ (97 ≤ c ∧ c ≤ 122) := by
  unfold lexM at h
  split at h
  · cases h
  · exact lex_signs l.length l 0 ts (Nat.le_refl _) h
end Go.Proofs.YtlbjicjinnnboaaGreatDoor
/- The program's own parser: All's state. -/
namespace Go.Proofs.YtlbjicjinnnboaaGreatDoor
open Go.RowKit
set_option linter.unusedVariables false
set_option linter.unusedSimpArgs false
/-- The variables that the parser reads. -/
structure PVars (w : World) : Prop where
  lex : Lx.Vars w
  most : ∃ m : Int, Blk w 0 3 #[.int .i64 m]
theorem fns_few2 {src : List UInt8} {ts : List Tok} (ht : ToksOk ts) {n : Nat} {r : List FuncM × PS} (h : runFns src ts n [] ⟨0, [], 0, 0, 0⟩ = some r) : r.2.nodes.length ≤ 40000 := by
  have h0 : PSOk ts ⟨0, [], 0, 0, 0⟩ := ⟨ht.pos, by decide, fun _ => by decide, by decide, by decide⟩
  obtain ⟨a, b⟩ := fns_ok ht _ _ _ _ h h0
  have := a.room
  have := ht.few
  unfold pot at b
  simp at b
  omega
structure QA (src : ByteArray) (tb tc : Nat) (ts : List Tok) (g : Nat) (w0 : World) (TT T9 : Nat) (w : World) (s : PS) (N : Lim) (fv : Value) (fns : List FuncM) (pvs : List Value) : Prop where
  q : QS src tb tc ts g (fun _ => False) w0 w s N
  bt : Blk w TT 26 #[.slice none 0 0, .slice none 0 0]
  b9 : Blk w T9 26 #[.slice none 0 0, fv]
  h9 : w0.heap.size ≤ T9
  ne : TT ≠ T9
  own : Own w 48 5 fv fns.length (fnCells fns pvs)
  pars : ParAll w fns pvs
  same : fns.length = pvs.length
  newf : ∀ k, blk fv = some k → w0.heap.size ≤ k
section
variable {src : ByteArray} {tb tc : Nat} {ts : List Tok} {g : Nat} {w0 w w1 w' : World} {s s' : PS} {N N' : Lim} {TT T9 : Nat} {fv : Value} {fns : List FuncM} {pvs : List Value}
theorem QA.to (h : QA src tb tc ts g w0 TT T9 w s N fv fns pvs) (h' : QS src tb tc ts g (fun _ => False) w w' s' N') : QA src tb tc ts g w0 TT T9 w' s' N' fv fns pvs := by
  obtain ⟨cs, hb⟩ := h.q.blkg
  exact ⟨h.q.back h', h'.fr.blk h.bt (h.bt.ne hb (by decide)) (by decide), h'.fr.blk h.b9 (h.b9.ne hb (by decide)) (by decide), h.h9, h.ne, h.own.frR hb (by decide) (by decide) h'.fr,
    h.pars.to h'.fr (fun k cu hk => h'.fr.far hb hk (by decide) (by decide)), h.same, h.newf⟩
theorem QA.app (h : QA src tb tc ts g w0 TT T9 w s N fv fns pvs) {f : FuncM} {pv : Value} (hp : Own w 101 2 pv f.params.length (paramCells f.params)) {o : Obj} {v' : Value}
    (ho : Own w' 48 5 v' (fns.length + 1) (fnCells fns pvs ++ fnCell f pv)) (hf : Fr (obl (blk fv)) (w.alloc o) w') (hv : blk v' = blk fv ∨ blk v' = some (w.alloc o).heap.size) :
    QA src tb tc ts g w0 TT T9 (w'.setCell ⟨T9, 1, none⟩ v') s N v' (fns ++ [f]) (pvs ++ [pv]) := by
  have hst := h.q.alloc o
  have hown := h.own.alloc o
  have hbt := h.bt.alloc o
  have hb9 := h.b9.alloc o
  have hpp := hp.alloc o
  have hpars : ParAll (w.alloc o) fns pvs := (h.pars.to (M := nob) ((Fr.refl nob w).alloc o) (fun _ _ _ x => x))
  have h2 : QS src tb tc ts g (fun _ => False) w0 w' s N := hst.frM (M := obl (blk fv)) hf (fun k hk => h.newf k hk) (fun k hk => by
    obtain ⟨cs, hc⟩ := hown.ty (k := k) hk
    exact ⟨_, _, hc, by decide, by decide, by decide, fun e => absurd e (by decide)⟩)
  have hb92 := hb9.fr hf (fun hm => hown.blk_ne hb9 (by decide) hm)
  have hbt2 := hbt.fr hf (fun hm => hown.blk_ne hbt (by decide) hm)
  have hpars2 : ParAll w' fns pvs := hpars.to hf (fun k cs hk hm => by
    obtain ⟨cs2, hc⟩ := hown.ty (k := k) hm
    exact hk.ne hc (by decide) rfl)
  have hpp2 := hpp.fr hf (fun k hk hm => hown.blk_ne' hpp (by decide) hk hm)
  have fs : Fr (oneb T9) w' (w'.setCell ⟨T9, 1, none⟩ v') := (Fr.refl _ w').setCell _ _ (fun _ => rfl)
  have h3 : Own w' 48 5 v' (fns ++ [f]).length (fnCells (fns ++ [f]) (pvs ++ [pv])) := by
    rw [List.length_append, fnCells_snoc _ _ _ _ h.same]; exact ho
  refine ⟨h2.cell hb92 (by decide) (by decide) (by decide) (by decide) h.h9 1 v', hbt2.far (p := ⟨T9, 1, none⟩) h.ne _, hb92.setCell 1 _, h.h9, h.ne, h3.far (p := ⟨T9, 1, none⟩) (h3.blk_ne hb92 (by decide)) _,
    ParAll.to fs (fun k cs hk hm => hk.ne hb92 (by decide) hm) (ParAll.snoc hpp2 hpars2), by simp [h.same], fun k hk => ?_⟩
  rcases hv with e | e
  · rw [e] at hk; exact h.newf k hk
  · rw [e] at hk; injection hk with hk
    have := hst.fr.size; omega
/-- The parser's cells that All reads. -/
theorem QS.cellsA {R : Nat → Prop} (h : QS src tb tc ts g R w0 w s N) : g < w.heap.size ∧ w.cell? ⟨g, 3, none⟩ = some (.int .i64 s.e) ∧ w.cell? ⟨g, 4, none⟩ = some (.int .i64 s.place) := by
  obtain ⟨q, lvs, hq, hs⟩ := h.q
  obtain ⟨hg, _, _, _, c3, c4, _⟩ := hq.cells
  rw [hs.e] at c3
  rw [hs.place] at c4
  exact ⟨hg, c3, c4⟩
/-- The parser's nodes. -/
theorem QS.nodesA {R : Nat → Prop} (h : QS src tb tc ts g R w0 w s N) (h0 : s.e = 0) : ∃ nv lvs, w.cell? ⟨g, 5, none⟩ = some nv ∧ Own w 50 5 nv s.nodes.length (nodesCells s.nodes lvs) ∧ Below2 w s.nodes lvs ∧ s.nodes.length = lvs.length ∧ ∀ k, blk nv = some k → g < k := by
  obtain ⟨q, lvs, hq, hs⟩ := h.q
  obtain ⟨_, _, _, _, _, _, c5⟩ := hq.cells
  obtain ⟨h1, h2, h3⟩ := hs.row h0
  have ho := hq.own
  rw [h1, h2] at ho
  exact ⟨q.nv, lvs, c5, ho, hs.below h0, h3, hq.newer⟩
/-- The parser's first state. -/
theorem qs_start {b0 : Nat} (ht : Toks b0 w0 (.slice (some ⟨tb, 0, none⟩) ts.length tc) ts) (hk : ToksOk ts) (hs : src.size ≤ 281474976710656) (hv : Most w0 w0) :
    QS src tb tc ts w0.heap.size (fun _ => False) w0 (w0.alloc (.cells #[.string src, .slice (some ⟨tb, 0, none⟩) ts.length tc, .int .i64 0, .int .i64 0, .int .i64 0, .slice none 0 0] 82)) ⟨0, [], 0, 0, 0⟩ ⟨0, 0⟩ := by
  have hf : Fr nob w0 (w0.alloc (.cells #[.string src, .slice (some ⟨tb, 0, none⟩) ts.length tc, .int .i64 0, .int .i64 0, .int .i64 0, .slice none 0 0] 82)) := (Fr.refl nob w0).alloc _
  have hb := Blk.new w0 82 #[.string src, .slice (some ⟨tb, 0, none⟩) ts.length tc, .int .i64 0, .int .i64 0, .int .i64 0, .slice none 0 0]
  refine ⟨⟨⟨0, 0, 0, 0, 0, .slice none 0 0, []⟩, [], ⟨?_, Own.nil _ _ _, ⟨_, ht.no hf⟩, hk.pos, fun k hk => by simp [blk] at hk⟩, ?_⟩, fun k hk => hk.elim, ⟨hk.pos, by decide, fun _ => by decide, by decide, by decide⟩, hk, hs, FrR.no hf, hv.no hf⟩
  · have e : qCells src tb (ts.length - 0) (tc - 0) ⟨0, 0, 0, 0, 0, .slice none 0 0, []⟩ = #[.string src, .slice (some ⟨tb, 0, none⟩) ts.length tc, .int .i64 0, .int .i64 0, .int .i64 0, .slice none 0 0] := by
      unfold qCells
      simp
    show Blk _ _ _ (qCells src tb (ts.length - 0) (tc - 0) ⟨0, 0, 0, 0, 0, .slice none 0 0, []⟩)
    rw [e]
    exact hb
  · exact ⟨rfl, rfl, rfl, fun _ => ⟨rfl, rfl⟩, fun _ => ⟨rfl, rfl, rfl⟩, fun _ => trivial, fun _ v hv => (by cases hv), fun h => absurd rfl h⟩
end
end Go.Proofs.YtlbjicjinnnboaaGreatDoor
/- The program's own parser: All. Printed by wip/tools/mkqallb.py. -/
namespace Go.Proofs.YtlbjicjinnnboaaGreatDoor
open Go.RowKit
set_option linter.unusedVariables false
set_option linter.unusedSimpArgs false
set_option maxHeartbeats 3200000 in
set_option maxRecDepth 100000 in
theorem qall_any (src : ByteArray) (w : World) (hs : src.size ≤ 281474976710656) (hv : PVars w) {r : ParseR} (hr : parseM src.data.toList = some r) :
    Calls Tryz.prog 25 #[.string src] w fun e w' => ParseAt w.heap.size w' e r ∧ Fr nob w w' := by
  have FT0 := hid (show Fr nob w (w.alloc (.cells #[.slice none 0 0, .slice none 0 0] 26)) from (Fr.refl nob w).alloc _)
  have V0 := hid hv
  have HL := hid (Lx.all_any src (w.alloc (.cells #[.slice none 0 0, .slice none 0 0] 26)) hs (hv.lex.fr FT0.out))
  have HS := hid hs
  unfold parseM at hr
  cases hl : lexM src.data.toList with
  | bad p er =>
    rw [hl] at hr HL
    simp only [Option.some.injEq] at hr
    subst hr
    have hne : ((er : Int) == 0) = false := by
      have := lexM_bad hl
      exact beq_eq_false_iff_ne.2 (by omega)
    clear hl hs hv
    go_enter Tryz.func25, Tryz.ntmps25
    go_wp2_with fail
    refine HL.out.mono ?_
    rintro e w1 ⟨rfl, hf⟩
    have F1 := hid hf
    have hB := (Blk.new w 26 #[.slice none 0 0, .slice none 0 0]).fr hf (fun x => x)
    have t0 := hB.frozen 0
    have t1 := hB.frozen 1
    have u0 := hB.cell 0
    have u1 := hB.cell 1
    have ul := hB.lt
    simp at u0 u1
    clear hf hB
    go_wp2_with fail
    have F2 := hid (show Fr nob w ((w1.setCell ⟨w.heap.size, 0, none⟩ (.slice none 0 0)).setCell ⟨w.heap.size, 1, none⟩ (.slice none 0 0)) from
      ((((Fr.refl nob w).alloc _).tr F1.out).setCell _ _ (fun h => absurd h (Nat.lt_irrefl _))).setCell _ _ (fun h => absurd h (Nat.lt_irrefl _)))
    have hB2 := ((((Blk.new w 26 #[.slice none 0 0, .slice none 0 0]).fr F1.out (fun x => x)).setCell 0 (.slice none 0 0)).setCell 1 (.slice none 0 0))
    clear t0 t1 u0 u1 ul
    generalize (w1.setCell ⟨w.heap.size, 0, none⟩ (.slice none 0 0)).setCell ⟨w.heap.size, 1, none⟩ (.slice none 0 0) = w2 at *
    have z0 := hB2.cell 0
    have z1 := hB2.cell 1
    simp at z0 z1
    refine bodyPost_ret (v := .tuple #[.agg #[.slice none 0 0, .slice none 0 0], .int .i64 p, .int .i64 er]) (by simp [results, Tryz.results25, go_sem, z0, z1]) rfl ⟨rfl, F2.out⟩
  | good ts =>
    rw [hl] at hr HL
    have TK := hid (lexM_toks hl)
    have SG := hid (show Signs ts from lexM_signs hl)
    have hfew := lexM_few hl
    simp only [parseT, Option.map_eq_some_iff] at hr
    obtain ⟨q, hq, hRR⟩ := hr
    have HRR := hid hRR
    have HQ := hid hq
    have HN := hid (fns_few2 (lexM_toks hl) hq)
    have hfu : parseFuel ts ≤ 30000 := by unfold parseFuel; omega
    have HFU := hid hfu
    clear hl hs hfu hfew hq hRR hv
    generalize parseFuel ts = n0 at *
    go_enter Tryz.func25, Tryz.ntmps25
    go_wp2_with fail
    refine HL.out.mono ?_
    rintro e w1 ⟨⟨v, rfl, htk⟩, hf⟩
    obtain ⟨A, tc, rfl, hc1, hc2⟩ := htk.slice
    obtain ⟨tb, rfl, _, _, _⟩ := htk.some TK.out.pos
    have F1 := hid hf
    have TA := hid htk
    have hsz := F1.out.size
    simp at hsz
    have HG := hid (show w.heap.size < w1.heap.size by omega)
    clear hf htk hc1 hc2 hsz
    go_wp2_with fail
    have AS := hid (show QA src tb tc ts w1.heap.size w1 w.heap.size (w1.heap.size + 1) ((w1.alloc (.cells #[.string src, .slice (some ⟨tb, 0, none⟩) ts.length tc, .int .i64 0, .int .i64 0, .int .i64 0, .slice none 0 0] 82)).alloc (.cells #[.slice none 0 0, .slice none 0 0] 26)) ⟨0, [], 0, 0, 0⟩ ⟨10 * n0 + 1, 0⟩ (.slice none 0 0) [] [] from by
      have hS := qs_start TA.out TK.out HS.out (show Most w1 w1 from ⟨by have := HG.out; omega, V0.out.most.imp fun m hm => (hm.fr FT0.out (fun x => x)).fr F1.out (fun x => x)⟩)
      have hB := (((Blk.new w 26 #[.slice none 0 0, .slice none 0 0]).fr F1.out (fun x => x)).alloc (.cells #[.string src, .slice (some ⟨tb, 0, none⟩) ts.length tc, .int .i64 0, .int .i64 0, .int .i64 0, .slice none 0 0] 82)).alloc (.cells #[.slice none 0 0, .slice none 0 0] 26)
      have h9 := Blk.new (w1.alloc (.cells #[.string src, .slice (some ⟨tb, 0, none⟩) ts.length tc, .int .i64 0, .int .i64 0, .int .i64 0, .slice none 0 0] 82)) 26 #[.slice none 0 0, .slice none 0 0]
      rw [show (w1.alloc (.cells #[.string src, .slice (some ⟨tb, 0, none⟩) ts.length tc, .int .i64 0, .int .i64 0, .int .i64 0, .slice none 0 0] 82)).heap.size = w1.heap.size + 1 by simp] at h9
      exact ⟨(hS.alloc _).zero rfl _, hB, h9, Nat.le_succ _, by have := HG.out; omega, Own.nil _ _ _, trivial, rfl, fun k hk => by simp [blk] at hk⟩)
    clear TA
    go_loopg [] n0 (fun k wr => ∃ (fns fns' : List FuncM) (pvs : List Value) (s' : PS) (fv : Value), Hid (fns.length + k ≤ n0) ∧ Hid (QA src tb tc ts w1.heap.size w1 w.heap.size (w1.heap.size + 1) wr s' ⟨10 * n0 + 1, 0⟩ fv fns' pvs) ∧ Hid (runFns src.data.toList ts k fns s' = some q) ∧ Hid (s'.e = 0 → fns' = fns))
    case atStart => exact ⟨[], [], [], _, _, hid (by simp), AS, HQ, hid (fun _ => rfl)⟩
    case round =>
      obtain ⟨fns, fns', pvs, s', fv, HK, S, HR, HFF⟩ := hrel
      clear AS HQ HL
      generalize w1.heap.size + 1 = T9 at *
      generalize w1.heap.size = g at *
      have hr := HR.out
      cases gk with
      | zero => simp [runFns] at hr
      | succ k =>
        simp only [runFns] at hr
        by_cases h0 : s'.e = 0
        case neg =>
          rw [if_pos h0] at hr
          simp only [Option.some.injEq] at hr
          subst hr
          have HR2 := hid (show r = .bad s'.place s'.e by rw [← HRR.out, if_pos h0])
          have he : ((s'.e : Int) == 0) = false := beq_eq_false_iff_ne.2 (by omega)
          have he2 : ((s'.e : Int) != 0) = true := by rw [bne, he]; rfl
          obtain ⟨hg, c5, c6⟩ := S.out.q.cellsA
          have t0 := S.out.bt.frozen 0
          have t1 := S.out.bt.frozen 1
          have u0 := S.out.bt.cell 0
          have u1 := S.out.bt.cell 1
          have hTl := S.out.bt.lt
          have HGT := hid (show w.heap.size ≠ g by have := HG.out; omega)
          simp at u0 u1
          go_wp2_with fail
          have m5 : (⟨w.heap.size, 0, none⟩ : Addr) ≠ ⟨g, 3, none⟩ := by intro e; injection e with e; exact HGT.out e
          have m6 : (⟨w.heap.size, 0, none⟩ : Addr) ≠ ⟨g, 4, none⟩ := by intro e; injection e with e; exact HGT.out e
          have p5 : (⟨w.heap.size, 1, none⟩ : Addr) ≠ ⟨g, 3, none⟩ := by intro e; injection e with e; exact HGT.out e
          have p6 : (⟨w.heap.size, 1, none⟩ : Addr) ≠ ⟨g, 4, none⟩ := by intro e; injection e with e; exact HGT.out e
          have D5 := hid c5
          have D6 := hid c6
          have E5 := hid ((World.cell?_setCell_other (wr.drew.setCell ⟨w.heap.size, 0, none⟩ (.slice none 0 0)) ⟨w.heap.size, 1, none⟩ ⟨g, 3, none⟩ (.slice none 0 0) p5).trans ((World.cell?_setCell_other wr.drew ⟨w.heap.size, 0, none⟩ ⟨g, 3, none⟩ (.slice none 0 0) m5).trans c5))
          have E6 := hid ((World.cell?_setCell_other (wr.drew.setCell ⟨w.heap.size, 0, none⟩ (.slice none 0 0)) ⟨w.heap.size, 1, none⟩ ⟨g, 4, none⟩ (.slice none 0 0) p6).trans ((World.cell?_setCell_other wr.drew ⟨w.heap.size, 0, none⟩ ⟨g, 4, none⟩ (.slice none 0 0) m6).trans c6))
          clear m5 m6 p5 p6
          go_region_held3 (fun wx => wx.cell? ⟨g, 3, none⟩ = some (.int .i64 s'.e) ∧ wx.cell? ⟨g, 4, none⟩ = some (.int .i64 s'.place)) (first | exact ⟨D5.out, D6.out⟩ | exact ⟨E5.out, E6.out⟩) (first | fail)
          clear D5 D6 E5 E6 hg c5 c6 t0 t1 u0 u1 hTl he he2
          go_wp2_with fail
          have FE := hid (fr_end F1.out S.out.q.fr (Nat.le_of_lt HG.out))
          have hB2 := ((S.out.bt.setCell 0 (.slice none 0 0)).setCell 1 (.slice none 0 0))
          have F2 := hid (show Fr nob w (((wr.setCell ⟨w.heap.size, 0, none⟩ (.slice none 0 0)).setCell ⟨w.heap.size, 1, none⟩ (.slice none 0 0)).drew) from ((FE.out.setCell ⟨w.heap.size, 0, none⟩ (.slice none 0 0) (fun h => absurd h (Nat.lt_irrefl _))).setCell ⟨w.heap.size, 1, none⟩ (.slice none 0 0) (fun h => absurd h (Nat.lt_irrefl _))).drew)
          have hB3 : Blk (((wr.setCell ⟨w.heap.size, 0, none⟩ (.slice none 0 0)).setCell ⟨w.heap.size, 1, none⟩ (.slice none 0 0)).drew) w.heap.size 26 #[.slice none 0 0, .slice none 0 0] := hB2
          clear hB2
          generalize ((wr.setCell ⟨w.heap.size, 0, none⟩ (.slice none 0 0)).setCell ⟨w.heap.size, 1, none⟩ (.slice none 0 0)).drew = we at *
          have z0 := hB3.cell 0
          have z1 := hB3.cell 1
          simp at z0 z1
          clear hB3
          refine bodyPost_ret (v := .tuple #[.agg #[.slice none 0 0, .slice none 0 0], .int .i64 s'.place, .int .i64 s'.e]) (by simp [results, Tryz.results25, go_sem, z0, z1]) rfl ⟨by rw [HR2.out]; rfl, F2.out⟩
        case pos =>
          rw [if_neg (by omega)] at hr
          have hff := HFF.out h0
          subst hff
          have he : ((s'.e : Int) == 0) = true := by rw [h0]; rfl
          have he2 : ((s'.e : Int) != 0) = false := by rw [bne, he]; rfl
          obtain ⟨hg, c5, c6⟩ := S.out.q.cellsA
          by_cases hk : pKind ts 0 s' = true
          · rw [if_pos hk] at hr
            simp only [Option.some.injEq] at hr
            subst hr
            have HKI := hid hk
            have HRR2 := hid (show r = if 300 < s'.nodes.length ∨ 6 < fns'.length ∨ fns'.any (fun f => decide (3 < f.params.length)) = true then .bad 0 4 else .good s'.nodes fns' by rw [← HRR.out, if_neg (fun h => h h0)])
            have H0 := hid h0
            clear HRR HR hk h0
            go_wp2_with fail
            refine (S.out.q.here.kind 0 (b := true) HKI.out).mono ?_
            rintro e w4 ⟨rfl, h4⟩
            have S4 := hid (S.out.to h4)
            clear h4 hg c5 c6
            obtain ⟨hg, c5, c6⟩ := S4.out.q.cellsA
            obtain ⟨nv, lvs, cn, hon, hbel, hsame, hnew⟩ := S4.out.q.nodesA H0.out
            obtain ⟨NA, NC, rfl, _, _⟩ := hon.cap
            obtain ⟨FA, FC, rfl, hf1, hf2⟩ := S4.out.own.cap
            have TR := hid (show TreeAt w.heap.size w4 (.slice NA s'.nodes.length NC) (.slice FA fns'.length FC) lvs pvs s'.nodes fns' from
              ⟨hon, hbel, hsame, S4.out.own, S4.out.pars, S4.out.same, fun k hk => by have := hnew k hk; have := HG.out; omega, fun k hk => by have := S4.out.newf k hk; have := F1.out.size; simp at this; omega⟩)
            have u0 := S4.out.b9.cell 0
            have u1 := S4.out.b9.cell 1
            have t0 := S4.out.b9.frozen 0
            have h9l := S4.out.b9.lt
            simp at u0 u1
            have FE := hid (fr_end F1.out S4.out.q.fr (Nat.le_of_lt HG.out))
            have hfL : (fns'.length : Int) ≤ 9223372036854775807 := by have := Nat.le_trans hf1 hf2; unfold maxLen at this; omega
            have hnL : (s'.nodes.length : Int) ≤ 1000000 := by have := HN.out; have e : (fns', s').2.nodes.length = s'.nodes.length := rfl; omega
            have FB := hid (show Blk (w4.setCell ⟨T9, 0, none⟩ (.slice NA s'.nodes.length NC)) T9 26 #[.slice NA s'.nodes.length NC, .slice FA fns'.length FC] from S4.out.b9.setCell 0 _)
            have TB := hid (show Blk (w4.setCell ⟨T9, 0, none⟩ (.slice NA s'.nodes.length NC)) w.heap.size 26 #[.slice none 0 0, .slice none 0 0] from S4.out.bt.far (p := ⟨T9, 0, none⟩) S4.out.ne _)
            have TR2 := hid (TR.out.far (M := oneb T9) ((Fr.refl _ w4).setCell ⟨T9, 0, none⟩ (.slice NA s'.nodes.length NC) (fun _ => rfl)) (fun k hk => by rw [show k = T9 from hk]; exact ⟨_, S4.out.b9⟩))
            have FE2 := hid (show Fr nob w (w4.setCell ⟨T9, 0, none⟩ (.slice NA s'.nodes.length NC)) from FE.out.setCell ⟨T9, 0, none⟩ _ (fun h => by have h' : T9 < w.heap.size := h; have := S4.out.h9; have h3 := F1.out.size; simp at h3; omega))
            have HT9 := hid S4.out.ne
            have HMY := hid (many_any TR2.out.fns TR2.out.pars TR2.out.samef)
            obtain ⟨b, hb⟩ : ∃ b, fns'.any manyP = b := ⟨_, rfl⟩
            rw [hb] at HMY
            have HBB := hid hb
            have l3 : (300 : Int) < (s'.nodes.length : Int) ∨ (s'.nodes.length : Int) ≤ 300 := by omega
            have l6 : (6 : Int) < (fns'.length : Int) ∨ (fns'.length : Int) ≤ 6 := by omega
            have HRB := hid (show r = if 300 < s'.nodes.length ∨ 6 < fns'.length ∨ b = true then .bad 0 4 else .good s'.nodes fns' from by rw [HRR2.out, ← hb]; rfl)
            clear hon hbel hsame hnew hf1 hf2 TR HRR2 hb FE
            generalize s'.nodes.length = nl at *
            generalize fns'.length = fl at *
            go_wp2_with fail
            refine HMY.out.mono ?_
            rintro e w5 ⟨rfl, hf5⟩
            have FB5 := hid (FB.out.fr hf5 (fun x => x))
            have TB5 := hid (TB.out.fr hf5 (fun x => x))
            have TR5 := hid (TR2.out.far hf5 (fun k hk => hk.elim))
            have FE5 := hid (FE2.out.tr hf5)
            clear hf5 t0 u0 u1 hg c5 c6 cn h9l he he2 TR2 FB TB FE2
            have a0 := FB5.out.cell 0
            have a1 := FB5.out.cell 1
            have t0 := TB5.out.frozen 0
            have t1 := TB5.out.frozen 1
            have u0 := TB5.out.cell 0
            have u1 := TB5.out.cell 1
            have hTl := TB5.out.lt
            simp at a0 a1 u0 u1
            cases b with
            | true =>
              have HR2 := hid (show r = .bad 0 4 by rw [HRB.out, if_pos (.inr (.inr rfl))])
              go_wp2_with fail
              clear t0 t1 u0 u1 hTl a0 a1
              have hB2 := ((TB5.out.setCell 0 (.slice none 0 0)).setCell 1 (.slice none 0 0))
              have F2 := hid (show Fr nob w (((w5.setCell ⟨w.heap.size, 0, none⟩ (.slice none 0 0)).setCell ⟨w.heap.size, 1, none⟩ (.slice none 0 0))) from ((FE5.out.setCell ⟨w.heap.size, 0, none⟩ (.slice none 0 0) (fun h => absurd h (Nat.lt_irrefl _))).setCell ⟨w.heap.size, 1, none⟩ (.slice none 0 0) (fun h => absurd h (Nat.lt_irrefl _))))
              have hB3 : Blk (((w5.setCell ⟨w.heap.size, 0, none⟩ (.slice none 0 0)).setCell ⟨w.heap.size, 1, none⟩ (.slice none 0 0))) w.heap.size 26 #[.slice none 0 0, .slice none 0 0] := hB2
              clear hB2
              generalize ((w5.setCell ⟨w.heap.size, 0, none⟩ (.slice none 0 0)).setCell ⟨w.heap.size, 1, none⟩ (.slice none 0 0)) = we at *
              have z0 := hB3.cell 0
              have z1 := hB3.cell 1
              simp at z0 z1
              clear hB3
              refine bodyPost_ret (v := .tuple #[.agg #[.slice none 0 0, .slice none 0 0], .int .i64 0, .int .i64 4]) (by simp [results, Tryz.results25, go_sem, z0, z1]) rfl ⟨by rw [HR2.out]; rfl, F2.out⟩
            | false =>
              rcases l3 with l3 | l3
              · clear l6
                have HR2 := hid (show r = .bad 0 4 by rw [HRB.out, if_pos (.inl (by omega))])
                go_wp2_with fail
                clear t0 t1 u0 u1 hTl a0 a1
                have hB2 := ((TB5.out.setCell 0 (.slice none 0 0)).setCell 1 (.slice none 0 0))
                have F2 := hid (show Fr nob w (((w5.setCell ⟨w.heap.size, 0, none⟩ (.slice none 0 0)).setCell ⟨w.heap.size, 1, none⟩ (.slice none 0 0))) from ((FE5.out.setCell ⟨w.heap.size, 0, none⟩ (.slice none 0 0) (fun h => absurd h (Nat.lt_irrefl _))).setCell ⟨w.heap.size, 1, none⟩ (.slice none 0 0) (fun h => absurd h (Nat.lt_irrefl _))))
                have hB3 : Blk (((w5.setCell ⟨w.heap.size, 0, none⟩ (.slice none 0 0)).setCell ⟨w.heap.size, 1, none⟩ (.slice none 0 0))) w.heap.size 26 #[.slice none 0 0, .slice none 0 0] := hB2
                clear hB2
                generalize ((w5.setCell ⟨w.heap.size, 0, none⟩ (.slice none 0 0)).setCell ⟨w.heap.size, 1, none⟩ (.slice none 0 0)) = we at *
                have z0 := hB3.cell 0
                have z1 := hB3.cell 1
                simp at z0 z1
                clear hB3
                refine bodyPost_ret (v := .tuple #[.agg #[.slice none 0 0, .slice none 0 0], .int .i64 0, .int .i64 4]) (by simp [results, Tryz.results25, go_sem, z0, z1]) rfl ⟨by rw [HR2.out]; rfl, F2.out⟩
              · rcases l6 with l6 | l6
                · skip
                  have HR2 := hid (show r = .bad 0 4 by rw [HRB.out, if_pos (.inr (.inl (by omega)))])
                  go_wp2_with fail
                  clear t0 t1 u0 u1 hTl a0 a1
                  have hB2 := ((TB5.out.setCell 0 (.slice none 0 0)).setCell 1 (.slice none 0 0))
                  have F2 := hid (show Fr nob w (((w5.setCell ⟨w.heap.size, 0, none⟩ (.slice none 0 0)).setCell ⟨w.heap.size, 1, none⟩ (.slice none 0 0))) from ((FE5.out.setCell ⟨w.heap.size, 0, none⟩ (.slice none 0 0) (fun h => absurd h (Nat.lt_irrefl _))).setCell ⟨w.heap.size, 1, none⟩ (.slice none 0 0) (fun h => absurd h (Nat.lt_irrefl _))))
                  have hB3 : Blk (((w5.setCell ⟨w.heap.size, 0, none⟩ (.slice none 0 0)).setCell ⟨w.heap.size, 1, none⟩ (.slice none 0 0))) w.heap.size 26 #[.slice none 0 0, .slice none 0 0] := hB2
                  clear hB2
                  generalize ((w5.setCell ⟨w.heap.size, 0, none⟩ (.slice none 0 0)).setCell ⟨w.heap.size, 1, none⟩ (.slice none 0 0)) = we at *
                  have z0 := hB3.cell 0
                  have z1 := hB3.cell 1
                  simp at z0 z1
                  clear hB3
                  refine bodyPost_ret (v := .tuple #[.agg #[.slice none 0 0, .slice none 0 0], .int .i64 0, .int .i64 4]) (by simp [results, Tryz.results25, go_sem, z0, z1]) rfl ⟨by rw [HR2.out]; rfl, F2.out⟩
                · skip
                  have HR2 := hid (show r = .good s'.nodes fns' by rw [HRB.out, if_neg (fun h => h.elim (fun h => by omega) (fun h => h.elim (fun h => by omega) (fun h => by cases h)))])
                  go_wp2_with fail
                  clear t0 t1 u0 u1 hTl a0 a1
                  have hB2 := ((TB5.out.setCell 0 (.slice NA nl NC)).setCell 1 (.slice FA fl FC))
                  have F2 := hid (show Fr nob w ((w5.setCell ⟨w.heap.size, 0, none⟩ (.slice NA nl NC)).setCell ⟨w.heap.size, 1, none⟩ (.slice FA fl FC)) from ((FE5.out.setCell ⟨w.heap.size, 0, none⟩ _ (fun h => absurd h (Nat.lt_irrefl _))).setCell ⟨w.heap.size, 1, none⟩ _ (fun h => absurd h (Nat.lt_irrefl _))))
                  have hone : Fr (oneb w.heap.size) w5 ((w5.setCell ⟨w.heap.size, 0, none⟩ (.slice NA nl NC)).setCell ⟨w.heap.size, 1, none⟩ (.slice FA fl FC)) := by
                    have h1 : Fr (oneb w.heap.size) w5 (w5.setCell ⟨w.heap.size, 0, none⟩ (.slice NA nl NC)) := (Fr.refl _ _).setCell _ _ (fun _ => rfl)
                    exact h1.setCell ⟨w.heap.size, 1, none⟩ _ (fun _ => rfl)
                  have TR3 := hid (TR5.out.far hone (fun k hk => by rw [show k = w.heap.size from hk]; exact ⟨_, TB5.out⟩))
                  have hB3 : Blk ((w5.setCell ⟨w.heap.size, 0, none⟩ (.slice NA nl NC)).setCell ⟨w.heap.size, 1, none⟩ (.slice FA fl FC)) w.heap.size 26 #[.slice NA nl NC, .slice FA fl FC] := hB2
                  clear hB2 hone
                  generalize (w5.setCell ⟨w.heap.size, 0, none⟩ (.slice NA nl NC)).setCell ⟨w.heap.size, 1, none⟩ (.slice FA fl FC) = we at *
                  have z0 := hB3.cell 0
                  have z1 := hB3.cell 1
                  simp at z0 z1
                  clear hB3
                  refine bodyPost_ret (v := .tuple #[.agg #[.slice NA nl NC, .slice FA fl FC], .int .i64 0, .int .i64 0]) (by simp [results, Tryz.results25, go_sem, z0, z1]) rfl ⟨by rw [HR2.out]; exact ⟨_, _, lvs, pvs, rfl, TR3.out⟩, F2.out⟩
          · rw [if_neg hk] at hr
            simp only [Option.bind_eq_some_iff] at hr
            obtain ⟨fs, hfs, hr⟩ := hr
            have hle := nodes_le (fns_ext _ _ _ _ hr)
            have HN2 := hid (show fs.2.nodes.length + 20 * k + 40 ≤ 1000000 by have := HN.out; have := HFU.out; have := HK.out; omega)
            have HKI := hid (show pKind ts 0 s' = false by simpa using hk)
            have HFS := hid hfs
            have HR2 := hid hr
            have HB2 := hid (show fns'.length ≤ 40000 by have := HK.out; have := HFU.out; omega)
            have H0 := hid h0
            clear hr hk h0 hfs HR hle
            go_wp2_with fail
            refine (S.out.q.here.kind 0 (b := false) HKI.out).mono ?_
            rintro e w4 ⟨rfl, h4⟩
            have S4 := hid (S.out.to h4)
            clear h4 hg c5 c6 S he he2
            have HFN := qfunc_any SG.out (S4.out.q.here.no (Fr.refl nob w4).drew) H0.out HFS.out HN2.out
            have HFN := hid HFN
            obtain ⟨FA, FC, rfl, hf1, hf2⟩ := S4.out.own.cap
            obtain ⟨m, hm⟩ : ∃ m, fns'.length = m := ⟨_, rfl⟩
            rw [hm] at S4 HB2
            have HMM := hid hm
            have CK := hid (show ∀ wx : World, ∀ v : Value, Blk wx T9 26 #[.slice none 0 0, v] → wx.cell? ⟨T9, 1, none⟩ = some v from fun wx v h1 => by rw [h1.cell 1]; rfl)
            have k0 := CK.out _ _ S4.out.b9
            have HK2 := hid (show 10 * k + 1 ≤ 10 * n0 + 1 by have := HK.out; omega)
            clear hf1 hf2 hm
            go_wp2_with fail
            go_region_law (first
              | (go_simp; go_at_call 51; go_loud (refine HFN.out.mono ?_); go_loud (rintro e w5 ⟨pv, x, rfl, hx, h5, hpo, hpn⟩); go_loud (obtain ⟨PA, PC, rfl, _, _⟩ := hpo.cap); go_loud (have HX5 := hid hx); go_loud (have HPO := hid hpo); go_loud (have S5 := hid (S4.out.to (h5.more HK2.out))); go_loud (have K5 := hid (CK.out _ _ S5.out.b9)); go_loud (have K6 := hid (CK.out _ _ (S5.out.b9.alloc (.cells #[.string (bs fs.1.name), .int .i64 fs.1.line, .slice PA fs.1.params.length PC, .int .i64 fs.1.ret, .int .i64 x] 48)))); have k2 := K5.out; have k3 := K6.out; clear hx h5 hpo hpn)
              | (refine step_append (v := .slice FA m FC) (n := m) (m := 1) (xs := fnCells fns' pvs) (news := [.string (bs fs.1.name), .int .i64 fs.1.line, .slice PA fs.1.params.length PC, .int .i64 fs.1.ret, .int .i64 x]) (by rfl) _ _ (by rfl) TyFn (by rfl) (by rfl) (by have h9 := S5.out.own; rw [HMM.out] at h9; exact h9.alloc _) (Rd.ofBlk (n := 1) (cs := [.string (bs fs.1.name), .int .i64 fs.1.line, .slice PA fs.1.params.length PC, .int .i64 fs.1.ret, .int .i64 x]) (Blk.new _ _ _) rfl (by decide)) (by simp [Value.oneCell']) (by have h9 := HB2.out; omega) (by have h9 := HB2.out; unfold maxLen; omega) ?_; intro A6 c6 w6 ho6 hf6 hv6; go_loud (have S6 := hid (S5.out.app (f := ⟨fs.1.name, fs.1.line, fs.1.params, fs.1.ret, x⟩) HPO.out (by rw [HMM.out]; exact ho6) hf6 hv6)); go_loud (have D6 := hid ((S5.out.b9.alloc (.cells #[.string (bs fs.1.name), .int .i64 fs.1.line, .slice PA fs.1.params.length PC, .int .i64 fs.1.ret, .int .i64 x] 48)).fr hf6 (fun hm => (S5.out.own.alloc (.cells #[.string (bs fs.1.name), .int .i64 fs.1.line, .slice PA fs.1.params.length PC, .int .i64 fs.1.ret, .int .i64 x] 48)).blk_ne (S5.out.b9.alloc (.cells #[.string (bs fs.1.name), .int .i64 fs.1.line, .slice PA fs.1.params.length PC, .int .i64 fs.1.ret, .int .i64 x] 48)) (by decide) hm))); have z0 := CK.out _ _ D6.out; have z1 := D6.out.frozen 1; have z2 := D6.out.lt; clear ho6 hf6 hv6))
            all_goals
              go_wp2_with fail
              go_roundg k
              case measure => omega
              case rel => exact ⟨fns' ++ [fs.1], _, _, fs.2, _, hid (by have := HK.out; rw [List.length_append]; simp; omega), S6, HR2, hid (fun e => by rw [HX5.out e])⟩
end Go.Proofs.YtlbjicjinnnboaaGreatDoor
