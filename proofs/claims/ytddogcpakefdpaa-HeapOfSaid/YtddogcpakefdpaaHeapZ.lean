/- The reference's heap: Make. -/
import Derived.Test.YtddogcpakefdpaaHeapY
namespace Go.Proofs.Ytddogcpakefdpaa
open Go.RowKit
set_option linter.unusedVariables false
set_option linter.unusedSimpArgs false

theorem run_make_ints (n : Nat) (hn : n ≤ 1000000) : ∃ Z : Array Value, Z.toList = List.replicate n (.int .i64 0) ∧ ∀ w : World,
    (Instr.makeSlice 35 (.int .i64 (n : Int)) (.int .i64 (n : Int))).run Try.prog w = .ok (.slice (some ⟨w.heap.size, 0, none⟩) n n) (w.alloc (.cells Z 3)) := by
  obtain ⟨i, hi, hz, hs, hb⟩ := TyInts.hi
  refine ⟨madeCells #[.int .i64 0] n, toList_madeCells_one _ _, fun w => ?_⟩
  have hr := run_make (P := Try.prog) w 35 3 i (.int .i64 0) TyInts.ht hi hz .i64 .i64 n n (by omega) (Int.le_refl _) (by rw [hb]; omega) (by omega)
  simp only [Int.toNat_natCast, hs, Nat.mul_one] at hr
  exact hr

theorem Blk.new2 (w : World) (X : Obj) (t : TypeId) (cs : Array Value) : Blk ((w.alloc X).alloc (.cells cs t)) (w.heap.size + 1) t cs := by
  have h := Blk.new (w.alloc X) t cs
  rwa [World.size_alloc] at h
theorem HeapR.grow {w W w3 : World} {yb : Nat} {lv lv' : Value} {us : List Value} {L : List (List Int)} {n : Nat} (h : HeapR w yb lv us L) (hm : cellsN L + n + 1 ≤ 40) {Ub : Nat} {Z : Array Value}
    (hZ : Z.toList = List.replicate n (.int .i64 0)) (hW : Fr nob w W) (hb : Blk W Ub 3 Z) (hub : w.heap.size ≤ Ub)
    (O2 : Own w3 35 1 lv' (L.length + 1) (us ++ [.slice (some ⟨Ub, 0, none⟩) n n])) (F2 : Fr (obl (blk lv)) W w3) (V2 : blk lv' = blk lv ∨ blk lv' = some W.heap.size) :
    NextR (footR yb lv us) w yb (L ++ [List.replicate n 0]) (w3.setCell ⟨yb, 0, none⟩ lv') := by
  have s1 := hW.size
  have hu : Own W 3 1 (.slice (some ⟨Ub, 0, none⟩) n n) (List.replicate n (0 : Int)).length (ivs (List.replicate n 0)) := by
    rw [List.length_replicate, ivs_replicate]
    rcases Nat.eq_zero_or_pos n with rfl | hn
    · exact Own.empty _ _ _ _
    · refine ⟨by simp, _, n, rfl, .inr ⟨Ub, Z, rfl, hn, hb, Nat.le_refl _, by unfold maxLen; omega, ?_, ?_⟩⟩
      · have : Z.toList.length = n := by rw [hZ]; simp
        simpa using this
      · rw [hZ]; simp
  have hrows := (h.rows.fr hW (fun _ x => x.elim)).snoc hu (fun _ _ => Nat.zero_le _) O2 F2 V2 (Nat.zero_le _)
  have nl : blk lv ≠ some yb := h.rows.own.blk_ne h.box (by decide)
  have b3 : Blk w3 yb 40 #[lv] := (h.box.fr hW (fun x => x)).fr F2 nl
  have nl' : blk lv' ≠ some yb := O2.blk_ne b3 (by decide)
  have hlen := h.rows.len
  have ubn : ∀ g, blk (.slice (some ⟨Ub, 0, none⟩) n n) = some g → g = Ub := fun g hg => by
    simp [blk] at hg; omega
  have f3 : Fr (footR yb lv us) w w3 := (hW.ofNo (M := footR yb lv us)).tr (F2.mono (fun k _ hk => .inr (.inl hk)))
  have f4 : Fr (footR yb lv us) w (w3.setCell ⟨yb, 0, none⟩ lv') := f3.setCell _ _ (fun _ => .inl rfl)
  have fw3 : Fr (oneb yb) w3 (w3.setCell ⟨yb, 0, none⟩ lv') := (Fr.refl _ _).setCell _ _ (fun _ => rfl)
  refine ⟨lv', us ++ [.slice (some ⟨Ub, 0, none⟩) n n], ⟨b3.setCell 0 _, ⟨hrows.own.far nl' _, hrows.new, fun k l u hl hu' => ⟨?_, fun g _ => Nat.zero_le _⟩⟩, ?_, ?_⟩, ?_, f4⟩
  · have ho := (hrows.row k l u hl hu').1
    exact ho.far (fun e => ho.blk_ne b3 (by decide) e) _
  · intro i j u v hij hu' hv' g hg he
    have hui : i < us.length ∨ i = us.length := by
      have := (List.getElem?_eq_some_iff.1 hu').1; simp at this; omega
    have hvj : j < us.length ∨ j = us.length := by
      have := (List.getElem?_eq_some_iff.1 hv').1; simp at this; omega
    rcases hui with hi | hi <;> rcases hvj with hj | hj
    · rw [List.getElem?_append_left hi] at hu'
      rw [List.getElem?_append_left hj] at hv'
      exact h.apart i j u v hij hu' hv' g hg he
    · rw [List.getElem?_append_left hi] at hu'
      rw [List.getElem?_append_right (by omega), hj] at hv'
      simp at hv'; subst hv'
      have := ubn g he
      have := (h.rows.row i _ u (List.getElem?_eq_getElem (by omega)) hu').1.blk_lt hg
      omega
    · rw [List.getElem?_append_left hj] at hv'
      rw [List.getElem?_append_right (by omega), hi] at hu'
      simp at hu'; subst hu'
      have := ubn g hg
      have := (h.rows.row j _ v (List.getElem?_eq_getElem (by omega)) hv').1.blk_lt he
      omega
    · omega
  · unfold cellsN at *
    rw [List.flatten_append, List.length_append, List.length_append]; simp; simp at hm; omega
  · intro k hk
    rcases hk with hk | hk | ⟨u, hu', hk⟩
    · exact .inl (.inl hk)
    · rcases V2 with e | e
      · exact .inl (.inr (.inl (e ▸ hk)))
      · rw [hk] at e; injection e with e; exact .inr (by omega)
    · rcases List.mem_append.1 hu' with hu2 | hu2
      · exact .inl (.inr (.inr ⟨u, hu2, hk⟩))
      · simp at hu2; subst hu2
        have := ubn k hk
        exact .inr (by omega)

set_option maxHeartbeats 400000 in
theorem rmake_size (yb : Nat) (n : Int) (w : World) (hn : n < 0 ∨ 16 < n) :
    Calls Try.prog 15 #[.pointer (some ⟨yb, 0, none⟩), .int .i64 n] w fun e w' => e = .returned (.tuple #[.int .i64 0, .int .i64 7]) ∧ w = w' := by
  rcases (by omega : n < 0 ∨ 0 ≤ n ∧ 16 < n) with h0 | ⟨h0, h1⟩
  all_goals
    go_enter Try.func15, Try.ntmps15
    go_wp2
    go_ret2
    exact ⟨rfl, rfl⟩

set_option maxHeartbeats 400000 in
theorem rmake_full (yb : Nat) (lv : Value) (us : List Value) (L : List (List Int)) (n : Int) (w : World) (h : HeapR w yb lv us L) (h0 : 0 ≤ n) (h1 : n ≤ 16) (h2 : 40 < (cellsN L : Int) + n + 1) :
    Calls Try.prog 15 #[.pointer (some ⟨yb, 0, none⟩), .int .i64 n] w fun e w' => e = .returned (.tuple #[.int .i64 0, .int .i64 4]) ∧ w = w' := by
  have b0 := h.box.cell 0
  have hmost := h.most
  have hc := hid (cells_any lv L w h.rows.rd (by omega))
  clear h
  generalize cellsN L = N at *
  go_enter Try.func15, Try.ntmps15
  go_wp2_with (go_at_call 25; refine hc.out.mono ?_; rintro e w' ⟨rfl, rfl⟩)
  go_ret2
  exact ⟨rfl, rfl⟩

set_option maxHeartbeats 800000 in
theorem rmake_yes (yb : Nat) (lv : Value) (us : List Value) (L : List (List Int)) (n : Nat) (w : World) (h : HeapR w yb lv us L) (h1 : n ≤ 16) (h2 : cellsN L + n + 1 ≤ 40) :
    Calls Try.prog 15 #[.pointer (some ⟨yb, 0, none⟩), .int .i64 n] w fun e w' => e = .returned (.tuple #[.int .i64 (L.length + 1 : Nat), .int .i64 0]) ∧ NextR (footR yb lv us) w yb (L ++ [List.replicate n 0]) w' := by
  have b0 := h.box.cell 0
  have f0 := h.box.frozen 0
  have hb := h.box.lt
  obtain ⟨A, c, rfl, hcc, hcm⟩ := h.rows.own.cap
  have hmost := h.most
  have hc := hid (cells_any _ L w h.rows.rd (by omega))
  have hll : L.length ≤ 40 := by unfold cellsN at hmost; omega
  have H := hid h
  have HM := hid h2
  clear h
  obtain ⟨Z, hZ, hmk⟩ := run_make_ints n (by omega)
  have HZ := hid hZ
  clear hZ
  have hO := H.out.rows.own
  have HO := hid hO
  clear hO
  have hi1 : (n : Int) ≤ 16 := by omega
  have hi2 : (cellsN L : Int) + (n : Int) + 1 ≤ 40 := by omega
  generalize hN : cellsN L = N at *
  generalize hL : L.length = m at *
  have HN := hid hN
  have HL := hid hL
  clear hN hL
  go_enter Try.func15, Try.ntmps15
  go_wp2_with (go_at_call 25; refine hc.out.mono ?_; rintro e w' ⟨rfl, rfl⟩)
  go_region_law (refine step_append (v := .slice A m c) (n := m) (m := 1) (by rfl) _ _ (by rfl) TyRows (by rfl) (by rfl) (((HO.out.drewN 1).alloc _).alloc _) (Rd.ofBlk (n := 1) (cs := [.slice (some ⟨w.heap.size, 0, none⟩) n n]) (Blk.new2 _ _ _ _) rfl (by decide)) (by simp [Value.oneCell']) (by omega) (by unfold maxLen; omega) ?_; intro A2 c2 w3 ho2 hf2 hv2; have Zb := hid ((((H.out.box.drewN 1).alloc (.cells Z 3)).alloc (.cells #[.slice (some ⟨w.heap.size, 0, none⟩) n n] 35)).fr hf2 (fun e => H.out.rows.own.blk_ne H.out.box (by decide) e)); have k0 := Zb.out.cell 0; have f3 := Zb.out.frozen 0; have O2 := hid ho2; have F2 := hid hf2; have V2 := hid hv2; clear ho2 hf2 hv2)
  all_goals
    go_wp2
    go_ret2
    refine ⟨rfl, ?_⟩
    have hg := H.out.grow (w3 := w3) (lv' := .slice A2 (m + 1) c2) (n := n) (W := ((w.alloc (.cells Z 3)).alloc (.cells #[.slice (some ⟨w.heap.size, 0, none⟩) n n] 35)).drew) (by rw [HN.out]; exact HM.out) (Ub := w.heap.size) HZ.out ((((Fr.refl _ _).alloc _).alloc _).drew) ((Blk.new _ _ _).alloc _) (Nat.le_refl _) (by rw [HL.out]; exact O2.out) F2.out V2.out
    exact hg
end Go.Proofs.Ytddogcpakefdpaa
