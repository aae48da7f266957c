/- The program's heap: Put, Len, and slices.Clone. -/
import Derived.Test.YtddogcpakefdpaaHeapR
namespace Go.Proofs.Ytddogcpakefdpaa
open Go.RowKit
set_option linter.unusedVariables false
set_option linter.unusedSimpArgs false

theorem HeapP.put {hb : Nat} {cv ev : Value} {L : List (List Int)} {a i : Int} {w : World} (h : HeapP w hb cv ev L) (ht : thereB L a i = true) (n : Int) {A' : Option Addr} (hs : Sub cv L a A') :
    ∃ g o, A' = some ⟨g, o, none⟩ ∧ (∃ u, w.cell? ⟨g, o + i.toNat, none⟩ = some (.int .i64 u)) ∧ w.frozen? ⟨g, o + i.toNat, none⟩ = false ∧ NextP (footP hb cv ev) w hb (putL L a i n) (w.setCell ⟨g, o + i.toNat, none⟩ (.int .i64 n)) := by
  have hb' := (thereB_iff L a i).1 ht
  obtain ⟨g, c, rfl, hc, rfl⟩ := hs (by omega)
  have hg := there_get L a i ht
  have hlt := (List.getElem?_eq_some_iff.1 hg).1
  obtain ⟨g', c', hv, _, _, _, _, hcell, hfr⟩ := h.cells.one (by omega)
  injection hv with hv; injection hv with hv; injection hv with hv
  subst hv
  have hblk : blk (.slice (some ⟨g, 0, none⟩) L.flatten.length c) = some g := by simp [blk]; omega
  have ht' := ht
  unfold thereB at ht'
  simp only [decide_eq_true_eq] at ht'
  obtain ⟨h1, h2, h3, h4⟩ := ht'
  have hk : a.toNat - 1 < L.length := by omega
  have e : L.getD (a.toNat - 1) [] = L[a.toNat - 1] := by simp [List.getD, hk]
  rw [e] at h4
  have hset := flat_set L (a.toNat - 1) i.toNat n hk (by omega)
  refine ⟨g, _, rfl, ⟨getN L a i, by rw [hcell _ hlt]; simp [List.getD, ivs_get, hg]⟩, hfr _, ?_⟩
  have hput : putL L a i n = L.set (a.toNat - 1) (L[a.toNat - 1].set i.toNat n) := by unfold putL; rw [if_pos ht, e]
  rw [hput]
  refine ⟨_, _, ⟨h.box.far (fun e => h.cells.blk_ne h.box (by decide) (e ▸ hblk)) _, ?_, ?_, h.apart, ?_⟩, fun k hk => .inl hk, (Fr.refl _ w).setCell _ _ (fun _ => .inr (.inl hblk))⟩
  · rw [hset, ivs_set, List.length_set]
    exact h.cells.store hblk _ _
  · rw [endsOf_set L _ _ hk (by simp), List.length_set]
    exact h.ends.far (h.apart g hblk) _
  · have := h.most
    unfold cellsN at *
    rw [hset, List.length_set, List.length_set]; exact this

set_option maxHeartbeats 400000 in
theorem put_any (hb : Nat) (cv ev : Value) (L : List (List Int)) (a i n : Int) (w : World) (h : HeapP w hb cv ev L) :
    Calls Try.prog 12 #[.pointer (some ⟨hb, 0, none⟩), .int .i64 a, .int .i64 i, .int .i64 n] w fun e w' => e = .returned (.int .i64 (trapN L a i)) ∧ NextP (footP hb cv ev) w hb (putL L a i n) w' := by
  have hl := hid (list_any hb cv ev L a w h)
  by_cases ht : thereB L a i = true
  · have hb := (thereB_iff L a i).1 ht
    obtain ⟨j, rfl⟩ : ∃ j : Nat, i = j := ⟨i.toNat, by omega⟩
    have hfin : trapN L a j = 0 := by unfold trapN; rw [if_pos ht]
    rw [hfin]
    have Hp := hid (fun A' hs => h.put ht n (A' := A') hs)
    clear hfin h
    generalize lenN L a = m at *
    have hj1 : (j : Int) < (m : Int) := by omega
    have hj0 : (0 : Int) ≤ (j : Int) := by omega
    clear ht hb
    go_enter Try.func12, Try.ntmps12
    go_wp2_with (go_at_call 24; refine hl.out.mono ?_; rintro e w' ⟨⟨A', rfl, hs⟩, rfl⟩; obtain ⟨g, o, rfl, ⟨u, hc⟩, hf, hn⟩ := Hp.out A' hs; have Hn := hid hn; rw [Int.toNat_natCast] at hc hf; clear hs hn)
    go_ret
    exact ⟨rfl, Hn.out⟩
  · have hf : thereB L a i = false := by simpa using ht
    have hn : ¬ (0 ≤ i ∧ i < (lenN L a : Int)) := fun x => ht ((thereB_iff L a i).2 x)
    have hfin : trapN L a i = 2 ∧ putL L a i n = L := by unfold trapN putL; rw [if_neg ht, if_neg ht]; exact ⟨rfl, rfl⟩
    rw [hfin.1, hfin.2]
    have Hn := hid (NextP.refl h 0)
    clear hfin h ht hf
    generalize lenN L a = m at *
    rcases (by omega : i < 0 ∨ 0 ≤ i ∧ (m : Int) ≤ i) with h0 | ⟨h0, h1⟩
    all_goals
      clear hn
      go_enter Try.func12, Try.ntmps12
      go_wp2_with (go_at_call 24; refine hl.out.mono ?_; rintro e w' ⟨⟨A', rfl, hs⟩, rfl⟩; clear hs)
      go_ret
      exact ⟨rfl, Hn.out⟩

theorem len_any (hb : Nat) (cv ev : Value) (L : List (List Int)) (a : Int) (w : World) (h : HeapP w hb cv ev L) :
    Calls Try.prog 14 #[.pointer (some ⟨hb, 0, none⟩), .int .i64 a] w fun e w' => e = .returned (.int .i64 (lenN L a)) ∧ w = w' := by
  have hl := hid (list_any hb cv ev L a w h)
  clear h
  generalize lenN L a = m at *
  go_enter Try.func14, Try.ntmps14
  go_wp2_with (go_at_call 24; refine hl.out.mono ?_; rintro e w' ⟨⟨A', rfl, hs⟩, rfl⟩; clear hs)
  go_ret
  exact ⟨rfl, rfl⟩

/-- A slice that is new: its own, with nothing of what was there. -/
structure New (w w' : World) (e size : Nat) (v : Value) (n : Nat) (xs : List Value) : Prop where
  own : Own w' e size v n xs
  new : ∀ g, blk v = some g → w.heap.size ≤ g
  fr : Fr nob w w'

set_option maxHeartbeats 400000 in
theorem clone_any (src : Value) (n : Nat) (l : List Int) (w : World) (h : Rd w 1 src n (ivs l)) (hn : n ≤ 1000000) :
    Calls Try.prog 23 #[src] w fun e w' => ∃ A c, e = .returned (.slice A n c) ∧ New w w' 3 1 (.slice A n c) n (ivs l) := by
  have hrd := hid h
  have hw : ∀ w : World, w = w := fun _ => rfl
  obtain ⟨hl, A, c, rfl, h1, h2, h3⟩ := h
  have hq := fun w => Lib.run_eql_slice_nil (P := Try.prog) w 35 3 A n c 0 0 TyInts.ht
  cases A with
  | none =>
    have h0 : n = 0 := by
      rcases Nat.eq_zero_or_pos n with h | h
      · exact h
      · obtain ⟨ad, he, _⟩ := h3 h; cases he
    subst h0
    have hx : l = [] := by simpa [ivs] using hl
    subst hx
    clear h3 hl
    go_enter Try.func23, Try.ntmps23
    go_wp2
    go_ret
    exact ⟨none, 0, rfl, Own.nil _ _ _, fun g h => by simp [blk] at h, Fr.refl _ _⟩
  | some ad =>
    clear h3 hl
    go_enter Try.func23, Try.ntmps23
    go_wp2_with (at_builtin; refine wpList_append (v := .slice (some ⟨w.heap.size, 0, none⟩) 0 0) (n := 0) (m := n) (xs := []) rfl _ _ rfl TyInts rfl rfl (Own.empty _ _ _ _) (hrd.out.no (by decide) ((Fr.refl nob w).alloc _)) (ivs_one l) (by omega) (by unfold maxLen; omega) ?_; intro A1 c1 w1 ho1 hf1 hv1; have O1 := hid ho1; have F1 := hid hf1; have V1 := hid hv1; clear ho1 hf1 hv1)
    go_ret
    have o := O1.out
    have v := V1.out
    simp only [Nat.zero_add, List.nil_append] at o v
    refine ⟨A1, c1, by simp, o, fun g hg => ?_, ?_⟩
    · rcases v with h | h
      · rw [hg] at h; simp [blk] at h
      · rw [hg] at h; injection h with h; simp at h; omega
    · exact ((Fr.refl nob w).alloc _).tr (F1.out.mono (fun k _ h => by simp [obl, blk] at h))
end Go.Proofs.Ytddogcpakefdpaa
