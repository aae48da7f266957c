/- The reference's heap: Get, Len, Put and Make. -/
import Derived.Test.YtddogcpakefdpaaHeapX
namespace Go.Proofs.Ytddogcpakefdpaa
open Go.RowKit
set_option linter.unusedVariables false
set_option linter.unusedSimpArgs false

/-- A row of a heap of rows, and a number of it. -/
theorem NewRows.get {base : Nat} {w : World} {A : Option Addr} {n c x : Nat} {us : List Value} {L : List (List Int)} {l : List Int} (h : NewRows base w (.slice A n c) us L) (hl : L[x]? = some l) :
    ∃ g Ax cx, A = some ⟨g, 0, none⟩ ∧ w.cell? ⟨g, x, none⟩ = some (.slice Ax l.length cx) ∧ us[x]? = some (.slice Ax l.length cx) ∧ l.length ≤ cx ∧ cx ≤ maxLen ∧
      ∀ (k : Nat) (v : Int), l[k]? = some v → ∃ gx, Ax = some ⟨gx, 0, none⟩ ∧ w.cell? ⟨gx, k, none⟩ = some (.int .i64 v) ∧ w.frozen? ⟨gx, k, none⟩ = false := by
  have hx := (List.getElem?_eq_some_iff.1 hl).1
  have hlen := h.len
  obtain ⟨g, c', hv, _, _, _, _, hc, _⟩ := h.own.one (by omega)
  injection hv with hA _ _
  subst hA
  have hu : us[x]? = some (us[x]'(by omega)) := List.getElem?_eq_getElem (by omega)
  obtain ⟨ho, _⟩ := h.row x l _ hl hu
  obtain ⟨Ax, cx, hux, h1, h2⟩ := ho.cap
  refine ⟨g, Ax, cx, rfl, ?_, by rw [hu, hux], h1, h2, fun k v hk => ?_⟩
  · rw [hc x hx, ← hux]; simp [List.getD, hu]
  · have hkl := (List.getElem?_eq_some_iff.1 hk).1
    rw [hux] at ho
    obtain ⟨gx, c2, hv2, _, _, _, _, hc2, hf2⟩ := ho.one (by omega)
    injection hv2 with hA2 _ _
    refine ⟨gx, hA2, ?_, hf2 k⟩
    rw [hc2 k hkl]; simp [List.getD, ivs_get, hk]

set_option maxHeartbeats 400000 in
theorem rget_any (yb : Nat) (lv : Value) (us : List Value) (L : List (List Int)) (a i : Int) (w : World) (h : HeapR w yb lv us L) :
    Calls Try.prog 16 #[.pointer (some ⟨yb, 0, none⟩), .int .i64 a, .int .i64 i] w fun e w' => e = .returned (.tuple #[.int .i64 (getN L a i), .int .i64 (trapN L a i)]) ∧ w = w' := by
  have hth := hid (there_any yb lv us L a i w h)
  by_cases ht : thereB L a i = true
  · obtain ⟨x, l, rfl, hl, ⟨y, rfl, hy⟩, hxl⟩ := thereB_lt ht
    have b0 := h.box.cell 0
    obtain ⟨A, c, rfl, hc1, hc2⟩ := h.rows.own.cap
    obtain ⟨g, Ax, cx, rfl, k1, _, _, hcx, hk⟩ := h.rows.get hl
    have hly : l[y]? = some l[y] := List.getElem?_eq_getElem hy
    obtain ⟨gx, rfl, k2, _⟩ := hk y l[y] hly
    have e0 : ((x : Int) + 1).toNat - 1 = x := by omega
    have e1 : getN L (x + 1) y = l[y] := by unfold getN; rw [if_pos ht, e0, getD_of hl]; simp [List.getD, hly]
    have e2 : trapN L (x + 1) y = 0 := by unfold trapN; rw [if_pos ht]
    rw [ht] at hth
    rw [e1, e2]
    have hxi : (x : Int) < (L.length : Int) := by omega
    have hyi : (y : Int) < (l.length : Int) := by omega
    have hxm : (x : Int) ≤ 9223372036854775806 := by unfold maxLen at hc2; omega
    have hx0 : (0 : Int) ≤ (x : Int) := by omega
    have hy0 : (0 : Int) ≤ (y : Int) := by omega
    clear h hl hk hly e0 e1 e2 ht
    generalize l[y] = z at *
    generalize l.length = n at *
    generalize L.length = m at *
    go_enter Try.func16, Try.ntmps16
    go_wp2_with (go_at_call 26; refine hth.out.mono ?_; rintro e w' ⟨rfl, rfl⟩)
    go_ret2
    exact ⟨rfl, rfl⟩
  · have hf : thereB L a i = false := by simpa using ht
    have hfin : getN L a i = 0 ∧ trapN L a i = 2 := by unfold getN trapN; rw [if_neg ht, if_neg ht]; exact ⟨rfl, rfl⟩
    rw [hfin.1, hfin.2]
    rw [hf] at hth
    clear hfin h ht hf
    go_enter Try.func16, Try.ntmps16
    go_wp2_with (go_at_call 26; refine hth.out.mono ?_; rintro e w' ⟨rfl, rfl⟩)
    go_ret2
    exact ⟨rfl, rfl⟩

set_option maxHeartbeats 400000 in
theorem rlen_any (yb : Nat) (lv : Value) (us : List Value) (L : List (List Int)) (a : Int) (w : World) (h : HeapR w yb lv us L) :
    Calls Try.prog 18 #[.pointer (some ⟨yb, 0, none⟩), .int .i64 a] w fun e w' => e = .returned (.int .i64 (lenN L a)) ∧ w = w' := by
  have b0 := h.box.cell 0
  obtain ⟨A, c, rfl, hc1, hc2⟩ := h.rows.own.cap
  have hcap : L.length ≤ 9223372036854775807 := by unfold maxLen at hc2; omega
  by_cases h1 : 1 ≤ a
  · by_cases h2 : a ≤ L.length
    · obtain ⟨x, rfl⟩ : ∃ x : Nat, a = x + 1 := ⟨(a - 1).toNat, by omega⟩
      have hx : x < L.length := by omega
      have hl : L[x]? = some L[x] := List.getElem?_eq_getElem hx
      obtain ⟨g, Ax, cx, rfl, k1, _, _, hcx, hk⟩ := h.rows.get hl
      have e0 : ((x : Int) + 1).toNat - 1 = x := by omega
      have e1 : lenN L (x + 1) = L[x].length := by unfold lenN; rw [if_pos ⟨h1, h2⟩, e0, getD_of hl]
      rw [e1]
      have hxi : (x : Int) < (L.length : Int) := by omega
      clear h hl hk e0 e1
      generalize L[x].length = n at *
      generalize L.length = m at *
      go_enter Try.func18, Try.ntmps18
      go_wp2
      go_ret
      exact ⟨rfl, rfl⟩
    · have e1 : lenN L a = 0 := by unfold lenN; rw [if_neg (by omega)]
      rw [e1]
      clear h e1
      generalize L.length = m at *
      go_enter Try.func18, Try.ntmps18
      go_wp2
      go_ret
      exact ⟨rfl, rfl⟩
  · have e1 : lenN L a = 0 := by unfold lenN; rw [if_neg (by omega)]
    rw [e1]
    clear h e1
    go_enter Try.func18, Try.ntmps18
    go_wp2
    go_ret
    exact ⟨rfl, rfl⟩

/-- A store into a row. -/
theorem HeapR.put {w : World} {yb : Nat} {lv : Value} {us : List Value} {L : List (List Int)} (h : HeapR w yb lv us L) {x y : Nat} {l : List Int} (hl : L[x]? = some l) (hy : y < l.length) (n : Int) {gx nx cx : Nat} (hu : us[x]? = some (.slice (some ⟨gx, 0, none⟩) nx cx)) :
    NextR (footR yb lv us) w yb (L.set x (l.set y n)) (w.setCell ⟨gx, y, none⟩ (.int .i64 n)) := by
  have hx := (List.getElem?_eq_some_iff.1 hl).1
  obtain ⟨ho, _⟩ := h.rows.row x l _ hl hu
  obtain ⟨g, c, hv, hc, _⟩ := ho.one (by omega)
  injection hv with h1 h2 h3
  injection h1 with h1; injection h1 with h1
  subst h1; subst h2; subst h3
  have hblk : blk (.slice (some ⟨gx, 0, none⟩) l.length cx) = some gx := by simp [blk]; omega
  have hum := List.mem_of_getElem? hu
  have hfl : (L.set x (l.set y n)).flatten.length = L.flatten.length := by
    have e : L[x] = l := by rw [List.getElem?_eq_getElem hx] at hl; injection hl
    rw [← e, flat_set L x y n hx (by rw [e]; exact hy), List.length_set]
  refine ⟨lv, us, ⟨h.box.far (fun e => ho.blk_ne h.box (by decide) (e ▸ hblk)) _, ⟨?_, h.rows.new, fun k m u hm hku => ⟨?_, (fun g _ => Nat.zero_le _)⟩⟩, h.apart, ?_⟩, fun k hk => .inl hk, (Fr.refl _ w).setCell _ _ (fun _ => .inr (.inr ⟨_, hum, hblk⟩))⟩
  · rw [List.length_set]
    exact h.rows.own.far (fun e => h.rows.own.blk_ne' ho (by decide) hblk e) _
  · rw [List.getElem?_set] at hm
    split at hm
    · rename_i hk
      subst hk
      try rw [if_pos hx] at hm
      injection hm with hm
      subst hm
      rw [hu] at hku; injection hku with hku; subst hku
      rw [List.length_set, ivs_set]
      exact ho.store hblk _ _
    · rename_i hk
      exact (h.rows.row k m u hm hku).1.far (fun e => h.apart x k _ _ hk hu hku gx hblk e) _
  · have := h.most
    unfold cellsN at *
    rw [List.length_set, hfl]; exact this

set_option maxHeartbeats 400000 in
theorem rput_any (yb : Nat) (lv : Value) (us : List Value) (L : List (List Int)) (a i n : Int) (w : World) (h : HeapR w yb lv us L) :
    Calls Try.prog 17 #[.pointer (some ⟨yb, 0, none⟩), .int .i64 a, .int .i64 i, .int .i64 n] w fun e w' => e = .returned (.int .i64 (trapN L a i)) ∧ NextR (footR yb lv us) w yb (putL L a i n) w' := by
  have hth := hid (there_any yb lv us L a i w h)
  by_cases ht : thereB L a i = true
  · obtain ⟨x, l, rfl, hl, ⟨y, rfl, hy⟩, hxl⟩ := thereB_lt ht
    have b0 := h.box.cell 0
    obtain ⟨A, c, rfl, hc1, hc2⟩ := h.rows.own.cap
    obtain ⟨g, Ax, cx, rfl, k1, hux, _, hcx, hk⟩ := h.rows.get hl
    have hly : l[y]? = some l[y] := List.getElem?_eq_getElem hy
    obtain ⟨gx, rfl, k2, f2⟩ := hk y l[y] hly
    have e0 : ((x : Int) + 1).toNat - 1 = x := by omega
    have e1 : putL L (x + 1) y n = L.set x (l.set y n) := by unfold putL; rw [if_pos ht, e0, getD_of hl]; rfl
    have e2 : trapN L (x + 1) y = 0 := by unfold trapN; rw [if_pos ht]
    rw [ht] at hth
    rw [e1, e2]
    have HF := hid (h.put hl hy n hux)
    have hxi : (x : Int) < (L.length : Int) := by omega
    have hyi : (y : Int) < (l.length : Int) := by omega
    have hxm : (x : Int) ≤ 9223372036854775806 := by unfold maxLen at hc2; omega
    have hx0 : (0 : Int) ≤ (x : Int) := by omega
    have hy0 : (0 : Int) ≤ (y : Int) := by omega
    clear h hl hk hly e0 e1 e2 ht hux
    generalize l[y] = z at *
    generalize l.length = nn at *
    generalize L.length = m at *
    go_enter Try.func17, Try.ntmps17
    go_wp2_with (go_at_call 26; refine hth.out.mono ?_; rintro e w' ⟨rfl, rfl⟩)
    go_ret
    exact ⟨rfl, HF.out⟩
  · have hf : thereB L a i = false := by simpa using ht
    have hfin : trapN L a i = 2 ∧ putL L a i n = L := by unfold trapN putL; rw [if_neg ht, if_neg ht]; exact ⟨rfl, rfl⟩
    rw [hfin.1, hfin.2]
    rw [hf] at hth
    have HF := hid (NextR.refl h 0)
    clear hfin h ht hf
    go_enter Try.func17, Try.ntmps17
    go_wp2_with (go_at_call 26; refine hth.out.mono ?_; rintro e w' ⟨rfl, rfl⟩)
    go_ret
    exact ⟨rfl, HF.out⟩
end Go.Proofs.Ytddogcpakefdpaa
