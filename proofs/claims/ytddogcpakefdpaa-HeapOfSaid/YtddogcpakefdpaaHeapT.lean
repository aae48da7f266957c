/- The program's heap: Lists and Clone. -/
import Derived.Test.YtddogcpakefdpaaHeapS
namespace Go.Proofs.Ytddogcpakefdpaa
open Go.RowKit
set_option linter.unusedVariables false
set_option linter.unusedSimpArgs false

/-- A slice of slices of ints that is owned, from block base on. -/
structure NewRows (base : Nat) (w : World) (v : Value) (us : List Value) (L : List (List Int)) : Prop where
  own : Own w 35 1 v L.length us
  new : ∀ g, blk v = some g → base ≤ g
  row : ∀ (k : Nat) (l : List Int) (u : Value), L[k]? = some l → us[k]? = some u → Own w 3 1 u l.length (ivs l) ∧ ∀ g, blk u = some g → base ≤ g
theorem NewRows.len {base : Nat} {w : World} {v : Value} {us : List Value} {L : List (List Int)} (h : NewRows base w v us L) : us.length = L.length := by have := h.own.len; omega
theorem NewRows.fr {M : Nat → Prop} {base : Nat} {w w' : World} {v : Value} {us : List Value} {L : List (List Int)} (h : NewRows base w v us L) (f : Fr M w w') (hM : ∀ k, M k → k < base) : NewRows base w' v us L :=
  ⟨h.own.fr f (fun g hg hm => by have := h.new g hg; have := hM g hm; omega), h.new, fun k l u hl hu => ⟨(h.row k l u hl hu).1.fr f (fun g hg hm => by have := (h.row k l u hl hu).2 g hg; have := hM g hm; omega), (h.row k l u hl hu).2⟩⟩
theorem NewRows.nil (base : Nat) (w : World) : NewRows base w (.slice none 0 0) [] [] := ⟨Own.nil _ _ _, fun g h => by simp [blk] at h, fun k l u h _ => by simp at h⟩
/-- One row more. -/
theorem NewRows.snoc {base : Nat} {W w' : World} {v v' u : Value} {us : List Value} {L : List (List Int)} {l : List Int} (h : NewRows base W v us L) (hu : Own W 3 1 u l.length (ivs l)) (hun : ∀ g, blk u = some g → base ≤ g)
    (ho : Own w' 35 1 v' (L.length + 1) (us ++ [u])) (hf : Fr (obl (blk v)) W w') (hv : blk v' = blk v ∨ blk v' = some W.heap.size) (hb : base ≤ W.heap.size) : NewRows base w' v' (us ++ [u]) (L ++ [l]) := by
  refine ⟨by simpa using ho, fun g hg => ?_, fun k m x hm hx => ?_⟩
  · rcases hv with e | e
    · exact h.new g (e ▸ hg)
    · rw [hg] at e; injection e with e; omega
  · have hlen := h.len
    have kept : ∀ {n : Nat} {y : Value} {xs : List Value}, Own W 3 1 y n xs → Own w' 3 1 y n xs := fun hy => hy.fr hf (fun g hg e => hy.blk_ne' h.own (by decide) e hg)
    by_cases hk : k < L.length
    · rw [List.getElem?_append_left hk] at hm
      rw [List.getElem?_append_left (by omega)] at hx
      obtain ⟨h1, h2⟩ := h.row k m x hm hx
      exact ⟨kept h1, h2⟩
    · rw [List.getElem?_append_right (by omega)] at hm
      rw [List.getElem?_append_right (by omega), hlen] at hx
      have hk0 : k - L.length = 0 := by
        have := (List.getElem?_eq_some_iff.1 hm).1; simp at this; omega
      rw [hk0] at hm hx
      simp at hm hx
      subst hm; subst hx
      exact ⟨kept hu, hun⟩

theorem sub_rd {hb : Nat} {cv ev : Value} {L : List (List Int)} {w : World} (h : HeapP w hb cv ev L) {k : Nat} (hk : k < L.length) {A' : Option Addr} (hs : Sub cv L (k + 1) A') : Rd w 1 (.slice A' L[k].length L[k].length) L[k].length (ivs L[k]) := by
  have e1 : lenN L ((k : Int) + 1) = L[k].length := by
    unfold lenN; rw [if_pos (by omega)]
    have : ((k : Int) + 1).toNat - 1 = k := by omega
    rw [this]; simp [List.getD, hk]
  have hm := h.most
  have hle := at0_le L (k + 1)
  have hs1 := at0_succ L k hk
  unfold cellsN at hm
  refine ⟨by simp [ivs_length], A', _, rfl, Nat.le_refl _, by unfold maxLen; omega, fun hp => ?_⟩
  obtain ⟨g, c, rfl, hc, rfl⟩ := hs (by omega)
  obtain ⟨g', c', hv, _, _, _, _, hcell, _⟩ := h.cells.one (by omega)
  injection hv with hv; injection hv with hv; injection hv with hv
  subst hv
  refine ⟨_, rfl, rfl, fun j u hu => ?_⟩
  have hj : j < L[k].length := by
    have := (List.getElem?_eq_some_iff.1 hu).1; simpa [ivs_length] using this
  have hf := flat_get L k j hk hj
  have : ((k : Int) + 1).toNat - 1 = k := by omega
  rw [this]
  show w.cell? ⟨g, at0 L k + j, none⟩ = some u
  rw [hcell _ (List.getElem?_eq_some_iff.1 hf).1]
  rw [ivs_get, List.getElem?_eq_getElem hj] at hu
  simp [List.getD, ivs_get, hf]
  simpa using hu

set_option maxHeartbeats 800000 in
theorem lists_any (hb : Nat) (cv ev : Value) (L : List (List Int)) (w : World) (h : HeapP w hb cv ev L) :
    Calls Try.prog 11 #[.pointer (some ⟨hb, 0, none⟩)] w fun e w' => ∃ v us, e = .returned v ∧ NewRows w.heap.size w' v us L ∧ Fr nob w w' := by
  have b1 := h.box.cell 1
  obtain ⟨A, c, rfl, hc, hcm⟩ := h.ends.cap
  have hm := h.most
  unfold cellsN at hm
  have H := hid h
  clear h
  go_enter Try.func11, Try.ntmps11
  go_wp2
  go_loopw [3, 4, 10] (fun l i c w' => ∃ k : Nat, k ≤ L.length ∧ c = .int .i64 k ∧ ∃ us, NewRows w.heap.size w' l us (L.take k) ∧ Fr nob w w') (fun _ _ c _ => L.length - (intOf c).toNat)
  case atStart => exact ⟨0, Nat.zero_le _, rfl, [], NewRows.nil _ _, Fr.refl _ _⟩
  case round =>
    obtain ⟨k, hk, rfl, us, hr, hf⟩ := hrel
    have htk : (L.take k).length = k := by simp; omega
    have hsn : ∀ hlt : k < L.length, L.take (k + 1) = L.take k ++ [L[k]] := fun hlt => by rw [List.take_succ_eq_append_getElem hlt]
    have HT := hid hsn
    have hall : k = L.length → L.take k = L := fun h => by rw [h, List.take_length]
    have HA := hid hall
    clear hsn hall
    generalize L.take k = Lk at *
    subst htk
    obtain ⟨A1, c1, rfl, hc1, hcm1⟩ := hr.own.cap
    have R := hid hr
    have F := hid hf
    clear hr hf
    by_cases hlt : Lk.length < L.length
    · have hlb : L[Lk.length].length ≤ 40 := by
        have := at0_le L (Lk.length + 1); have := at0_succ L Lk.length hlt; omega
      have hlen1 : ∀ A', Sub (cv) L ((Lk.length : Int) + 1) A' → Rd wr 1 (.slice A' (lenN L ((Lk.length : Int) + 1)) (lenN L ((Lk.length : Int) + 1))) L[Lk.length].length (ivs L[Lk.length]) := by
        intro A' hs
        have e1 : lenN L ((Lk.length : Int) + 1) = L[Lk.length].length := by
          unfold lenN; rw [if_pos (by omega)]
          have : ((Lk.length : Int) + 1).toNat - 1 = Lk.length := by omega
          rw [this]; simp [List.getD, hlt]
        rw [e1]
        exact sub_rd (H.out.fr F.out (fun _ _ x => x)) hlt hs
      have HR := hid hlen1
      have HT2 := hid (HT.out hlt)
      clear hlen1
      generalize L[Lk.length] = x at *
      have hl40 : Lk.length ≤ 40 := by omega
      go_wp2_with (first | (go_at_call 24; refine (list_any hb _ _ L ((Lk.length : Int) + 1) _ (H.out.fr F.out (fun _ _ x => x))).mono ?_; rintro e w1 ⟨⟨A', rfl, hs⟩, rfl⟩; have S := hid hs; clear hs) | (go_at_call 23; refine (clone_any _ _ x _ (HR.out _ S.out) (by omega)).mono ?_; rintro e w2 ⟨A2, c2, rfl, hn⟩; have N2 := hid hn; have hsz := hn.fr.size; clear hn) | (at_builtin; refine wpList_append (v := .slice A1 Lk.length c1) (m := 1) (news := [.slice A2 x.length c2]) rfl _ _ rfl TyRows rfl rfl ((R.out.own.fr N2.out.fr (fun _ _ x => x)).alloc _) (Rd.ofBlk (n := 1) (cs := [.slice A2 x.length c2]) (Blk.new _ _ _) rfl (by decide)) (by simp [Value.oneCell']) (by omega) (by unfold maxLen; omega) ?_; intro A3 c3 w3 ho3 hf3 hv3; have O3 := hid ho3; have F3 := hid hf3; have V3 := hid hv3; clear ho3 hf3 hv3))
      go_roundw
      case rel =>
        have fsz := F.out.size
        refine ⟨Lk.length + 1, by omega, by go_num, us ++ [.slice A2 x.length c2], ?_, ?_⟩
        · rw [HT2.out]
          refine NewRows.snoc ((R.out.fr N2.out.fr (fun _ x => x.elim)).fr ((Fr.refl nob w2).alloc _) (fun _ x => x.elim)) (N2.out.own.alloc _) (fun g hg => by have := N2.out.new g hg; omega) O3.out F3.out V3.out (by simp; omega)
        · refine ((F.out.tr N2.out.fr).alloc _).trans F3.out (fun _ _ x => x) (fun g hg hm => ?_)
          have := R.out.new g hm; omega
      case measure => simp [intOf]; omega
    · go_wp2
      go_ret
      have hr := R.out
      rw [HA.out (by omega)] at hr
      have he : Lk.length = L.length := by omega
      exact ⟨_, us, rfl, by rw [he]; exact hr, F.out⟩
end Go.Proofs.Ytddogcpakefdpaa
