/- The reference's heap: Of. -/
import Derived.Test.YtddogcpakefdpaaHeapAB
namespace Go.Proofs.Ytddogcpakefdpaa
open Go.RowKit
set_option linter.unusedVariables false
set_option linter.unusedSimpArgs false

theorem HeapR.setrow {w : World} {yb : Nat} {lv u' : Value} {us : List Value} {M : List (List Int)} {x glv : Nat} {l l' : List Int} (h : HeapR w yb lv us M) (hl : M[x]? = some l) (hlen : l'.length = l.length)
    (hg : blk lv = some glv) (hu : Own w 3 1 u' l'.length (ivs l')) (hnew : ∀ g, blk u' = some g → ¬ footR yb lv us g) : HeapR (w.setCell ⟨glv, x, none⟩ u') yb lv (us.set x u') (M.set x l') := by
  have hx := (List.getElem?_eq_some_iff.1 hl).1
  have hul := h.rows.len
  have e : M[x] = l := by rw [List.getElem?_eq_getElem hx] at hl; injection hl
  have hfl : (M.set x l').flatten.length = M.flatten.length := by
    have := at0_set M x l' hx (by rw [e]; exact hlen) M.length
    rw [at0_all] at this
    rw [← this]
    unfold at0
    rw [List.take_of_length_le (by simp)]
  refine ⟨h.box.far (fun e => h.rows.own.blk_ne h.box (by decide) (e ▸ hg)) _, ⟨?_, h.rows.new, fun k m u hm hku => ⟨?_, fun g _ => Nat.zero_le _⟩⟩, ?_, ?_⟩
  · rw [List.length_set]; exact h.rows.own.store hg _ _
  · rw [List.getElem?_set] at hm hku
    by_cases hk : x = k
    · subst hk
      rw [if_pos rfl, if_pos (by omega)] at hm hku
      injection hm with hm; injection hku with hku
      subst hm; subst hku
      exact hu.far (fun e => hu.blk_ne' h.rows.own (by decide) hg e) _
    · rw [if_neg hk] at hm hku
      have ho := (h.rows.row k m u hm hku).1
      exact ho.far (fun e => ho.blk_ne' h.rows.own (by decide) hg e) _
  · intro i j u v hij hu' hv' g hgu hgv
    rw [List.getElem?_set] at hu' hv'
    by_cases hi : x = i
    · subst hi
      rw [if_pos rfl, if_pos (by omega)] at hu'
      injection hu' with hu'; subst hu'
      rw [if_neg hij] at hv'
      exact hnew g hgu (.inr (.inr ⟨v, List.mem_of_getElem? hv', hgv⟩))
    · rw [if_neg hi] at hu'
      by_cases hj : x = j
      · subst hj
        rw [if_pos rfl, if_pos (by omega)] at hv'
        injection hv' with hv'; subst hv'
        exact hnew g hgv (.inr (.inr ⟨u, List.mem_of_getElem? hu', hgu⟩))
      · rw [if_neg hj] at hv'
        exact h.apart i j u v hij hu' hv' g hgu hgv
  · have := h.most
    unfold cellsN at *
    rw [List.length_set, hfl]; exact this

set_option maxHeartbeats 1600000 in
theorem rof_any (v : Value) (L : List (List Int)) (w : World) (h : RdRows w v L) (hL : ∀ l ∈ L, l.length ≤ 1000000) (hL2 : L.length ≤ 1000000) :
    Calls Try.prog 22 #[v] w fun e w' => Fr nob w w' ∧
      ((¬ okL L ∧ ∃ g, e = .returned (.tuple #[.pointer (some ⟨g, 0, none⟩), .bool false])) ∨
       (okL L ∧ ∃ yb lv us, e = .returned (.tuple #[.pointer (some ⟨yb, 0, none⟩), .bool true]) ∧ HeapR w' yb lv us L ∧ ∀ k, footR yb lv us k → w.heap.size ≤ k)) := by
  obtain ⟨A, c, rfl, hc1, hc2⟩ := h.slice
  have H1 := hid h
  have HL := hid hL
  clear h hL
  generalize hn : L.length = n at *
  have HN := hid hn
  clear hn
  go_enter Try.func22, Try.ntmps22
  go_wp2
  go_loopw [5] (fun i w' => ∃ (k : Nat) (lv : Value) (us : List Value), k ≤ n ∧ i = .int .i64 k ∧ (∀ l ∈ L.take k, l.length ≤ 16) ∧ HeapR w' w.heap.size lv us (L.take k) ∧ Fr nob w w' ∧ (∀ b, footR w.heap.size lv us b → w.heap.size ≤ b)) (fun i _ => n - (intOf i).toNat)
  case atStart =>
    refine ⟨0, .slice none 0 0, [], Nat.zero_le _, rfl, by simp, ⟨Blk.new _ _ _, NewRows.nil _ _, fun i j u v _ hu => by simp at hu, by simp [cellsN]⟩, (Fr.refl _ _).alloc _, ?_⟩
    intro b hb
    rcases hb with h | h | ⟨u, hu, _⟩
    · omega
    · simp [blk] at h
    · simp at hu
  case round =>
    obtain ⟨k, lv, us, hk, rfl, h16, hh, hf, hv⟩ := hrel
    have S16 := hid h16
    have H := hid hh
    have F := hid hf
    have V := hid hv
    have hsz := hf.size
    clear h16 hh hf hv
    by_cases hlt : k < n
    · have hkL : k < L.length := by have := HN.out; omega
      have hl : L[k]? = some L[k] := List.getElem?_eq_getElem hkL
      have hsn : L.take (k + 1) = L.take k ++ [L[k]] := by rw [List.take_succ_eq_append_getElem hkL]
      have htk : (L.take k).length = k := by simp; omega
      obtain ⟨g1, o1, A1, c1, rfl, k0, r1⟩ := H1.out.at_ hl
      have hg1 : g1 < w.heap.size := World.block_lt_of_cell? _ _ k0
      have k1 := (F.out.cell hg1 (fun x => x)).trans k0
      have hml := HL.out _ (List.mem_of_getElem? hl)
      have hno := fun h => okL_no hl h
      have R1 := hid r1
      have SN := hid hsn
      have NO := hid hno
      have TK := hid htk
      clear hsn hno htk hl r1 k0
      generalize L[k] = l at *
      generalize L.take k = K at *
      have hi : (k : Int) < (n : Int) := by omega
      have hi0 : (0 : Int) ≤ (k : Int) := by omega
      by_cases hfit : (l.length : Int) ≤ 16 ∧ (cellsN K : Int) + l.length + 1 ≤ 40
      · have hm := mk_room (L := K) (n := l.length) (by omega) hfit.1 hfit.2
        have hmL : mkL K l.length = K ++ [List.replicate l.length 0] := by unfold mkL; rw [if_pos (by omega)]; simp
        have M := hid hm
        have ML := hid hmL
        have h16' : l.length ≤ 16 := by omega
        clear hm hmL hfit
        go_wp2_with (first | (go_at_call 15; go_must (refine (rmake_any _ _ _ _ l.length _ H.out).mono ?_; rintro e w3 ⟨he, lv3, us3, h3, hv3, hf3⟩; rw [M.out.1, M.out.2.1, TK.out] at he; subst he; rw [ML.out] at h3; have hlo := h3.rows.own; (rw [List.length_append, List.length_singleton, TK.out] at hlo); (obtain ⟨glv, clv, rfl, hclv, hclv2, _, hglt, hlc, hlf⟩ := hlo.one (by omega)); have y0 := h3.box.cell 0; have q0 := hlc k (by omega); have qf := hlf k; have k3 := (hf3.cell (p := ⟨g1, o1 + k, none⟩) (by simp; omega) (fun hp => by (have := V.out _ hp); simp at this; omega)).trans k1; have H3 := hid h3; have V3 := hid hv3; have F3 := hid hf3; clear h3 hv3 hf3 hlc hlf hlo)))
        have hlt3 := H3.out.box.lt
        have hg13 : g1 < w3.heap.size := World.block_lt_of_cell? _ _ k3
        have hki : (k : Int) < (k : Int) + 1 := by omega
        have hki2 : 0 ≤ (k : Int) ∧ (k : Int) < (k : Int) + 1 := by omega
        have hgne : glv ≠ g1 := by
          have := V3.out glv (.inr (.inl (by simp [blk]; omega)))
          have hfs := F.out.size
          rcases this with e | e
          · have := V.out _ e; omega
          · omega
        have hgne2 : glv ≠ w.heap.size := fun e => H3.out.rows.own.blk_ne H3.out.box (by decide) (by rw [← e]; simp [blk]; omega)
        have hw1 : IntKind.i64.wrap ((k : Int) + 1 - 1) = (k : Int) := by rw [Int.add_sub_cancel]; exact IntWalk.i64_in _ (by omega)
        have hw2 : IntKind.i64.wrap (k : Int) = (k : Int) := IntWalk.i64_in _ (by omega)
        go_region_held3 (fun w' => w'.cell? ⟨w.heap.size, 0, none⟩ = some (.slice (some ⟨glv, 0, none⟩) (k + 1) clv) ∧ w'.cell? ⟨g1, o1 + k, none⟩ = some (.slice A1 l.length c1))
          (first | go_keep | exact keep2 hfr4 (by assumption))
          (first
            | (refine step_append (v := .slice (some ⟨w3.heap.size, 0, none⟩) 0 0) (n := 0) (m := l.length) (xs := []) (by rfl) _ _ (by rfl) TyInts (by rfl) (by rfl) (Own.empty _ _ _ _) (R1.out.fr (by decide) ((F.out.trans F3.out (M := fun b => w.heap.size ≤ b) (fun _ _ x => x.elim) (fun b _ h => V.out b h)).alloc _ |>.drew) (fun A c h1 h2 hp => by cases h1; have := R1.out.blk_lt h2; omega)) (ivs_one l) (by omega) (by unfold maxLen; omega) ?_; intro A5 c5 w5 ho5 hf5 hv5; have hfr4 : Fr nob _ w5 := hf5.mono (fun b _ h => by simp [obl, blk] at h); have z0 := (hfr4.cell (p := ⟨glv, k, none⟩) (by simp; omega) (fun x => x)).trans ((World.cell?_alloc_lt _ _ _ hglt).trans q0); have z1 := (hfr4.frozen (p := ⟨glv, k, none⟩) (by simp; omega) (fun x => x)).trans ((World.frozen?_alloc_past _ _ _ hglt).trans qf); have O5 := hid ho5; have F5 := hid hfr4; have V5 := hid hv5; clear ho5 hf5 hv5))
        clear hw1 hw2
        have fr5 := hid ((((Fr.refl nob w3).alloc (.cells #[] 3)).drew).tr F5.out)
        have h5 := H3.out.fr fr5.out (fun _ _ x => x)
        have o5 := O5.out
        simp only [Nat.zero_add, List.nil_append] at o5
        have hset := h5.setrow (x := k) (glv := glv) (l := List.replicate l.length 0) (l' := l) (u' := .slice A5 l.length c5) (by rw [List.getElem?_append_right (by have := TK.out; omega), TK.out]; simp) (by simp) (by simp [blk]; omega) o5 (fun g hg hf => by
          have h6 := H3.out.foot_lt g hf
          rcases V5.out with e | e
          · rw [Nat.zero_add, hg] at e; simp [blk] at e
          · rw [Nat.zero_add, hg] at e; injection e with e; simp at e; omega)
        have hmset : (K ++ [List.replicate l.length (0 : Int)]).set k l = K ++ [l] := by
          rw [List.set_append_right _ _ (by have := TK.out; omega), TK.out]; simp
        rw [hmset] at hset
        have HS := hid hset
        clear hset hmset h5 o5
        go_wp2
        go_roundw
        case rel =>
          have s3 := F3.out.size
          have s5 := fr5.out.size
          refine ⟨k + 1, _, _, by omega, by go_num, ?_, by rw [SN.out]; exact HS.out, ?_, ?_⟩
          · rw [SN.out]
            intro m hm
            rcases List.mem_append.1 hm with h | h
            · exact S16.out m h
            · simp at h; subst h; exact h16'
          · refine ((F.out.trans F3.out (fun _ _ x => x) (fun b hb h => by have := V.out b h; omega)).tr fr5.out).setCell _ _ (fun hb => ?_)
            have := F.out.size
            rcases V3.out glv (.inr (.inl (by simp [blk]; omega))) with e | e
            · have := V.out _ e; simp at hb; omega
            · simp at hb; omega
          · intro b hb
            have := F.out.size
            rcases hb with h | h | ⟨u, hu, h⟩
            · omega
            · rcases V3.out b (.inr (.inl h)) with e | e
              · exact V.out _ e
              · omega
            · rcases List.mem_or_eq_of_mem_set hu with hu | hu
              · rcases V3.out b (.inr (.inr ⟨u, hu, h⟩)) with e | e
                · exact V.out _ e
                · omega
              · subst hu
                rcases V5.out with e | e
                · rw [Nat.zero_add, h] at e; simp [blk] at e
                · rw [Nat.zero_add, h] at e; injection e with e; simp at e; omega
        case measure => simp [intOf]; omega
      · have hm := mk_none (L := K) (n := l.length) (by omega) hfit
        have M1 := hm.2.1
        have M2 := hm.2.2.1
        have M := hid hm
        have NK := hid (NO.out hfit)
        clear hm hfit
        go_wp2_with (first | (go_at_call 15; go_must (refine (rmake_any _ _ _ _ l.length _ H.out).mono ?_; rintro e w3 ⟨he, hn3⟩; rw [M.out.1] at he; subst he; have N3 := hid hn3; clear hn3; generalize mkT K l.length = t at *)))
        go_ret2
        obtain ⟨cv3, ev3, h3, hv3, hf3⟩ := N3.out
        exact ⟨(F.out.trans hf3 (fun _ _ x => x) (fun b hb h => by have := V.out b h; omega)).alloc _, .inl ⟨NK.out, _, rfl⟩⟩
    · go_wp2
      go_ret2
      have hkn : k = L.length := by have := HN.out; omega
      have hh := H.out
      have h16 := S16.out
      rw [hkn, List.take_length] at hh h16
      exact ⟨F.out, .inr ⟨⟨h16, hh.most⟩, w.heap.size, lv, us, rfl, hh, V.out⟩⟩
end Go.Proofs.Ytddogcpakefdpaa
