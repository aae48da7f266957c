/- The program's heap: Of. -/
import Derived.Test.YtddogcpakefdpaaHeapAA
import Derived.Test.YtddogcpakefdpaaMemCopy
import Derived.Test.YtddogcpakefdpaaHeapKeepsZ
namespace Go.Proofs.Ytddogcpakefdpaa
open Go.RowKit
set_option linter.unusedVariables false
set_option linter.unusedSimpArgs false

/-- Lists that may be. -/
def okL (L : List (List Int)) : Prop := (∀ l ∈ L, l.length ≤ 16) ∧ cellsN L ≤ 40
theorem cellsN_append (A : List (List Int)) (l : List Int) : cellsN (A ++ [l]) = cellsN A + l.length + 1 := by
  unfold cellsN; rw [List.flatten_append, List.length_append, List.length_append]; simp; omega
theorem cellsN_le (A B : List (List Int)) : cellsN A ≤ cellsN (A ++ B) := by
  unfold cellsN; rw [List.flatten_append, List.length_append, List.length_append]; omega
theorem okL_no {L : List (List Int)} {k : Nat} {l : List Int} (hl : L[k]? = some l) (h : ¬ ((l.length : Int) ≤ 16 ∧ (cellsN (L.take k) : Int) + l.length + 1 ≤ 40)) : ¬ okL L := by
  intro ⟨h1, h2⟩
  have a := h1 l (List.mem_of_getElem? hl)
  have hk := (List.getElem?_eq_some_iff.1 hl).1
  have e : L[k] = l := by rw [List.getElem?_eq_getElem hk] at hl; injection hl
  have b := cellsN_le (L.take (k + 1)) (L.drop (k + 1))
  rw [List.take_append_drop, List.take_succ_eq_append_getElem hk, cellsN_append, e] at b
  omega

theorem HeapP.fill {w w' : World} {hb : Nat} {cv ev : Value} {K : List (List Int)} {n : Nat} {l : List Int} (h : HeapP w hb cv ev (K ++ [List.replicate n 0])) (hl : l.length = n) {xs : List Value} (hx : xs = ivs (K ++ [List.replicate n (0 : Int)]).flatten)
    (ho : Own w' 3 1 cv (K ++ [List.replicate n (0 : Int)]).flatten.length (xs.take K.flatten.length ++ (ivs l ++ xs.drop (K.flatten.length + n)))) (hf : Fr (obl (blk cv)) w w') : HeapP w' hb cv ev (K ++ [l]) := by
  have fl : ∀ m : List Int, (K ++ [m]).flatten = K.flatten ++ m := fun m => by simp
  have e1 : xs.take K.flatten.length ++ (ivs l ++ xs.drop (K.flatten.length + n)) = ivs (K ++ [l]).flatten := by
    rw [hx, fl, fl, ivs_append, ivs_append, List.take_left' (ivs_length _), List.drop_of_length_le (by simp [ivs_length]), List.append_nil]
  have e2 : (K ++ [List.replicate n (0 : Int)]).flatten.length = (K ++ [l]).flatten.length := by rw [fl, fl]; simp [hl]
  have e3 : endsOf (K ++ [List.replicate n (0 : Int)]) = endsOf (K ++ [l]) := by rw [endsOf_append, endsOf_append]; simp [hl]
  have e4 : (K ++ [List.replicate n (0 : Int)]).length = (K ++ [l]).length := by simp
  refine ⟨h.box.fr hf (fun e => h.cells.blk_ne h.box (by decide) e), ?_, ?_, h.apart, ?_⟩
  · rw [← e1, ← e2]; exact ho
  · rw [← e3, ← e4]; exact h.ends.fr hf (fun g hg e => h.apart g e hg)
  · have := h.most
    rw [cellsN_append] at *; simp at this; omega

theorem Rd.blk_lt {w : World} {A : Addr} {n c : Nat} {xs : List Value} (h : Rd w 1 (.slice (some A) n c) n xs) (hn : 0 < n) : A.block < w.heap.size := by
  obtain ⟨hl, A', c', hv, _, _, h3⟩ := h
  injection hv with hA _ _
  obtain ⟨ad, he, _, hc⟩ := h3 hn
  rw [he] at hA; injection hA with hA; subst hA
  have := World.block_lt_of_cell? _ _ (hc 0 _ (List.getElem?_eq_getElem (by omega)))
  exact this

set_option maxHeartbeats 1600000 in
theorem pof_any (v : Value) (L : List (List Int)) (w : World) (h : RdRows w v L) (hL : ∀ l ∈ L, l.length ≤ 1000000) (hL2 : L.length ≤ 1000000) :
    Calls Try.prog 21 #[v] w fun e w' => Fr nob w w' ∧
      ((¬ okL L ∧ e = .returned (.tuple #[.pointer none, .bool false])) ∨
       (okL L ∧ ∃ hb cv ev, e = .returned (.tuple #[.pointer (some ⟨hb, 0, none⟩), .bool true]) ∧ HeapP w' hb cv ev L ∧ ∀ k, footP hb cv ev k → w.heap.size ≤ k)) := by
  obtain ⟨A, c, rfl, hc1, hc2⟩ := h.slice
  have H1 := hid h
  have HL := hid hL
  clear h hL
  generalize hn : L.length = n at *
  have HN := hid hn
  clear hn
  go_enter Try.func21, Try.ntmps21
  go_wp2_with (go_at_call 9; refine (new_any _).mono ?_; rintro e w2 ⟨rfl, hw⟩; have H2 := hid (HeapP.new w); rw [← hw] at H2; have W2 := hid hw; clear hw)
  go_loopw [12] (fun i w' => ∃ (k : Nat) (cv ev : Value), k ≤ n ∧ i = .int .i64 k ∧ (∀ l ∈ L.take k, l.length ≤ 16) ∧ HeapP w' w.heap.size cv ev (L.take k) ∧ Fr nob w w' ∧ (∀ b, footP w.heap.size cv ev b → w.heap.size ≤ b)) (fun i _ => n - (intOf i).toNat)
  case atStart =>
    refine ⟨0, .slice none 0 0, .slice none 0 0, Nat.zero_le _, rfl, by simp, by simpa using H2.out, ?_, ?_⟩
    · rw [W2.out]; exact (Fr.refl _ _).alloc _
    · intro b hb
      rcases hb with h | h | h
      · omega
      · simp [blk] at h
      · simp [blk] at h
  case round =>
    obtain ⟨k, cv, ev, hk, rfl, h16, hh, hf, hv⟩ := hrel
    have S16 := hid h16
    have H := hid hh
    have F := hid hf
    have V := hid hv
    have hsz := hf.size
    clear h16 hh hf hv
    by_cases hlt : k < n
    · have hkL : k < L.length := by have := HN.out; omega
      have hl : L[k]? = some L[k] := List.getElem?_eq_getElem hkL
      have hsn : L.take (k + 1) = L.take k ++ [L[k]] := by rw [List.take_succ_eq_append_getElem hkL]
      have htk : (L.take k).length = k := by simp; omega
      obtain ⟨g1, o1, A1, c1, rfl, k0, r1⟩ := H1.out.at_ hl
      have k1 := (F.out.cell (World.block_lt_of_cell? _ _ k0) (fun x => x)).trans k0
      clear k0
      have hml := HL.out _ (List.mem_of_getElem? hl)
      have hno := fun h => okL_no hl h
      have R1 := hid r1
      have SN := hid hsn
      have NO := hid hno
      have TK := hid htk
      clear hsn hno htk hl r1
      generalize L[k] = l at *
      generalize L.take k = K at *
      have hi : (k : Int) < (n : Int) := by omega
      have hi0 : (0 : Int) ≤ (k : Int) := by omega
      by_cases hfit : (l.length : Int) ≤ 16 ∧ (cellsN K : Int) + l.length + 1 ≤ 40
      · have hm := mk_room (L := K) (n := l.length) (by omega) hfit.1 hfit.2
        have hmL : mkL K l.length = K ++ [List.replicate l.length 0] := by unfold mkL; rw [if_pos (by omega)]; simp
        have hfl : (K ++ [List.replicate l.length (0 : Int)]).flatten.length = K.flatten.length + l.length := by simp
        have hat : at0 (K ++ [List.replicate l.length (0 : Int)]) K.length = K.flatten.length := by rw [at0_append _ _ _ (Nat.le_refl _), at0_all]
        have hln : lenN (K ++ [List.replicate l.length (0 : Int)]) ((k : Int) + 1) = l.length := by
          have := TK.out
          unfold lenN; rw [if_pos (by simp; omega)]
          have : ((k : Int) + 1).toNat - 1 = K.length := by omega
          rw [this]; simp [List.getD]
        have M := hid hm
        have ML := hid hmL
        have FL := hid hfl
        have AT := hid hat
        have LN := hid hln
        have h16' : l.length ≤ 16 := by omega
        clear hm hmL hfl hat hln hfit
        go_wp2_with (first | (go_at_call 10; go_must (refine (make_any _ _ _ _ l.length _ H.out).mono ?_; rintro e w3 ⟨he, cv3, ev3, h3, hv3, hf3⟩; rw [M.out.1, M.out.2.1, TK.out] at he; subst he; rw [ML.out] at h3; have H3 := hid h3; have V3 := hid hv3; have F3 := hid hf3; clear h3 hv3 hf3)) | (go_at_call 24; go_must (refine (list_any _ _ _ _ ((k : Int) + 1) _ H3.out).mono ?_; rintro e w' ⟨⟨A4, rfl, hs⟩, rfl⟩; rw [LN.out]; have S4 := hid hs; clear hs)) | (refine wpList_copy rfl (.tmp 27) (.tmp 28) rfl TyInts _ _ _ _ rfl rfl H3.out.cells K.flatten.length (by rw [FL.out]; omega) (fun hp => ?h2) ((R1.out.no (by decide) F.out).fr (by decide) F3.out (fun A c h1 h2 hp => by cases h1; have := R1.out.blk_lt h2; have := V.out _ hp; omega)) (ivs_one l) ?_; rotate_left; intro w5 ho5 hf5; have O5 := hid ho5; have F5 := hid hf5; clear ho5 hf5))
        rotate_left
        · rename_i hp
          obtain ⟨gx, cx, hcx, h0, hA⟩ := S4.out (by rw [LN.out]; exact hp)
          refine ⟨gx, by rw [hcx]; simp [blk]; omega, ?_⟩
          have : ((k : Int) + 1).toNat - 1 = K.length := by have := TK.out; omega
          rw [hA, this, AT.out]
        go_roundw
        case rel =>
          refine ⟨k + 1, cv3, ev3, by omega, by go_num, ?_, by rw [SN.out]; exact H3.out.fill rfl rfl O5.out F5.out, ?_, ?_⟩
          · rw [SN.out]
            intro m hm
            rcases List.mem_append.1 hm with h | h
            · exact S16.out m h
            · simp at h; subst h; exact h16'
          · refine (F.out.trans F3.out (fun _ _ x => x) (fun b hb h => by have := V.out b h; omega)).trans F5.out (fun _ _ x => x) (fun b hb h => ?_)
            rcases V3.out b (.inr (.inl h)) with h2 | h2
            · have := V.out b h2; omega
            · omega
          · intro b hb
            rcases V3.out b hb with h2 | h2
            · exact V.out b h2
            · omega
        case measure => simp [intOf]; omega
      · have hm := mk_none (L := K) (n := l.length) (by omega) hfit
        have M1 := hm.2.1
        have M2 := hm.2.2.1
        have M := hid hm
        have NK := hid (NO.out hfit)
        clear hm hfit
        go_wp2_with (first | (go_at_call 10; go_must (refine (make_any _ _ _ _ l.length _ H.out).mono ?_; rintro e w3 ⟨he, hn3⟩; rw [M.out.1] at he; subst he; have N3 := hid hn3; clear hn3; generalize mkT K l.length = t at *)))
        go_ret2
        obtain ⟨cv3, ev3, h3, hv3, hf3⟩ := N3.out
        exact ⟨F.out.trans hf3 (fun _ _ x => x) (fun b hb h => by have := V.out b h; omega), .inl ⟨NK.out, rfl⟩⟩
    · go_wp2
      go_ret2
      have hkn : k = L.length := by have := HN.out; omega
      have hh := H.out
      have h16 := S16.out
      rw [hkn, List.take_length] at hh h16
      exact ⟨F.out, .inr ⟨⟨h16, hh.most⟩, w.heap.size, cv, ev, rfl, hh, V.out⟩⟩
end Go.Proofs.Ytddogcpakefdpaa
