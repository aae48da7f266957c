/- The program's heap: New and Make. -/
import Derived.Test.YtddogcpakefdpaaHeapP
namespace Go.Proofs.Ytddogcpakefdpaa
open Go.RowKit
set_option linter.unusedVariables false
set_option linter.unusedSimpArgs false

theorem new_any (w : World) : Calls Try.prog 9 #[] w fun e w' => e = .returned (.pointer (some ⟨w.heap.size, 0, none⟩)) ∧ w' = w.alloc (.cells #[.slice none 0 0, .slice none 0 0] 52) := by
  go_enter Try.func9, Try.ntmps9
  go_wp2
  go_ret
  exact ⟨rfl, rfl⟩

theorem HeapP.new (w : World) : HeapP (w.alloc (.cells #[.slice none 0 0, .slice none 0 0] 52)) w.heap.size (.slice none 0 0) (.slice none 0 0) [] :=
  ⟨Blk.new _ _ _, Own.nil _ _ _, Own.nil _ _ _, fun g h => by simp [blk] at h, by decide⟩

/-- What a change of the heap at hb, whose blocks were F, leaves. -/
def NextP (F : Nat → Prop) (w : World) (hb : Nat) (L' : List (List Int)) (w' : World) : Prop :=
  ∃ cv' ev', HeapP w' hb cv' ev' L' ∧ (∀ k, footP hb cv' ev' k → F k ∨ w.heap.size ≤ k) ∧ Fr F w w'

set_option maxHeartbeats 400000 in
theorem make_size (hb : Nat) (n : Int) (w : World) (hn : n < 0 ∨ 16 < n) :
    Calls Try.prog 10 #[.pointer (some ⟨hb, 0, none⟩), .int .i64 n] w fun e w' => e = .returned (.tuple #[.int .i64 0, .int .i64 7]) ∧ w = w' := by
  rcases (by omega : n < 0 ∨ 0 ≤ n ∧ 16 < n) with h0 | ⟨h0, h1⟩
  all_goals
    go_enter Try.func10, Try.ntmps10
    go_wp2
    go_ret2
    exact ⟨rfl, rfl⟩

set_option maxHeartbeats 400000 in
theorem make_full (hb : Nat) (cv ev : Value) (L : List (List Int)) (n : Int) (w : World) (h : HeapP w hb cv ev L) (h0 : 0 ≤ n) (h1 : n ≤ 16) (h2 : 40 < (cellsN L : Int) + n + 1) :
    Calls Try.prog 10 #[.pointer (some ⟨hb, 0, none⟩), .int .i64 n] w fun e w' => e = .returned (.tuple #[.int .i64 0, .int .i64 4]) ∧ ∃ k, w' = w.drewN k := by
  have b0 := h.box.cell 0
  have b1 := h.box.cell 1
  obtain ⟨A, c, rfl, hc, hcm⟩ := h.ends.cap
  obtain ⟨A', c', rfl, hc', hcm'⟩ := h.cells.cap
  have hmost := h.most
  unfold cellsN at hmost h2
  clear h
  generalize L.flatten.length = N at *
  generalize L.length = M at *
  go_enter Try.func10, Try.ntmps10
  go_wp2
  go_quiet (fail)
  go_wp2
  go_ret2
  exact ⟨rfl, _, rfl⟩

theorem Fr.no_tr {M : Nat → Prop} {w w1 w2 : World} (h1 : Fr nob w w1) (h2 : Fr M w1 w2) : Fr M w w2 := (h1.ofNo).tr h2

theorem make_end {hb N M n c c' c1 c2 : Nat} {A A' A1 A2 : Option Addr} {L : List (List Int)} {w v1 w1 w2 W w3 : World}
    (HN : L.flatten.length = N) (HM : L.length = M)
    (Hb : Blk w hb 52 #[.slice A' N c', .slice A M c]) (Hc : Own w 3 1 (.slice A' N c') N (ivs L.flatten)) (He : Own w 3 1 (.slice A M c) M (ivs (endsOf L)))
    (Ha : ∀ g, blk (.slice A' N c') = some g → blk (.slice A M c) ≠ some g) (h2 : M + N + n + 1 ≤ 40)
    (hv : Fr nob w v1) (O1 : Own w1 3 1 (.slice A1 (N + n) c1) (N + n) (ivs L.flatten ++ List.replicate n (.int .i64 0))) (F1 : Fr (obl (blk (.slice A' N c'))) v1 w1)
    (V1 : blk (.slice A1 (N + n) c1) = blk (.slice A' N c') ∨ blk (.slice A1 (N + n) c1) = some v1.heap.size)
    (W2 : w1.setCell ⟨hb, 0, none⟩ (.slice A1 (N + n) c1) = w2) (hW : Fr nob w2 W)
    (O2 : Own w3 3 1 (.slice A2 (M + 1) c2) (M + 1) (ivs (endsOf L) ++ [.int .i64 ((N : Int) + (n : Int))])) (F2 : Fr (obl (blk (.slice A M c))) W w3)
    (V2 : blk (.slice A2 (M + 1) c2) = blk (.slice A M c) ∨ blk (.slice A2 (M + 1) c2) = some W.heap.size) :
    NextP (footP hb (.slice A' N c') (.slice A M c)) w hb (L ++ [List.replicate n 0]) (w3.setCell ⟨hb, 1, none⟩ (.slice A2 (M + 1) c2)) := by
  have s1 := hv.size
  have s2 := F1.size
  have s3 : w2.heap.size = w1.heap.size := by rw [← W2]; simp
  have s4 := hW.size
  have s5 := F2.size
  have lb := Hb.lt
  have nc : blk (.slice A' N c') ≠ some hb := Hc.blk_ne Hb (by decide)
  have ne : blk (.slice A M c) ≠ some hb := He.blk_ne Hb (by decide)
  have b1 : Blk w1 hb 52 #[.slice A' N c', .slice A M c] := (Hb.fr hv (fun x => x)).fr F1 nc
  have b2 : Blk w2 hb 52 #[.slice A1 (N + n) c1, .slice A M c] := by rw [← W2]; exact b1.setCell 0 _
  have b3 : Blk w3 hb 52 #[.slice A1 (N + n) c1, .slice A M c] := (b2.fr hW (fun x => x)).fr F2 ne
  have o1n : blk (.slice A1 (N + n) c1) ≠ some hb := O1.blk_ne b1 (by decide)
  have o1e : ∀ g, blk (.slice A1 (N + n) c1) = some g → blk (.slice A M c) ≠ some g := by
    intro g hg he
    rcases V1 with h | h
    · exact Ha g (h ▸ hg) he
    · have := He.blk_lt he
      rw [hg] at h; injection h with h; omega
  have o2 : Own w2 3 1 (.slice A1 (N + n) c1) (N + n) (ivs L.flatten ++ List.replicate n (.int .i64 0)) := by rw [← W2]; exact O1.far o1n _
  have o3 : Own w3 3 1 (.slice A1 (N + n) c1) (N + n) (ivs L.flatten ++ List.replicate n (.int .i64 0)) := (o2.fr hW (fun _ _ x => x)).fr F2 (fun g hg h => o1e g hg h)
  have o2n : blk (.slice A2 (M + 1) c2) ≠ some hb := O2.blk_ne b3 (by decide)
  have fl : (L ++ [List.replicate n (0 : Int)]).flatten = L.flatten ++ List.replicate n 0 := by simp
  have fe : endsOf (L ++ [List.replicate n (0 : Int)]) = endsOf L ++ [((N : Int) + (n : Int))] := by rw [endsOf_append, HN, List.length_replicate]; simp
  refine ⟨_, _, ⟨b3.setCell 1 _, ?_, ?_, ?_, ?_⟩, ?_, ?_⟩
  · rw [fl, ivs_append, ivs_replicate, List.length_append, List.length_replicate, HN]
    exact o3.far o1n _
  · rw [fe, ivs_append, List.length_append, HM]
    exact O2.far o2n _
  · intro g hg he
    rcases V2 with h | h
    · exact o1e g hg (h ▸ he)
    · have := O1.blk_lt hg
      rw [he] at h; injection h with h; omega
  · unfold cellsN; rw [fl]; simp only [List.length_append, List.length_replicate, List.length_singleton]; omega
  · intro k hk
    rcases hk with h | h | h
    · exact .inl (.inl h)
    · rcases V1 with h' | h'
      · exact .inl (.inr (.inl (h' ▸ h)))
      · rw [h] at h'; injection h' with h'; exact .inr (by omega)
    · rcases V2 with h' | h'
      · exact .inl (.inr (.inr (h' ▸ h)))
      · rw [h] at h'; injection h' with h'; exact .inr (by omega)
  · have f1 : Fr (footP hb (.slice A' N c') (.slice A M c)) w w1 := hv.no_tr (F1.mono (fun k _ h => .inr (.inl h)))
    have f2 : Fr (footP hb (.slice A' N c') (.slice A M c)) w w2 := by rw [← W2]; exact f1.setCell _ _ (fun _ => .inl rfl)
    have f3 : Fr (footP hb (.slice A' N c') (.slice A M c)) w w3 := (f2.tr hW.ofNo).tr (F2.mono (fun k _ h => .inr (.inr h)))
    exact f3.setCell _ _ (fun _ => .inl rfl)

set_option maxHeartbeats 800000 in
theorem make_yes (hb : Nat) (cv ev : Value) (L : List (List Int)) (n : Nat) (w : World) (h : HeapP w hb cv ev L) (h1 : n ≤ 16) (h2 : cellsN L + n + 1 ≤ 40) :
    Calls Try.prog 10 #[.pointer (some ⟨hb, 0, none⟩), .int .i64 n] w fun e w' => e = .returned (.tuple #[.int .i64 (L.length + 1 : Nat), .int .i64 0]) ∧ NextP (footP hb cv ev) w hb (L ++ [List.replicate n 0]) w' := by
  have b0 := h.box.cell 0
  have b1 := h.box.cell 1
  obtain ⟨A, c, rfl, hc, hcm⟩ := h.ends.cap
  obtain ⟨A', c', rfl, hc', hcm'⟩ := h.cells.cap
  have hcells := h.cells
  have hends := h.ends
  have hapart := h.apart
  have hbox := h.box
  unfold cellsN at h2
  have Hb := hid hbox
  have Hc := hid hcells
  have He := hid hends
  have Ha := hid hapart
  clear h hcells hends hapart hbox
  generalize hN : L.flatten.length = N at *
  generalize hM : L.length = M at *
  have HM := hid hM
  have HN := hid hN
  clear hN hM
  have hi1 : (n : Int) ≤ 16 := by omega
  have hi2 : decide (40 < (M : Int) + (N : Int) + (n : Int) + 1) = false := by simp; omega
  go_enter Try.func10, Try.ntmps10
  go_wp2
  go_quiet (fail)
  go_wp2_with (at_builtin; refine wpList_append_made (v := .slice A' N c') (n := N) (m := n) (xs := ivs L.flatten) under_int rfl _ _ rfl TyInts rfl rfl (Hc.out.drewN _) (by omega) (by omega) ?_; intro A1 c1 w1 ho1 hf1 hv1; have G1 := hid ((Hb.out.drewN nq).fr hf1 (fun e => Hc.out.blk_ne Hb.out (by decide) e)); have G2 := hid ((He.out.drewN nq).fr hf1 (fun g hg e => Ha.out g e hg)); have O1 := hid ho1; have F1 := hid hf1; have V1 := hid hv1; have i0 := G1.out.cell 0; have f0 := G1.out.frozen 0; clear b0 b1 ho1 hf1 hv1)
  generalize hw2 : w1.setCell _ _ = w2
  have q1 : Blk w2 hb 52 #[.slice A1 (N + n) c1, .slice A M c] := by rw [← hw2]; exact G1.out.setCell 0 _
  have q2 : Own w2 3 1 (.slice A M c) M (ivs (endsOf L)) := by rw [← hw2]; exact G2.out.far (fun e => G2.out.blk_ne G1.out (by decide) e) _
  have hlt := q1.lt
  have Q2 := hid q2
  have W2 := hid hw2
  have Q1 := hid q1
  have j0 := q1.cell 0
  have j1 := q1.cell 1
  have f1 := q1.frozen 1
  clear i0 f0 q2 hw2 q1
  go_region_law (refine step_append (v := .slice A M c) (by rfl) _ _ (by rfl) TyInts (by rfl) (by rfl) (Q2.out.alloc _) (Rd.ofBlk (n := 1) (cs := [.int .i64 ((N + n : Nat) : Int)]) (Blk.new _ _ _) rfl (by decide)) (by simp [Value.oneCell']) (by omega) (by unfold maxLen; omega) ?_; intro A2 c2 w3 ho2 hf2 hv2; have Z := hid (((Q1.out.alloc (.cells #[.int .i64 ((N : Int) + (n : Int))] 3)).drewN 1).fr hf2 (fun e => Q2.out.blk_ne Q1.out (by decide) e)); have k0 := Z.out.cell 0; have k1 := Z.out.cell 1; have f3 := Z.out.frozen 1; have O2 := hid ho2; have F2 := hid hf2; have V2 := hid hv2; clear ho2 hf2 hv2)
  all_goals
    go_wp2
    go_ret2
    refine ⟨rfl, ?_⟩
    exact make_end HN.out HM.out Hb.out Hc.out He.out Ha.out h2 ((Fr.refl _ _).drewN _) O1.out F1.out V1.out W2.out (((Fr.refl _ _).drewN _).alloc _) O2.out F2.out V2.out
end Go.Proofs.Ytddogcpakefdpaa
