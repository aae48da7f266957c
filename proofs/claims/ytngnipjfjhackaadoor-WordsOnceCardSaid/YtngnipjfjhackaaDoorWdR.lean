/- Words: Read. -/
import Derived.Test.YtngnipjfjhackaaDoorWdQ
import Derived.Lib.SplitLaws
namespace Go.Proofs.YtngnipjfjhackaaDoor
open Go.RowKit Go.MapKept
set_option linter.unusedVariables false
set_option linter.unusedSimpArgs false
theorem parts_len (s : ByteArray) : (partsB s).length = Lib.countB s ⟨#[32]⟩ + 1 := Lib.splitB_all ⟨#[32]⟩ (by decide) 0 _ s rfl
theorem split_line (s : ByteArray) (hs : s.size ≤ 1000) (w : World) (hv : VarsM w) : Calls Tryd.prog 11 #[.string s, .string ⟨#[32]⟩] w fun e w' =>
    e = .returned (.slice (some ⟨w.heap.size, 0, none⟩) (partsB s).length (partsB s).length) ∧ w' = w.alloc (.cells ((partsB s).map Value.string).toArray 9) := by
  obtain ⟨m, hm⟩ := hv.most
  rw [parts_len]
  exact Tryd.strings_Split s ⟨#[32]⟩ m w (by omega) hm (by decide)
def readR (line : ByteArray) : CmdM × Nat := match readM line with
  | some c => (c, 0)
  | none => (zeroC ⟨#[]⟩, 80)
theorem zero_words (w : World) : (zeroValue 40).run Tryd.prog w = .ok (.slice none 0 0) w := by
  have h : (Tryd.prog.info? 40).map (fun i => i.zero) = some (some (.slice none 0 0)) := by kernel_rfl
  cases hi : Tryd.prog.info? 40 with
  | none => rw [hi] at h; cases h
  | some i =>
    rw [hi] at h
    have hz : i.zero = some (.slice none 0 0) := Option.some.inj h
    simp [zeroValue, typeInfo, hi, hz]
theorem lookup_any {w0 w : World} {b1 b2 b3 b4 r : Nat} {E : Env} (h : SW w0 w b1 b2 b3 b4 r E shapesL) (key : ByteArray) :
    (findS key shapesL = none → (Instr.lookup 42 (.map (some r)) (.string key) true).run Tryd.prog w = .ok (.tuple #[.slice none 0 0, .bool false]) w) ∧
    (∀ ks, findS key shapesL = some ks → ∃ v, (Instr.lookup 42 (.map (some r)) (.string key) true).run Tryd.prog w = .ok (.tuple #[v, .bool true]) w ∧ Own w 47 2 v ks.length (cellsOf E ks)) := by
  obtain ⟨es, c, hm, he⟩ := h.map
  rcases he.find key 0 with ⟨h1, h2⟩ | ⟨ks, j, v, h1, h2, h3⟩
  · refine ⟨fun _ => run_lookup_ok_miss u_map u_strW hm (key := .string key) trivial h2 (zero_words w), fun ks hk => ?_⟩
    rw [h1] at hk; cases hk
  · refine ⟨fun hn => ?_, fun ks' hk => ?_⟩
    · rw [h1] at hn; cases hn
    · rw [h1] at hk
      cases hk
      exact ⟨v, run_lookup_ok_hit u_map u_strW hm (key := .string key) trivial h2, h3⟩
theorem set_cmd {w : World} {g : Nat} {c : CmdM} (h : CmdAt w g c) (v a b : ByteArray) (n t vn : Int) (vs : ByteArray) :
    CmdAt (((((((w.setCell ⟨g, 0, none⟩ (.string v)).setCell ⟨g, 1, none⟩ (.string a)).setCell ⟨g, 2, none⟩ (.string b)).setCell ⟨g, 3, none⟩ (.int .i64 n)).setCell ⟨g, 4, none⟩ (.int .i64 t)).setCell ⟨g, 5, none⟩ (.int .i64 vn)).setCell ⟨g, 6, none⟩ (.string vs)) g ⟨v, a, b, n, t, vn, vs⟩ := by
  obtain ⟨x0, x1, x2, x3, x4, x5, x6⟩ := c
  have e : (((((((cmdC ⟨x0, x1, x2, x3, x4, x5, x6⟩).setIfInBounds 0 (.string v)).setIfInBounds 1 (.string a)).setIfInBounds 2 (.string b)).setIfInBounds 3 (.int .i64 n)).setIfInBounds 4 (.int .i64 t)).setIfInBounds 5 (.int .i64 vn)).setIfInBounds 6 (.string vs) = cmdC ⟨v, a, b, n, t, vn, vs⟩ := by simp [cmdC]
  have h1 := Blk.setCell h 0 (.string v)
  have h2 := Blk.setCell h1 1 (.string a)
  have h3 := Blk.setCell h2 2 (.string b)
  have h4 := Blk.setCell h3 3 (.int .i64 n)
  have h5 := Blk.setCell h4 4 (.int .i64 t)
  have h6 := Blk.setCell h5 5 (.int .i64 vn)
  have h7 := Blk.setCell h6 6 (.string vs)
  rw [e] at h7
  exact h7
theorem set_cmd_fr {w0 w : World} {g : Nat} (h : Fr nob w0 w) (hg : w0.heap.size ≤ g) (v a b : ByteArray) (n t vn : Int) (vs : ByteArray) :
    Fr nob w0 (((((((w.setCell ⟨g, 0, none⟩ (.string v)).setCell ⟨g, 1, none⟩ (.string a)).setCell ⟨g, 2, none⟩ (.string b)).setCell ⟨g, 3, none⟩ (.int .i64 n)).setCell ⟨g, 4, none⟩ (.int .i64 t)).setCell ⟨g, 5, none⟩ (.int .i64 vn)).setCell ⟨g, 6, none⟩ (.string vs)) := by
  have k : ∀ i, (⟨g, i, none⟩ : Addr).block < w0.heap.size → nob g := fun i hl => absurd hl (by show ¬ g < w0.heap.size; omega)
  exact ((((((h.setCell _ _ (k 0)).setCell _ _ (k 1)).setCell _ _ (k 2)).setCell _ _ (k 3)).setCell _ _ (k 4)).setCell _ _ (k 5)).setCell _ _ (k 6)
theorem CmdAt.cells {w : World} {g : Nat} {c : CmdM} (h : CmdAt w g c) : w.cell? ⟨g, 0, none⟩ = some (.string c.verb) ∧ w.cell? ⟨g, 1, none⟩ = some (.string c.a) ∧ w.cell? ⟨g, 2, none⟩ = some (.string c.b) ∧ w.cell? ⟨g, 3, none⟩ = some (.int .i64 c.n) ∧ w.cell? ⟨g, 4, none⟩ = some (.int .i64 c.t) ∧ w.cell? ⟨g, 5, none⟩ = some (.int .i64 c.vn) ∧ w.cell? ⟨g, 6, none⟩ = some (.string c.vs) :=
  ⟨by simpa [cmdC] using h.cell 0, by simpa [cmdC] using h.cell 1, by simpa [cmdC] using h.cell 2, by simpa [cmdC] using h.cell 3, by simpa [cmdC] using h.cell 4, by simpa [cmdC] using h.cell 5, by simpa [cmdC] using h.cell 6⟩
theorem CmdAt.froz {w : World} {g : Nat} {c : CmdM} (h : CmdAt w g c) : w.frozen? ⟨g, 0, none⟩ = false ∧ w.frozen? ⟨g, 1, none⟩ = false ∧ w.frozen? ⟨g, 2, none⟩ = false ∧ w.frozen? ⟨g, 3, none⟩ = false ∧ w.frozen? ⟨g, 4, none⟩ = false ∧ w.frozen? ⟨g, 5, none⟩ = false ∧ w.frozen? ⟨g, 6, none⟩ = false :=
  ⟨h.frozen 0, h.frozen 1, h.frozen 2, h.frozen 3, h.frozen 4, h.frozen 5, h.frozen 6⟩
set_option maxHeartbeats 4000000 in
set_option maxRecDepth 100000 in
theorem read_miss (line v : ByteArray) (ps : List ByteArray) (hl : line.size ≤ 1000) (hp : partsB line = v :: ps) (hk : findS v shapesL = none) (w : World) (hv : VarsM w) :
    Calls Tryd.prog 8 #[.string line] w fun e w' => e = .returned (.tuple #[cmdV (zeroC ⟨#[]⟩), .int .i64 80]) ∧ Fr nob w w' := by
  have HV := hid hv
  obtain ⟨W1, hW1⟩ : ∃ W1, W1 = w.alloc (.cells (cmdC (zeroC ⟨#[]⟩)) 28) := ⟨_, rfl⟩
  have B1 := hid (show Blk W1 w.heap.size 28 (cmdC (zeroC ⟨#[]⟩)) from by rw [hW1]; exact Blk.new w _ _)
  have F1 := hid (show Fr nob w W1 from by rw [hW1]; exact (Fr.refl nob w).alloc _)
  have HS := hid (split_line line hl W1 (hv.fr F1.out))
  rw [hp] at HS
  have HSH := hid (fun wx => shapes_any wx)
  have HK := hid hk
  unfold cmdC zeroC at hW1
  dsimp only at hW1
  clear hv hk hp
  obtain ⟨n, hn⟩ : ∃ n, (v :: ps).length = n + 1 := ⟨ps.length, rfl⟩
  rw [hn] at HS
  clear hn
  go_enter Tryd.func8, Tryd.ntmps8
  go_wp2_with fail
  rw [← hW1]
  clear hW1
  refine HS.out.mono ?_
  rintro e w2 ⟨rfl, rfl⟩
  have SP := hid (Blk.new W1 9 ((v :: ps).map Value.string).toArray)
  have F2 := hid (F1.out.alloc (.cells ((v :: ps).map Value.string).toArray 9))
  have B2 := hid (B1.out.alloc (.cells ((v :: ps).map Value.string).toArray 9))
  generalize hK : W1.heap.size = K at *
  clear hK HS
  generalize W1.alloc _ = w2 at *
  go_wp2_with fail
  have CK := hid (show ∀ wx : World, Fr nob w2 wx → wx.cell? ⟨K, 0, none⟩ = some (.string v) from fun wx f => by simpa using (SP.out.fr f (fun x => x)).cell 0)
  have k0 := CK.out _ (Fr.refl _ _)
  go_region_held3 (fun wx => wx.cell? ⟨K, 0, none⟩ = some (.string v)) (first | exact KN.out | go_keep)
    (first
      | (go_at_call 12; go_loud (refine (HSH.out _).mono ?_); go_loud (rintro e w3 ⟨b1, b2, b3, b4, r, E, rfl, hS⟩); go_loud (have F3 := hid ((Fr.refl nob w2).drew.tr hS.fr)); go_loud (have KN := hid (CK.out _ F3.out)); have LK := (lookup_any hS v).1 HK.out; have G3 := hid hS.fr; clear hS))
  have B3 := hid (B2.out.fr ((Fr.refl nob w2).drew.tr G3.out) (fun x => x))
  have F4 := hid (F2.out.tr F3.out)
  clear LK k0 CK KN G3 F3 SP B2 F2 B1 F1 HSH HK
  obtain ⟨r0, r1, r2, r3, r4, r5, r6⟩ := CmdAt.froz (c := zeroC ⟨#[]⟩) B3.out
  obtain ⟨c0, c1, c2, c3, c4, c5, c6⟩ := CmdAt.cells (c := zeroC ⟨#[]⟩) B3.out
  dsimp only [zeroC] at c0 c1 c2 c3 c4 c5 c6
  go_wp2_with fail
  have BF := hid (set_cmd (c := zeroC ⟨#[]⟩) B3.out ⟨#[]⟩ ⟨#[]⟩ ⟨#[]⟩ 0 0 0 ⟨#[]⟩)
  have FF := hid (set_cmd_fr F4.out (Nat.le_refl _) ⟨#[]⟩ ⟨#[]⟩ ⟨#[]⟩ 0 0 0 ⟨#[]⟩)
  clear c0 c1 c2 c3 c4 c5 c6 r0 r1 r2 r3 r4 r5 r6
  generalize ((((((w3.setCell _ _).setCell _ _).setCell _ _).setCell _ _).setCell _ _).setCell _ _).setCell _ _ = wf at *
  obtain ⟨c0, c1, c2, c3, c4, c5, c6⟩ := BF.out.cells
  dsimp only at c0 c1 c2 c3 c4 c5 c6
  refine bodyPost_ret (v := .tuple #[cmdV (zeroC ⟨#[]⟩), .int .i64 80]) (by simp [results, Tryd.results8, go_sem, cmdV, cmdC, zeroC, c0, c1, c2, c3, c4, c5, c6]; try rfl) rfl ⟨rfl, FF.out⟩
end Go.Proofs.YtngnipjfjhackaaDoor
