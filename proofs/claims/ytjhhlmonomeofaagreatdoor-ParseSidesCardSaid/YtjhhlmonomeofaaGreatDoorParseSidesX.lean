/- ParseSides: the walk. Printed by wip/tools/mkparsesides.py. -/
import Derived.Test.YtjhhlmonomeofaaGreatDoorSdT
namespace Go.Proofs.YtjhhlmonomeofaaGreatDoor
open Go.RowKit
set_option linter.unusedVariables false
set_option linter.unusedSimpArgs false
def sgA : Array Value := #[.string ⟨#[124, 124]⟩, .string ⟨#[38, 38]⟩, .string ⟨#[60]⟩, .string ⟨#[60, 61]⟩, .string ⟨#[61, 61]⟩, .string ⟨#[33, 61]⟩, .string ⟨#[43]⟩, .string ⟨#[45]⟩, .string ⟨#[42]⟩, .string ⟨#[47]⟩, .string ⟨#[37]⟩]
def lvA : Array Value := #[.int .i64 0, .int .i64 1, .int .i64 2, .int .i64 2, .int .i64 2, .int .i64 2, .int .i64 3, .int .i64 3, .int .i64 4, .int .i64 4, .int .i64 4]
theorem sgA_get (i : Nat) (h : i < 11) : sgA[i]? = some (.string (bs (sg i))) := by
  rcases (by omega : i = 0 ∨ i = 1 ∨ i = 2 ∨ i = 3 ∨ i = 4 ∨ i = 5 ∨ i = 6 ∨ i = 7 ∨ i = 8 ∨ i = 9 ∨ i = 10) with h | h | h | h | h | h | h | h | h | h | h <;> subst h <;> rfl
theorem lvA_get (i : Nat) (h : i < 11) : lvA[i]? = some (.int .i64 (lvS i : Nat)) := by
  rcases (by omega : i = 0 ∨ i = 1 ∨ i = 2 ∨ i = 3 ∨ i = 4 ∨ i = 5 ∨ i = 6 ∨ i = 7 ∨ i = 8 ∨ i = 9 ∨ i = 10) with h | h | h | h | h | h | h | h | h | h | h <;> subst h <;> rfl
theorem sg_len (i : Nat) (h : i < 11) : (sg i).length ≤ 2 := by
  rcases (by omega : i = 0 ∨ i = 1 ∨ i = 2 ∨ i = 3 ∨ i = 4 ∨ i = 5 ∨ i = 6 ∨ i = 7 ∨ i = 8 ∨ i = 9 ∨ i = 10) with h | h | h | h | h | h | h | h | h | h | h <;> subst h <;> decide
theorem lv_le (i : Nat) (h : i < 11) : lvS i ≤ 4 := by
  rcases (by omega : i = 0 ∨ i = 1 ∨ i = 2 ∨ i = 3 ∨ i = 4 ∨ i = 5 ∨ i = 6 ∨ i = 7 ∨ i = 8 ∨ i = 9 ∨ i = 10) with h | h | h | h | h | h | h | h | h | h | h <;> subst h <;> decide
theorem sd_cat (x y : List UInt8) : ((⟨#[102, 110, 32, 109, 97, 105, 110, 40, 41, 123, 112, 114, 105, 110, 116, 32, 97]⟩ : ByteArray) ++ bs x ++ (⟨#[98]⟩ : ByteArray) ++ bs y ++ (⟨#[99, 59, 125]⟩ : ByteArray)).data.toList = sdSrc x y := by
  rw [cat_data, cat_data, cat_data, cat_data]
  rfl
/-- A cell of a block that holds a tree's two slices is set. -/
theorem TreeAt.tbox {nv fv : Value} {lvs pvs : List Value} {ns : List NodeM} {fs : List FuncM} {w : World} (h : TreeAt 0 w nv fv lvs pvs ns fs) {g : Nat} {cs : Array Value} (hg : Blk w g 27 cs) (i : Nat) (u : Value) : TreeAt 0 (w.setCell ⟨g, i, none⟩ u) nv fv lvs pvs ns fs := by
  refine ⟨h.nodes.far (p := ⟨g, i, none⟩) (h.nodes.blk_ne hg (by decide)) u, Below2.one hg (by decide) h.below (one_set w g i u), h.same, h.fns.far (p := ⟨g, i, none⟩) (h.fns.blk_ne hg (by decide)) u, h.pars.to (one_set w g i u) (fun k cs' hk hm => ?_), h.samef, h.newn, h.newf⟩
  have e : k = g := hm
  subst e
  exact hk.ne hg (by decide) rfl
set_option maxHeartbeats 16000000 in
set_option maxRecDepth 100000 in
theorem parsesides_walk (a b : Int) (ha : 0 ≤ a ∧ a ≤ 255) (hb : 0 ≤ b ∧ b ≤ 255) (w : World) (hv : PVars w) :
    Calls Tryz.prog 9 #[.int .u8 a, .int .u8 b] w fun e w' => e = .returned (.bool true) ∧ Fr nob w w' := by
  have V := hid hv
  have HSD := hid (shown_any w hv)
  obtain ⟨i, hi, hi11⟩ : ∃ i : Nat, a.tmod 11 = (i : Int) ∧ i < 11 := ⟨(a % 11).toNat, by rw [Int.tmod_eq_emod_of_nonneg ha.1]; omega, by omega⟩
  obtain ⟨k, hk, hk11⟩ : ∃ k : Nat, b.tmod 11 = (k : Int) ∧ k < 11 := ⟨(b % 11).toNat, by rw [Int.tmod_eq_emod_of_nonneg hb.1]; omega, by omega⟩
  obtain ⟨ha1, ha2⟩ := ha
  obtain ⟨hb1, hb2⟩ := hb
  have hi3 : (i : Int) < 11 := by omega
  have hk3 : (k : Int) < 11 := by omega
  clear hv
  go_enter Tryz.func9, Tryz.ntmps9
  go_wp2_with fail
  refine HSD.out.mono ?_
  rintro e w1 ⟨rfl, hf⟩
  have F1 := hid hf
  clear hf
  go_wp2_with fail
  clear hi hk ha1 ha2 hb1 hb2
  have F2 := hid (show Fr nob w ((w1.alloc (.cells #[.string ⟨#[124, 124]⟩, .string ⟨#[38, 38]⟩, .string ⟨#[60]⟩, .string ⟨#[60, 61]⟩, .string ⟨#[61, 61]⟩, .string ⟨#[33, 61]⟩, .string ⟨#[43]⟩, .string ⟨#[45]⟩, .string ⟨#[42]⟩, .string ⟨#[47]⟩, .string ⟨#[37]⟩] 9)).alloc (.cells #[.int .i64 0, .int .i64 1, .int .i64 2, .int .i64 2, .int .i64 2, .int .i64 2, .int .i64 3, .int .i64 3, .int .i64 4, .int .i64 4, .int .i64 4] 3)) from (F1.out.alloc _).alloc _)
  have BS := hid (show Blk ((w1.alloc (.cells #[.string ⟨#[124, 124]⟩, .string ⟨#[38, 38]⟩, .string ⟨#[60]⟩, .string ⟨#[60, 61]⟩, .string ⟨#[61, 61]⟩, .string ⟨#[33, 61]⟩, .string ⟨#[43]⟩, .string ⟨#[45]⟩, .string ⟨#[42]⟩, .string ⟨#[47]⟩, .string ⟨#[37]⟩] 9)).alloc (.cells #[.int .i64 0, .int .i64 1, .int .i64 2, .int .i64 2, .int .i64 2, .int .i64 2, .int .i64 3, .int .i64 3, .int .i64 4, .int .i64 4, .int .i64 4] 3)) w1.heap.size 9 sgA from (Blk.new w1 _ _).alloc _)
  have BL := hid (show Blk ((w1.alloc (.cells #[.string ⟨#[124, 124]⟩, .string ⟨#[38, 38]⟩, .string ⟨#[60]⟩, .string ⟨#[60, 61]⟩, .string ⟨#[61, 61]⟩, .string ⟨#[33, 61]⟩, .string ⟨#[43]⟩, .string ⟨#[45]⟩, .string ⟨#[42]⟩, .string ⟨#[47]⟩, .string ⟨#[37]⟩] 9)).alloc (.cells #[.int .i64 0, .int .i64 1, .int .i64 2, .int .i64 2, .int .i64 2, .int .i64 2, .int .i64 3, .int .i64 3, .int .i64 4, .int .i64 4, .int .i64 4] 3)) (w1.heap.size + 1) 3 lvA from Blk.new1 _ _ _ _)
  generalize (w1.alloc (.cells #[.string ⟨#[124, 124]⟩, .string ⟨#[38, 38]⟩, .string ⟨#[60]⟩, .string ⟨#[60, 61]⟩, .string ⟨#[61, 61]⟩, .string ⟨#[33, 61]⟩, .string ⟨#[43]⟩, .string ⟨#[45]⟩, .string ⟨#[42]⟩, .string ⟨#[47]⟩, .string ⟨#[37]⟩] 9)).alloc (.cells #[.int .i64 0, .int .i64 1, .int .i64 2, .int .i64 2, .int .i64 2, .int .i64 2, .int .i64 3, .int .i64 3, .int .i64 4, .int .i64 4, .int .i64 4] 3) = w2 at *
  generalize w1.heap.size = G at *
  have y1 : w2.cell? ⟨G, i, none⟩ = some (.string (bs (sg i))) := (BS.out.cell i).trans (sgA_get i hi11)
  have y2 : w2.cell? ⟨G, k, none⟩ = some (.string (bs (sg k))) := (BS.out.cell k).trans (sgA_get k hk11)
  have y3 : w2.cell? ⟨G + 1, i, none⟩ = some (.int .i64 (lvS i : Nat)) := (BL.out.cell i).trans (lvA_get i hi11)
  have y4 : w2.cell? ⟨G + 1, k, none⟩ = some (.int .i64 (lvS k : Nat)) := (BL.out.cell k).trans (lvA_get k hk11)
  obtain ⟨r, hr⟩ := parse_some (sdSrc (sg i) (sg k))
  have hc := sd_at hi11 hk11
  rw [hr] at hc
  have q1 : (bs (sg i)).size ≤ 2 := by rw [bs_size]; exact sg_len i hi11
  have q2 : (bs (sg k)).size ≤ 2 := by rw [bs_size]; exact sg_len k hk11
  rw [← sd_cat] at hr
  have l4i := lv_le i hi11
  have l4k := lv_le k hk11
  clear hi11 hk11 BS BL
  have HCC := hid hc
  clear hc
  generalize hsx : bs (sg i) = sx at *
  generalize hsy : bs (sg k) = sy at *
  have EX := hid hsx
  have EY := hid hsy
  generalize hli : lvS i = li at *
  generalize hlk : lvS k = lk at *
  have EL := hid hli
  have EK := hid hlk
  clear hsx hsy hli hlk
  have n1 : (⟨#[102, 110, 32, 109, 97, 105, 110, 40, 41, 123, 112, 114, 105, 110, 116, 32, 97]⟩ : ByteArray).size = 17 := rfl
  have n2 : (⟨#[98]⟩ : ByteArray).size = 1 := rfl
  have n3 : (⟨#[99, 59, 125]⟩ : ByteArray).size = 3 := rfl
  have z1 : ¬ 9223372036854775807 < 17 + sx.size := by omega
  have z2 : ¬ 9223372036854775807 < 17 + sx.size + 1 := by omega
  have z3 : ¬ 9223372036854775807 < 17 + sx.size + 1 + sy.size := by omega
  have z4 : ¬ 9223372036854775807 < 17 + sx.size + 1 + sy.size + 3 := by omega
  have z5 : ((⟨#[102, 110, 32, 109, 97, 105, 110, 40, 41, 123, 112, 114, 105, 110, 116, 32, 97]⟩ : ByteArray) ++ sx ++ (⟨#[98]⟩ : ByteArray) ++ sy ++ (⟨#[99, 59, 125]⟩ : ByteArray)).size ≤ 281474976710656 := by rw [ByteArray.size_append, ByteArray.size_append, ByteArray.size_append, ByteArray.size_append]; omega
  have HPJ := hid (fun w' hv' => qall_any ((⟨#[102, 110, 32, 109, 97, 105, 110, 40, 41, 123, 112, 114, 105, 110, 116, 32, 97]⟩ : ByteArray) ++ sx ++ (⟨#[98]⟩ : ByteArray) ++ sy ++ (⟨#[99, 59, 125]⟩ : ByteArray)) w' z5 hv' (r := r) hr)
  clear hr n1 n2 n3 z5 q1 q2
  have S2 := hid (show (fun wx => wx.cell? ⟨G, i, none⟩ = some (.string sx) ∧ wx.cell? ⟨G, k, none⟩ = some (.string sy) ∧ wx.cell? ⟨G + 1, i, none⟩ = some (.int .i64 (li : Nat)) ∧ wx.cell? ⟨G + 1, k, none⟩ = some (.int .i64 (lk : Nat))) w2 from ⟨y1, y2, y3, y4⟩)
  have SS := hid (show ∀ wx, Fr nob w2 wx → (fun wx => wx.cell? ⟨G, i, none⟩ = some (.string sx) ∧ wx.cell? ⟨G, k, none⟩ = some (.string sy) ∧ wx.cell? ⟨G + 1, i, none⟩ = some (.int .i64 (li : Nat)) ∧ wx.cell? ⟨G + 1, k, none⟩ = some (.int .i64 (lk : Nat))) wx from fun wx f => ⟨(f.cell (World.block_lt_of_cell? _ _ S2.out.1) (fun x => x)).trans S2.out.1, (f.cell (World.block_lt_of_cell? _ _ S2.out.2.1) (fun x => x)).trans S2.out.2.1, (f.cell (World.block_lt_of_cell? _ _ S2.out.2.2.1) (fun x => x)).trans S2.out.2.2.1, (f.cell (World.block_lt_of_cell? _ _ S2.out.2.2.2) (fun x => x)).trans S2.out.2.2.2⟩)
  have SC := hid (show ∀ (wx : World) (u v : Value), (fun wx => wx.cell? ⟨G, i, none⟩ = some (.string sx) ∧ wx.cell? ⟨G, k, none⟩ = some (.string sy) ∧ wx.cell? ⟨G + 1, i, none⟩ = some (.int .i64 (li : Nat)) ∧ wx.cell? ⟨G + 1, k, none⟩ = some (.int .i64 (lk : Nat))) wx → (fun wx => wx.cell? ⟨G, i, none⟩ = some (.string sx) ∧ wx.cell? ⟨G, k, none⟩ = some (.string sy) ∧ wx.cell? ⟨G + 1, i, none⟩ = some (.int .i64 (li : Nat)) ∧ wx.cell? ⟨G + 1, k, none⟩ = some (.int .i64 (lk : Nat))) ((wx.setCell ⟨w2.heap.size, 0, none⟩ u).setCell ⟨w2.heap.size, 1, none⟩ v) from by
    have g1 : G < w2.heap.size := World.block_lt_of_cell? _ _ S2.out.1
    have g2 : G + 1 < w2.heap.size := World.block_lt_of_cell? _ _ S2.out.2.2.1
    have o : ∀ (wx : World) (u v : Value) (g j : Nat), g < w2.heap.size → ((wx.setCell ⟨w2.heap.size, 0, none⟩ u).setCell ⟨w2.heap.size, 1, none⟩ v).cell? ⟨g, j, none⟩ = wx.cell? ⟨g, j, none⟩ := fun wx u v g j h =>
      (World.cell?_setCell_other (wx.setCell ⟨w2.heap.size, 0, none⟩ u) ⟨w2.heap.size, 1, none⟩ ⟨g, j, none⟩ v (by intro e; injection e with e; omega)).trans (World.cell?_setCell_other wx ⟨w2.heap.size, 0, none⟩ ⟨g, j, none⟩ u (by intro e; injection e with e; omega))
    exact fun wx u v h => ⟨(o wx u v _ _ g1).trans h.1, (o wx u v _ _ g1).trans h.2.1, (o wx u v _ _ g2).trans h.2.2.1, (o wx u v _ _ g2).trans h.2.2.2⟩)
  have NB := hid (show Blk (w2.alloc (.cells #[.slice none 0 0, .slice none 0 0] 27)).drew w2.heap.size 27 #[.slice none 0 0, .slice none 0 0] from Blk.new w2 _ _)
  have FN := hid (show Fr nob w (w2.alloc (.cells #[.slice none 0 0, .slice none 0 0] 27)).drew from (F2.out.alloc (.cells #[.slice none 0 0, .slice none 0 0] 27)).drew)
  have FM := hid (show Fr nob w2 (w2.alloc (.cells #[.slice none 0 0, .slice none 0 0] 27)).drew from ((Fr.refl nob w2).alloc (.cells #[.slice none 0 0, .slice none 0 0] 27)).drew)
  have K1 := hid (SS.out _ ((Fr.refl nob w2).alloc (.cells #[.slice none 0 0, .slice none 0 0] 27)))
  have K2 := hid (SS.out _ FM.out)
  have l3i : (li : Int) ≤ 4 := by omega
  have l3k : (lk : Int) ≤ 4 := by omega
  cases r with
  | bad p er =>
    have hc := HCC.out
    unfold sdChk at hc
    rw [EL.out, EK.out] at hc
    simp at hc
    obtain ⟨⟨c1, c2⟩, c3⟩ := hc
    subst c3
    have e1 : ((li : Int) == 2) = true := by simp; omega
    have e2 : ((lk : Int) == 2) = true := by simp; omega
    clear c1 c2
    go_region_held3 (fun wx => wx.cell? ⟨G, i, none⟩ = some (.string sx) ∧ wx.cell? ⟨G, k, none⟩ = some (.string sy) ∧ wx.cell? ⟨G + 1, i, none⟩ = some (.int .i64 (li : Nat)) ∧ wx.cell? ⟨G + 1, k, none⟩ = some (.int .i64 (lk : Nat))) (first | exact K4.out | exact K5.out | exact K3.out | exact K2.out | exact K1.out | exact S2.out | go_keep)
      (first
        | (go_at_call 12; refine (HPJ.out _ (V.out.no F2.out.drew)).mono ?_; go_loud (rintro e w3 ⟨hpa, hf⟩); go_loud (have hpa : e = .returned (.tuple #[.agg #[.slice none 0 0, .slice none 0 0], .int .i64 p, .int .i64 (20 : Nat)]) := hpa); go_loud (subst hpa); go_loud (have F3 := hid ((Fr.refl nob w2).drew.tr hf)); go_loud (have K3 := hid (SS.out _ F3.out)); go_loud (have K4 := hid (SS.out _ (F3.out.alloc (.cells #[.slice none 0 0, .slice none 0 0] 27)))); clear hf)
        | (go_at_call 12; refine (HPJ.out _ (V.out.no FN.out)).mono ?_; go_loud (rintro e w3 ⟨hpa, hf⟩); go_loud (have hpa : e = .returned (.tuple #[.agg #[.slice none 0 0, .slice none 0 0], .int .i64 p, .int .i64 (20 : Nat)]) := hpa); go_loud (subst hpa); go_loud (have F3 := hid (FM.out.tr hf)); go_loud (have K3 := hid (SS.out _ F3.out)); go_loud (have B3 := hid (NB.out.fr hf (fun x => x))); go_loud (have z0 : w3.cell? ⟨w2.heap.size, 0, none⟩ = some (.slice none 0 0) := B3.out.cell 0); go_loud (have z1 : w3.cell? ⟨w2.heap.size, 1, none⟩ = some (.slice none 0 0) := B3.out.cell 1); go_loud (have z2 := B3.out.frozen 0); go_loud (have z3 := B3.out.frozen 1); go_loud (have z4 := B3.out.lt); go_loud (have K4 := hid (SC.out w3 (.slice none 0 0) (.slice none 0 0) K3.out)); clear hf))
    all_goals
      clear y1 y2 y3 y4
      obtain ⟨y1, y2, y3, y4⟩ := K4.out
      go_wp2_with fail
      go_ret
      first | exact ⟨rfl, F2.out.tr (F3.out.alloc _)⟩ | exact ⟨rfl, ((F2.out.tr F3.out).setCell _ _ (fun hl => absurd F2.out.size (Nat.not_le_of_lt hl))).setCell _ _ (fun hl => absurd F2.out.size (Nat.not_le_of_lt hl))⟩
  | good ns fs =>
    have hc := HCC.out
    simp only [sdChk, Bool.and_eq_true] at hc
    rw [EL.out, EK.out] at hc
    obtain ⟨⟨h22, h7⟩, ht⟩ := hc
    have H7 := hid (show ns.length = 7 by simpa using h7)
    clear h7
    have h22 : ¬ (li = 2 ∧ lk = 2) := by
      rintro ⟨r1, r2⟩
      rw [r1, r2] at h22
      simp at h22
    clear HCC
    by_cases l2 : li = 2
    · by_cases lf : lk ≤ li
      · rw [if_pos lf] at ht
        have HT := hid (sdTop_some ht)
        clear ht
        have e1 : ((li : Int) == 2) = true := by simp; omega
        have e2 : ((lk : Int) == 2) = false := by simp; omega
        have lf2 : (lk : Int) ≤ (li : Int) := by omega
        clear l2 lf h22
        go_region_held3 (fun wx => wx.cell? ⟨G, i, none⟩ = some (.string sx) ∧ wx.cell? ⟨G, k, none⟩ = some (.string sy) ∧ wx.cell? ⟨G + 1, i, none⟩ = some (.int .i64 (li : Nat)) ∧ wx.cell? ⟨G + 1, k, none⟩ = some (.int .i64 (lk : Nat))) (first | exact K4.out | exact K5.out | exact K3.out | exact K2.out | exact K1.out | exact S2.out | go_keep)
          (first
            | (go_at_call 12; refine (HPJ.out _ (V.out.no F2.out.drew)).mono ?_; go_loud (rintro e w3 ⟨⟨nv, fv, lvs, pvs, rfl, ht⟩, hf⟩); go_loud (obtain ⟨NA, NC, rfl, _, _⟩ := ht.nodes.cap); go_loud (obtain ⟨FA, FC, rfl, _, _⟩ := ht.fns.cap); go_loud (have F3 := hid ((Fr.refl nob w2).drew.tr hf)); go_loud (have TT := hid ht.zero); go_loud (have K3 := hid (SS.out _ F3.out)); go_loud (have K5 := hid (SS.out _ (F3.out.alloc (.cells #[.slice none 0 0, .slice none 0 0] 27)))); go_loud (have K4 := hid (SS.out _ (F3.out.alloc (.cells #[.slice NA ns.length NC, .slice FA fs.length FC] 27)))); go_loud (have F4 := hid (show Fr nob w (w3.alloc (.cells #[.slice NA ns.length NC, .slice FA fs.length FC] 27)) from F2.out.tr (F3.out.alloc (.cells #[.slice NA ns.length NC, .slice FA fs.length FC] 27)))); go_loud (have BA := hid (show TB w3.heap.size (.slice NA ns.length NC) (.slice FA fs.length FC) lvs pvs ns fs (w3.alloc (.cells #[.slice NA ns.length NC, .slice FA fs.length FC] 27)) from ⟨TT.out.no ((Fr.refl nob w3).alloc _), Blk.new w3 _ _⟩)); have hA := hid trivial; clear hf ht)
            | (go_at_call 12; refine (HPJ.out _ (V.out.no FN.out)).mono ?_; go_loud (rintro e w3 ⟨⟨nv, fv, lvs, pvs, rfl, ht⟩, hf⟩); go_loud (obtain ⟨NA, NC, rfl, _, _⟩ := ht.nodes.cap); go_loud (obtain ⟨FA, FC, rfl, _, _⟩ := ht.fns.cap); go_loud (have F3 := hid (FM.out.tr hf)); go_loud (have TT := hid ht.zero); go_loud (have K3 := hid (SS.out _ F3.out)); go_loud (have B3 := hid (NB.out.fr hf (fun x => x))); go_loud (have z0 : w3.cell? ⟨w2.heap.size, 0, none⟩ = some (.slice none 0 0) := B3.out.cell 0); go_loud (have z1 : w3.cell? ⟨w2.heap.size, 1, none⟩ = some (.slice none 0 0) := B3.out.cell 1); go_loud (have z2 := B3.out.frozen 0); go_loud (have z3 := B3.out.frozen 1); go_loud (have z4 := B3.out.lt); go_loud (have K4 := hid (SC.out w3 (.slice NA ns.length NC) (.slice FA fs.length FC) K3.out)); go_loud (have F4 := hid (show Fr nob w ((w3.setCell ⟨w2.heap.size, 0, none⟩ (.slice NA ns.length NC)).setCell ⟨w2.heap.size, 1, none⟩ (.slice FA fs.length FC)) from ((F2.out.tr F3.out).setCell _ _ (fun hl => absurd F2.out.size (Nat.not_le_of_lt hl))).setCell _ _ (fun hl => absurd F2.out.size (Nat.not_le_of_lt hl)))); go_loud (have BA := hid (show TB w2.heap.size (.slice NA ns.length NC) (.slice FA fs.length FC) lvs pvs ns fs ((w3.setCell ⟨w2.heap.size, 0, none⟩ (.slice NA ns.length NC)).setCell ⟨w2.heap.size, 1, none⟩ (.slice FA fs.length FC)) from ⟨(TT.out.tbox B3.out 0 (.slice NA ns.length NC)).tbox (B3.out.setCell 0 (.slice NA ns.length NC)) 1 (.slice FA fs.length FC), (B3.out.setCell 0 (.slice NA ns.length NC)).setCell 1 (.slice FA fs.length FC)⟩)); clear hf ht B3))
        all_goals
          clear y1 y2 y3 y4
          obtain ⟨y1, y2, y3, y4⟩ := K4.out
          try clear z0 z1 z2 z3 z4
          clear TT F3 K3 K4 S2 K1 K2 SC NB FN FM
          first
            | (have := hA; clear this hA; generalize w3.alloc (.cells #[.slice NA ns.length NC, .slice FA fs.length FC] 27) = w4 at *; generalize w3.heap.size = C at *)
            | (generalize ((w3.setCell ⟨w2.heap.size, 0, none⟩ (.slice NA ns.length NC)).setCell ⟨w2.heap.size, 1, none⟩ (.slice FA fs.length FC)) = w4 at *; generalize w2.heap.size = C at *)
          obtain ⟨n, x, y, p, q, hn4, hnm, hnl, hp, hq, hpn, hqn⟩ := HT.out
          obtain ⟨nb, c, lv, e, _, hlv, x0, x1, x2, x3, x4⟩ := BA.out.tree.node hn4
          injection e with e5 e6 e7
          subst e5
          have hx7 : x < 7 := by have := (List.getElem?_eq_some_iff.1 hp).1; have := H7.out; omega
          have hy7 : y < 7 := by have := (List.getElem?_eq_some_iff.1 hq).1; have := H7.out; omega
          have p3 := (BA.out.tree.node3 hp (List.getElem?_eq_getElem (by have := BA.out.tree.same; have := H7.out; omega))).2.2.2.2.1
          have q3 := (BA.out.tree.node3 hq (List.getElem?_eq_getElem (by have := BA.out.tree.same; have := H7.out; omega))).2.2.2.2.1
          obtain ⟨kn, line, nn, name, l⟩ := n
          dsimp only at hnm hnl hlv x0 x1 x2 x3 x4
          subst hnl
          obtain ⟨kb, kc, rfl, hkc, hkk⟩ := kids_get hlv (by simp)
          have c0 : w4.cell? ⟨kb, 0, none⟩ = some (.int .i64 (x : Nat)) := hkk 0 x rfl
          have c1 : w4.cell? ⟨kb, 1, none⟩ = some (.int .i64 (y : Nat)) := hkk 1 y rfl
          rw [hpn, EX.out] at p3
          rw [hqn] at q3
          have q3 : w4.cell? ⟨nb, y * 5 + 3, none⟩ = some (.string ⟨#[99]⟩) := q3
          rw [hnm, EY.out] at x3
          have hs : ((⟨#[99]⟩ : ByteArray).toList == [99]) = true := by kernel_rfl
          have x0 : w4.cell? ⟨nb, 20, none⟩ = some (.int .i64 kn) := x0
          have x1 : w4.cell? ⟨nb, 21, none⟩ = some (.int .i64 line) := x1
          have x2 : w4.cell? ⟨nb, 22, none⟩ = some (.int .i64 nn) := x2
          have x3 : w4.cell? ⟨nb, 23, none⟩ = some (.string sy) := x3
          have x4 : w4.cell? ⟨nb, 24, none⟩ = some (.slice (some ⟨kb, 0, none⟩) 2 kc) := x4
          obtain ⟨d0, d1⟩ := BA.out.cells
          have h7 := H7.out
          rw [h7] at d0
          have hx8 : (x : Int) < 7 := by omega
          have hy8 : (y : Int) < 7 := by omega
          clear hn4 hnm hp hq hpn hqn e6 e7 hlv hkk hx7 hy7 HT hkc EX EY EL EK h7
          go_wp2_with fail
          have f5 : Fr nob w4 (w4.alloc (.cells #[.int .i64 kn, .int .i64 line, .int .i64 nn, .string sy, .slice (some ⟨kb, 0, none⟩) 2 kc] 36)) := (Fr.refl nob w4).alloc _
          have F5 := hid (F4.out.tr f5)
          have XB := hid (show Blk (w4.alloc (.cells #[.int .i64 kn, .int .i64 line, .int .i64 nn, .string sy, .slice (some ⟨kb, 0, none⟩) 2 kc] 36)) w4.heap.size 36 _ from Blk.new w4 _ _)
          have y1 := (f5.cell (World.block_lt_of_cell? _ _ y1) (fun x => x)).trans y1
          have y2 := (f5.cell (World.block_lt_of_cell? _ _ y2) (fun x => x)).trans y2
          have y3 := (f5.cell (World.block_lt_of_cell? _ _ y3) (fun x => x)).trans y3
          have y4 := (f5.cell (World.block_lt_of_cell? _ _ y4) (fun x => x)).trans y4
          have c0 := (f5.cell (World.block_lt_of_cell? _ _ c0) (fun x => x)).trans c0
          have c1 := (f5.cell (World.block_lt_of_cell? _ _ c1) (fun x => x)).trans c1
          have p3 := (f5.cell (World.block_lt_of_cell? _ _ p3) (fun x => x)).trans p3
          have q3 := (f5.cell (World.block_lt_of_cell? _ _ q3) (fun x => x)).trans q3
          have d0 := (f5.cell (World.block_lt_of_cell? _ _ d0) (fun x => x)).trans d0
          clear x0 x1 x2 x3 x4 d1 f5
          generalize w4.heap.size = D at *
          generalize w4.alloc (.cells #[.int .i64 kn, .int .i64 line, .int .i64 nn, .string sy, .slice (some ⟨kb, 0, none⟩) 2 kc] 36) = w5 at *
          have a3 : w5.cell? ⟨D, 3, none⟩ = some (.string sy) := by simpa using XB.out.cell 3
          have a4 : w5.cell? ⟨D, 4, none⟩ = some (.slice (some ⟨kb, 0, none⟩) 2 kc) := by simpa using XB.out.cell 4
          go_quiet (fail)
          go_wp2_with fail
          go_quiet (fail)
          go_wp2_with fail
          go_ret
          exact ⟨rfl, (by first | exact F5.out | exact (F5.out).drewN _ | exact ((F5.out).drewN _).drewN _ | exact (((F5.out).drewN _).drewN _).drewN _)⟩
      · rw [if_neg lf] at ht
        have HT := hid (sdTop_some ht)
        clear ht
        have e1 : ((li : Int) == 2) = true := by simp; omega
        have e2 : ((lk : Int) == 2) = false := by simp; omega
        have lf2 : ¬ (lk : Int) ≤ (li : Int) := by omega
        have lf3 : (li : Int) < (lk : Int) := by omega
        clear l2 lf h22
        go_region_held3 (fun wx => wx.cell? ⟨G, i, none⟩ = some (.string sx) ∧ wx.cell? ⟨G, k, none⟩ = some (.string sy) ∧ wx.cell? ⟨G + 1, i, none⟩ = some (.int .i64 (li : Nat)) ∧ wx.cell? ⟨G + 1, k, none⟩ = some (.int .i64 (lk : Nat))) (first | exact K4.out | exact K5.out | exact K3.out | exact K2.out | exact K1.out | exact S2.out | go_keep)
          (first
            | (go_at_call 12; refine (HPJ.out _ (V.out.no F2.out.drew)).mono ?_; go_loud (rintro e w3 ⟨⟨nv, fv, lvs, pvs, rfl, ht⟩, hf⟩); go_loud (obtain ⟨NA, NC, rfl, _, _⟩ := ht.nodes.cap); go_loud (obtain ⟨FA, FC, rfl, _, _⟩ := ht.fns.cap); go_loud (have F3 := hid ((Fr.refl nob w2).drew.tr hf)); go_loud (have TT := hid ht.zero); go_loud (have K3 := hid (SS.out _ F3.out)); go_loud (have K5 := hid (SS.out _ (F3.out.alloc (.cells #[.slice none 0 0, .slice none 0 0] 27)))); go_loud (have K4 := hid (SS.out _ (F3.out.alloc (.cells #[.slice NA ns.length NC, .slice FA fs.length FC] 27)))); go_loud (have F4 := hid (show Fr nob w (w3.alloc (.cells #[.slice NA ns.length NC, .slice FA fs.length FC] 27)) from F2.out.tr (F3.out.alloc (.cells #[.slice NA ns.length NC, .slice FA fs.length FC] 27)))); go_loud (have BA := hid (show TB w3.heap.size (.slice NA ns.length NC) (.slice FA fs.length FC) lvs pvs ns fs (w3.alloc (.cells #[.slice NA ns.length NC, .slice FA fs.length FC] 27)) from ⟨TT.out.no ((Fr.refl nob w3).alloc _), Blk.new w3 _ _⟩)); have hA := hid trivial; clear hf ht)
            | (go_at_call 12; refine (HPJ.out _ (V.out.no FN.out)).mono ?_; go_loud (rintro e w3 ⟨⟨nv, fv, lvs, pvs, rfl, ht⟩, hf⟩); go_loud (obtain ⟨NA, NC, rfl, _, _⟩ := ht.nodes.cap); go_loud (obtain ⟨FA, FC, rfl, _, _⟩ := ht.fns.cap); go_loud (have F3 := hid (FM.out.tr hf)); go_loud (have TT := hid ht.zero); go_loud (have K3 := hid (SS.out _ F3.out)); go_loud (have B3 := hid (NB.out.fr hf (fun x => x))); go_loud (have z0 : w3.cell? ⟨w2.heap.size, 0, none⟩ = some (.slice none 0 0) := B3.out.cell 0); go_loud (have z1 : w3.cell? ⟨w2.heap.size, 1, none⟩ = some (.slice none 0 0) := B3.out.cell 1); go_loud (have z2 := B3.out.frozen 0); go_loud (have z3 := B3.out.frozen 1); go_loud (have z4 := B3.out.lt); go_loud (have K4 := hid (SC.out w3 (.slice NA ns.length NC) (.slice FA fs.length FC) K3.out)); go_loud (have F4 := hid (show Fr nob w ((w3.setCell ⟨w2.heap.size, 0, none⟩ (.slice NA ns.length NC)).setCell ⟨w2.heap.size, 1, none⟩ (.slice FA fs.length FC)) from ((F2.out.tr F3.out).setCell _ _ (fun hl => absurd F2.out.size (Nat.not_le_of_lt hl))).setCell _ _ (fun hl => absurd F2.out.size (Nat.not_le_of_lt hl)))); go_loud (have BA := hid (show TB w2.heap.size (.slice NA ns.length NC) (.slice FA fs.length FC) lvs pvs ns fs ((w3.setCell ⟨w2.heap.size, 0, none⟩ (.slice NA ns.length NC)).setCell ⟨w2.heap.size, 1, none⟩ (.slice FA fs.length FC)) from ⟨(TT.out.tbox B3.out 0 (.slice NA ns.length NC)).tbox (B3.out.setCell 0 (.slice NA ns.length NC)) 1 (.slice FA fs.length FC), (B3.out.setCell 0 (.slice NA ns.length NC)).setCell 1 (.slice FA fs.length FC)⟩)); clear hf ht B3))
        all_goals
          clear y1 y2 y3 y4
          obtain ⟨y1, y2, y3, y4⟩ := K4.out
          try clear z0 z1 z2 z3 z4
          clear TT F3 K3 K4 S2 K1 K2 SC NB FN FM
          first
            | (have := hA; clear this hA; generalize w3.alloc (.cells #[.slice NA ns.length NC, .slice FA fs.length FC] 27) = w4 at *; generalize w3.heap.size = C at *)
            | (generalize ((w3.setCell ⟨w2.heap.size, 0, none⟩ (.slice NA ns.length NC)).setCell ⟨w2.heap.size, 1, none⟩ (.slice FA fs.length FC)) = w4 at *; generalize w2.heap.size = C at *)
          obtain ⟨n, x, y, p, q, hn4, hnm, hnl, hp, hq, hpn, hqn⟩ := HT.out
          obtain ⟨nb, c, lv, e, _, hlv, x0, x1, x2, x3, x4⟩ := BA.out.tree.node hn4
          injection e with e5 e6 e7
          subst e5
          have hx7 : x < 7 := by have := (List.getElem?_eq_some_iff.1 hp).1; have := H7.out; omega
          have hy7 : y < 7 := by have := (List.getElem?_eq_some_iff.1 hq).1; have := H7.out; omega
          have p3 := (BA.out.tree.node3 hp (List.getElem?_eq_getElem (by have := BA.out.tree.same; have := H7.out; omega))).2.2.2.2.1
          have q3 := (BA.out.tree.node3 hq (List.getElem?_eq_getElem (by have := BA.out.tree.same; have := H7.out; omega))).2.2.2.2.1
          obtain ⟨kn, line, nn, name, l⟩ := n
          dsimp only at hnm hnl hlv x0 x1 x2 x3 x4
          subst hnl
          obtain ⟨kb, kc, rfl, hkc, hkk⟩ := kids_get hlv (by simp)
          have c0 : w4.cell? ⟨kb, 0, none⟩ = some (.int .i64 (x : Nat)) := hkk 0 x rfl
          have c1 : w4.cell? ⟨kb, 1, none⟩ = some (.int .i64 (y : Nat)) := hkk 1 y rfl
          rw [hpn] at p3
          have p3 : w4.cell? ⟨nb, x * 5 + 3, none⟩ = some (.string ⟨#[97]⟩) := p3
          rw [hqn, EY.out] at q3
          rw [hnm, EX.out] at x3
          have hs : ((⟨#[97]⟩ : ByteArray).toList == [97]) = true := by kernel_rfl
          have x0 : w4.cell? ⟨nb, 20, none⟩ = some (.int .i64 kn) := x0
          have x1 : w4.cell? ⟨nb, 21, none⟩ = some (.int .i64 line) := x1
          have x2 : w4.cell? ⟨nb, 22, none⟩ = some (.int .i64 nn) := x2
          have x3 : w4.cell? ⟨nb, 23, none⟩ = some (.string sx) := x3
          have x4 : w4.cell? ⟨nb, 24, none⟩ = some (.slice (some ⟨kb, 0, none⟩) 2 kc) := x4
          obtain ⟨d0, d1⟩ := BA.out.cells
          have h7 := H7.out
          rw [h7] at d0
          have hx8 : (x : Int) < 7 := by omega
          have hy8 : (y : Int) < 7 := by omega
          clear hn4 hnm hp hq hpn hqn e6 e7 hlv hkk hx7 hy7 HT hkc EX EY EL EK h7
          go_wp2_with fail
          have f5 : Fr nob w4 (w4.alloc (.cells #[.int .i64 kn, .int .i64 line, .int .i64 nn, .string sx, .slice (some ⟨kb, 0, none⟩) 2 kc] 36)) := (Fr.refl nob w4).alloc _
          have F5 := hid (F4.out.tr f5)
          have XB := hid (show Blk (w4.alloc (.cells #[.int .i64 kn, .int .i64 line, .int .i64 nn, .string sx, .slice (some ⟨kb, 0, none⟩) 2 kc] 36)) w4.heap.size 36 _ from Blk.new w4 _ _)
          have y1 := (f5.cell (World.block_lt_of_cell? _ _ y1) (fun x => x)).trans y1
          have y2 := (f5.cell (World.block_lt_of_cell? _ _ y2) (fun x => x)).trans y2
          have y3 := (f5.cell (World.block_lt_of_cell? _ _ y3) (fun x => x)).trans y3
          have y4 := (f5.cell (World.block_lt_of_cell? _ _ y4) (fun x => x)).trans y4
          have c0 := (f5.cell (World.block_lt_of_cell? _ _ c0) (fun x => x)).trans c0
          have c1 := (f5.cell (World.block_lt_of_cell? _ _ c1) (fun x => x)).trans c1
          have p3 := (f5.cell (World.block_lt_of_cell? _ _ p3) (fun x => x)).trans p3
          have q3 := (f5.cell (World.block_lt_of_cell? _ _ q3) (fun x => x)).trans q3
          have d0 := (f5.cell (World.block_lt_of_cell? _ _ d0) (fun x => x)).trans d0
          clear x0 x1 x2 x3 x4 d1 f5
          generalize w4.heap.size = D at *
          generalize w4.alloc (.cells #[.int .i64 kn, .int .i64 line, .int .i64 nn, .string sx, .slice (some ⟨kb, 0, none⟩) 2 kc] 36) = w5 at *
          have a3 : w5.cell? ⟨D, 3, none⟩ = some (.string sx) := by simpa using XB.out.cell 3
          have a4 : w5.cell? ⟨D, 4, none⟩ = some (.slice (some ⟨kb, 0, none⟩) 2 kc) := by simpa using XB.out.cell 4
          go_quiet (fail)
          go_wp2_with fail
          go_quiet (fail)
          go_wp2_with fail
          go_ret
          exact ⟨rfl, (by first | exact F5.out | exact (F5.out).drewN _ | exact ((F5.out).drewN _).drewN _ | exact (((F5.out).drewN _).drewN _).drewN _)⟩
    · by_cases lf : lk ≤ li
      · rw [if_pos lf] at ht
        have HT := hid (sdTop_some ht)
        clear ht
        have e1 : ((li : Int) == 2) = false := by simp; omega
        have lf2 : (lk : Int) ≤ (li : Int) := by omega
        clear l2 lf h22
        go_region_held3 (fun wx => wx.cell? ⟨G, i, none⟩ = some (.string sx) ∧ wx.cell? ⟨G, k, none⟩ = some (.string sy) ∧ wx.cell? ⟨G + 1, i, none⟩ = some (.int .i64 (li : Nat)) ∧ wx.cell? ⟨G + 1, k, none⟩ = some (.int .i64 (lk : Nat))) (first | exact K4.out | exact K5.out | exact K3.out | exact K2.out | exact K1.out | exact S2.out | go_keep)
          (first
            | (go_at_call 12; refine (HPJ.out _ (V.out.no F2.out.drew)).mono ?_; go_loud (rintro e w3 ⟨⟨nv, fv, lvs, pvs, rfl, ht⟩, hf⟩); go_loud (obtain ⟨NA, NC, rfl, _, _⟩ := ht.nodes.cap); go_loud (obtain ⟨FA, FC, rfl, _, _⟩ := ht.fns.cap); go_loud (have F3 := hid ((Fr.refl nob w2).drew.tr hf)); go_loud (have TT := hid ht.zero); go_loud (have K3 := hid (SS.out _ F3.out)); go_loud (have K5 := hid (SS.out _ (F3.out.alloc (.cells #[.slice none 0 0, .slice none 0 0] 27)))); go_loud (have K4 := hid (SS.out _ (F3.out.alloc (.cells #[.slice NA ns.length NC, .slice FA fs.length FC] 27)))); go_loud (have F4 := hid (show Fr nob w (w3.alloc (.cells #[.slice NA ns.length NC, .slice FA fs.length FC] 27)) from F2.out.tr (F3.out.alloc (.cells #[.slice NA ns.length NC, .slice FA fs.length FC] 27)))); go_loud (have BA := hid (show TB w3.heap.size (.slice NA ns.length NC) (.slice FA fs.length FC) lvs pvs ns fs (w3.alloc (.cells #[.slice NA ns.length NC, .slice FA fs.length FC] 27)) from ⟨TT.out.no ((Fr.refl nob w3).alloc _), Blk.new w3 _ _⟩)); have hA := hid trivial; clear hf ht)
            | (go_at_call 12; refine (HPJ.out _ (V.out.no FN.out)).mono ?_; go_loud (rintro e w3 ⟨⟨nv, fv, lvs, pvs, rfl, ht⟩, hf⟩); go_loud (obtain ⟨NA, NC, rfl, _, _⟩ := ht.nodes.cap); go_loud (obtain ⟨FA, FC, rfl, _, _⟩ := ht.fns.cap); go_loud (have F3 := hid (FM.out.tr hf)); go_loud (have TT := hid ht.zero); go_loud (have K3 := hid (SS.out _ F3.out)); go_loud (have B3 := hid (NB.out.fr hf (fun x => x))); go_loud (have z0 : w3.cell? ⟨w2.heap.size, 0, none⟩ = some (.slice none 0 0) := B3.out.cell 0); go_loud (have z1 : w3.cell? ⟨w2.heap.size, 1, none⟩ = some (.slice none 0 0) := B3.out.cell 1); go_loud (have z2 := B3.out.frozen 0); go_loud (have z3 := B3.out.frozen 1); go_loud (have z4 := B3.out.lt); go_loud (have K4 := hid (SC.out w3 (.slice NA ns.length NC) (.slice FA fs.length FC) K3.out)); go_loud (have F4 := hid (show Fr nob w ((w3.setCell ⟨w2.heap.size, 0, none⟩ (.slice NA ns.length NC)).setCell ⟨w2.heap.size, 1, none⟩ (.slice FA fs.length FC)) from ((F2.out.tr F3.out).setCell _ _ (fun hl => absurd F2.out.size (Nat.not_le_of_lt hl))).setCell _ _ (fun hl => absurd F2.out.size (Nat.not_le_of_lt hl)))); go_loud (have BA := hid (show TB w2.heap.size (.slice NA ns.length NC) (.slice FA fs.length FC) lvs pvs ns fs ((w3.setCell ⟨w2.heap.size, 0, none⟩ (.slice NA ns.length NC)).setCell ⟨w2.heap.size, 1, none⟩ (.slice FA fs.length FC)) from ⟨(TT.out.tbox B3.out 0 (.slice NA ns.length NC)).tbox (B3.out.setCell 0 (.slice NA ns.length NC)) 1 (.slice FA fs.length FC), (B3.out.setCell 0 (.slice NA ns.length NC)).setCell 1 (.slice FA fs.length FC)⟩)); clear hf ht B3))
        all_goals
          clear y1 y2 y3 y4
          obtain ⟨y1, y2, y3, y4⟩ := K4.out
          try clear z0 z1 z2 z3 z4
          clear TT F3 K3 K4 S2 K1 K2 SC NB FN FM
          first
            | (have := hA; clear this hA; generalize w3.alloc (.cells #[.slice NA ns.length NC, .slice FA fs.length FC] 27) = w4 at *; generalize w3.heap.size = C at *)
            | (generalize ((w3.setCell ⟨w2.heap.size, 0, none⟩ (.slice NA ns.length NC)).setCell ⟨w2.heap.size, 1, none⟩ (.slice FA fs.length FC)) = w4 at *; generalize w2.heap.size = C at *)
          obtain ⟨n, x, y, p, q, hn4, hnm, hnl, hp, hq, hpn, hqn⟩ := HT.out
          obtain ⟨nb, c, lv, e, _, hlv, x0, x1, x2, x3, x4⟩ := BA.out.tree.node hn4
          injection e with e5 e6 e7
          subst e5
          have hx7 : x < 7 := by have := (List.getElem?_eq_some_iff.1 hp).1; have := H7.out; omega
          have hy7 : y < 7 := by have := (List.getElem?_eq_some_iff.1 hq).1; have := H7.out; omega
          have p3 := (BA.out.tree.node3 hp (List.getElem?_eq_getElem (by have := BA.out.tree.same; have := H7.out; omega))).2.2.2.2.1
          have q3 := (BA.out.tree.node3 hq (List.getElem?_eq_getElem (by have := BA.out.tree.same; have := H7.out; omega))).2.2.2.2.1
          obtain ⟨kn, line, nn, name, l⟩ := n
          dsimp only at hnm hnl hlv x0 x1 x2 x3 x4
          subst hnl
          obtain ⟨kb, kc, rfl, hkc, hkk⟩ := kids_get hlv (by simp)
          have c0 : w4.cell? ⟨kb, 0, none⟩ = some (.int .i64 (x : Nat)) := hkk 0 x rfl
          have c1 : w4.cell? ⟨kb, 1, none⟩ = some (.int .i64 (y : Nat)) := hkk 1 y rfl
          rw [hpn, EX.out] at p3
          rw [hqn] at q3
          have q3 : w4.cell? ⟨nb, y * 5 + 3, none⟩ = some (.string ⟨#[99]⟩) := q3
          rw [hnm, EY.out] at x3
          have hs : ((⟨#[99]⟩ : ByteArray).toList == [99]) = true := by kernel_rfl
          have x0 : w4.cell? ⟨nb, 20, none⟩ = some (.int .i64 kn) := x0
          have x1 : w4.cell? ⟨nb, 21, none⟩ = some (.int .i64 line) := x1
          have x2 : w4.cell? ⟨nb, 22, none⟩ = some (.int .i64 nn) := x2
          have x3 : w4.cell? ⟨nb, 23, none⟩ = some (.string sy) := x3
          have x4 : w4.cell? ⟨nb, 24, none⟩ = some (.slice (some ⟨kb, 0, none⟩) 2 kc) := x4
          obtain ⟨d0, d1⟩ := BA.out.cells
          have h7 := H7.out
          rw [h7] at d0
          have hx8 : (x : Int) < 7 := by omega
          have hy8 : (y : Int) < 7 := by omega
          clear hn4 hnm hp hq hpn hqn e6 e7 hlv hkk hx7 hy7 HT hkc EX EY EL EK h7
          go_wp2_with fail
          have f5 : Fr nob w4 (w4.alloc (.cells #[.int .i64 kn, .int .i64 line, .int .i64 nn, .string sy, .slice (some ⟨kb, 0, none⟩) 2 kc] 36)) := (Fr.refl nob w4).alloc _
          have F5 := hid (F4.out.tr f5)
          have XB := hid (show Blk (w4.alloc (.cells #[.int .i64 kn, .int .i64 line, .int .i64 nn, .string sy, .slice (some ⟨kb, 0, none⟩) 2 kc] 36)) w4.heap.size 36 _ from Blk.new w4 _ _)
          have y1 := (f5.cell (World.block_lt_of_cell? _ _ y1) (fun x => x)).trans y1
          have y2 := (f5.cell (World.block_lt_of_cell? _ _ y2) (fun x => x)).trans y2
          have y3 := (f5.cell (World.block_lt_of_cell? _ _ y3) (fun x => x)).trans y3
          have y4 := (f5.cell (World.block_lt_of_cell? _ _ y4) (fun x => x)).trans y4
          have c0 := (f5.cell (World.block_lt_of_cell? _ _ c0) (fun x => x)).trans c0
          have c1 := (f5.cell (World.block_lt_of_cell? _ _ c1) (fun x => x)).trans c1
          have p3 := (f5.cell (World.block_lt_of_cell? _ _ p3) (fun x => x)).trans p3
          have q3 := (f5.cell (World.block_lt_of_cell? _ _ q3) (fun x => x)).trans q3
          have d0 := (f5.cell (World.block_lt_of_cell? _ _ d0) (fun x => x)).trans d0
          clear x0 x1 x2 x3 x4 d1 f5
          generalize w4.heap.size = D at *
          generalize w4.alloc (.cells #[.int .i64 kn, .int .i64 line, .int .i64 nn, .string sy, .slice (some ⟨kb, 0, none⟩) 2 kc] 36) = w5 at *
          have a3 : w5.cell? ⟨D, 3, none⟩ = some (.string sy) := by simpa using XB.out.cell 3
          have a4 : w5.cell? ⟨D, 4, none⟩ = some (.slice (some ⟨kb, 0, none⟩) 2 kc) := by simpa using XB.out.cell 4
          go_quiet (fail)
          go_wp2_with fail
          go_quiet (fail)
          go_wp2_with fail
          go_ret
          exact ⟨rfl, (by first | exact F5.out | exact (F5.out).drewN _ | exact ((F5.out).drewN _).drewN _ | exact (((F5.out).drewN _).drewN _).drewN _)⟩
      · rw [if_neg lf] at ht
        have HT := hid (sdTop_some ht)
        clear ht
        have e1 : ((li : Int) == 2) = false := by simp; omega
        have lf2 : ¬ (lk : Int) ≤ (li : Int) := by omega
        have lf3 : (li : Int) < (lk : Int) := by omega
        clear l2 lf h22
        go_region_held3 (fun wx => wx.cell? ⟨G, i, none⟩ = some (.string sx) ∧ wx.cell? ⟨G, k, none⟩ = some (.string sy) ∧ wx.cell? ⟨G + 1, i, none⟩ = some (.int .i64 (li : Nat)) ∧ wx.cell? ⟨G + 1, k, none⟩ = some (.int .i64 (lk : Nat))) (first | exact K4.out | exact K5.out | exact K3.out | exact K2.out | exact K1.out | exact S2.out | go_keep)
          (first
            | (go_at_call 12; refine (HPJ.out _ (V.out.no F2.out.drew)).mono ?_; go_loud (rintro e w3 ⟨⟨nv, fv, lvs, pvs, rfl, ht⟩, hf⟩); go_loud (obtain ⟨NA, NC, rfl, _, _⟩ := ht.nodes.cap); go_loud (obtain ⟨FA, FC, rfl, _, _⟩ := ht.fns.cap); go_loud (have F3 := hid ((Fr.refl nob w2).drew.tr hf)); go_loud (have TT := hid ht.zero); go_loud (have K3 := hid (SS.out _ F3.out)); go_loud (have K5 := hid (SS.out _ (F3.out.alloc (.cells #[.slice none 0 0, .slice none 0 0] 27)))); go_loud (have K4 := hid (SS.out _ (F3.out.alloc (.cells #[.slice NA ns.length NC, .slice FA fs.length FC] 27)))); go_loud (have F4 := hid (show Fr nob w (w3.alloc (.cells #[.slice NA ns.length NC, .slice FA fs.length FC] 27)) from F2.out.tr (F3.out.alloc (.cells #[.slice NA ns.length NC, .slice FA fs.length FC] 27)))); go_loud (have BA := hid (show TB w3.heap.size (.slice NA ns.length NC) (.slice FA fs.length FC) lvs pvs ns fs (w3.alloc (.cells #[.slice NA ns.length NC, .slice FA fs.length FC] 27)) from ⟨TT.out.no ((Fr.refl nob w3).alloc _), Blk.new w3 _ _⟩)); have hA := hid trivial; clear hf ht)
            | (go_at_call 12; refine (HPJ.out _ (V.out.no FN.out)).mono ?_; go_loud (rintro e w3 ⟨⟨nv, fv, lvs, pvs, rfl, ht⟩, hf⟩); go_loud (obtain ⟨NA, NC, rfl, _, _⟩ := ht.nodes.cap); go_loud (obtain ⟨FA, FC, rfl, _, _⟩ := ht.fns.cap); go_loud (have F3 := hid (FM.out.tr hf)); go_loud (have TT := hid ht.zero); go_loud (have K3 := hid (SS.out _ F3.out)); go_loud (have B3 := hid (NB.out.fr hf (fun x => x))); go_loud (have z0 : w3.cell? ⟨w2.heap.size, 0, none⟩ = some (.slice none 0 0) := B3.out.cell 0); go_loud (have z1 : w3.cell? ⟨w2.heap.size, 1, none⟩ = some (.slice none 0 0) := B3.out.cell 1); go_loud (have z2 := B3.out.frozen 0); go_loud (have z3 := B3.out.frozen 1); go_loud (have z4 := B3.out.lt); go_loud (have K4 := hid (SC.out w3 (.slice NA ns.length NC) (.slice FA fs.length FC) K3.out)); go_loud (have F4 := hid (show Fr nob w ((w3.setCell ⟨w2.heap.size, 0, none⟩ (.slice NA ns.length NC)).setCell ⟨w2.heap.size, 1, none⟩ (.slice FA fs.length FC)) from ((F2.out.tr F3.out).setCell _ _ (fun hl => absurd F2.out.size (Nat.not_le_of_lt hl))).setCell _ _ (fun hl => absurd F2.out.size (Nat.not_le_of_lt hl)))); go_loud (have BA := hid (show TB w2.heap.size (.slice NA ns.length NC) (.slice FA fs.length FC) lvs pvs ns fs ((w3.setCell ⟨w2.heap.size, 0, none⟩ (.slice NA ns.length NC)).setCell ⟨w2.heap.size, 1, none⟩ (.slice FA fs.length FC)) from ⟨(TT.out.tbox B3.out 0 (.slice NA ns.length NC)).tbox (B3.out.setCell 0 (.slice NA ns.length NC)) 1 (.slice FA fs.length FC), (B3.out.setCell 0 (.slice NA ns.length NC)).setCell 1 (.slice FA fs.length FC)⟩)); clear hf ht B3))
        all_goals
          clear y1 y2 y3 y4
          obtain ⟨y1, y2, y3, y4⟩ := K4.out
          try clear z0 z1 z2 z3 z4
          clear TT F3 K3 K4 S2 K1 K2 SC NB FN FM
          first
            | (have := hA; clear this hA; generalize w3.alloc (.cells #[.slice NA ns.length NC, .slice FA fs.length FC] 27) = w4 at *; generalize w3.heap.size = C at *)
            | (generalize ((w3.setCell ⟨w2.heap.size, 0, none⟩ (.slice NA ns.length NC)).setCell ⟨w2.heap.size, 1, none⟩ (.slice FA fs.length FC)) = w4 at *; generalize w2.heap.size = C at *)
          obtain ⟨n, x, y, p, q, hn4, hnm, hnl, hp, hq, hpn, hqn⟩ := HT.out
          obtain ⟨nb, c, lv, e, _, hlv, x0, x1, x2, x3, x4⟩ := BA.out.tree.node hn4
          injection e with e5 e6 e7
          subst e5
          have hx7 : x < 7 := by have := (List.getElem?_eq_some_iff.1 hp).1; have := H7.out; omega
          have hy7 : y < 7 := by have := (List.getElem?_eq_some_iff.1 hq).1; have := H7.out; omega
          have p3 := (BA.out.tree.node3 hp (List.getElem?_eq_getElem (by have := BA.out.tree.same; have := H7.out; omega))).2.2.2.2.1
          have q3 := (BA.out.tree.node3 hq (List.getElem?_eq_getElem (by have := BA.out.tree.same; have := H7.out; omega))).2.2.2.2.1
          obtain ⟨kn, line, nn, name, l⟩ := n
          dsimp only at hnm hnl hlv x0 x1 x2 x3 x4
          subst hnl
          obtain ⟨kb, kc, rfl, hkc, hkk⟩ := kids_get hlv (by simp)
          have c0 : w4.cell? ⟨kb, 0, none⟩ = some (.int .i64 (x : Nat)) := hkk 0 x rfl
          have c1 : w4.cell? ⟨kb, 1, none⟩ = some (.int .i64 (y : Nat)) := hkk 1 y rfl
          rw [hpn] at p3
          have p3 : w4.cell? ⟨nb, x * 5 + 3, none⟩ = some (.string ⟨#[97]⟩) := p3
          rw [hqn, EY.out] at q3
          rw [hnm, EX.out] at x3
          have hs : ((⟨#[97]⟩ : ByteArray).toList == [97]) = true := by kernel_rfl
          have x0 : w4.cell? ⟨nb, 20, none⟩ = some (.int .i64 kn) := x0
          have x1 : w4.cell? ⟨nb, 21, none⟩ = some (.int .i64 line) := x1
          have x2 : w4.cell? ⟨nb, 22, none⟩ = some (.int .i64 nn) := x2
          have x3 : w4.cell? ⟨nb, 23, none⟩ = some (.string sx) := x3
          have x4 : w4.cell? ⟨nb, 24, none⟩ = some (.slice (some ⟨kb, 0, none⟩) 2 kc) := x4
          obtain ⟨d0, d1⟩ := BA.out.cells
          have h7 := H7.out
          rw [h7] at d0
          have hx8 : (x : Int) < 7 := by omega
          have hy8 : (y : Int) < 7 := by omega
          clear hn4 hnm hp hq hpn hqn e6 e7 hlv hkk hx7 hy7 HT hkc EX EY EL EK h7
          go_wp2_with fail
          have f5 : Fr nob w4 (w4.alloc (.cells #[.int .i64 kn, .int .i64 line, .int .i64 nn, .string sx, .slice (some ⟨kb, 0, none⟩) 2 kc] 36)) := (Fr.refl nob w4).alloc _
          have F5 := hid (F4.out.tr f5)
          have XB := hid (show Blk (w4.alloc (.cells #[.int .i64 kn, .int .i64 line, .int .i64 nn, .string sx, .slice (some ⟨kb, 0, none⟩) 2 kc] 36)) w4.heap.size 36 _ from Blk.new w4 _ _)
          have y1 := (f5.cell (World.block_lt_of_cell? _ _ y1) (fun x => x)).trans y1
          have y2 := (f5.cell (World.block_lt_of_cell? _ _ y2) (fun x => x)).trans y2
          have y3 := (f5.cell (World.block_lt_of_cell? _ _ y3) (fun x => x)).trans y3
          have y4 := (f5.cell (World.block_lt_of_cell? _ _ y4) (fun x => x)).trans y4
          have c0 := (f5.cell (World.block_lt_of_cell? _ _ c0) (fun x => x)).trans c0
          have c1 := (f5.cell (World.block_lt_of_cell? _ _ c1) (fun x => x)).trans c1
          have p3 := (f5.cell (World.block_lt_of_cell? _ _ p3) (fun x => x)).trans p3
          have q3 := (f5.cell (World.block_lt_of_cell? _ _ q3) (fun x => x)).trans q3
          have d0 := (f5.cell (World.block_lt_of_cell? _ _ d0) (fun x => x)).trans d0
          clear x0 x1 x2 x3 x4 d1 f5
          generalize w4.heap.size = D at *
          generalize w4.alloc (.cells #[.int .i64 kn, .int .i64 line, .int .i64 nn, .string sx, .slice (some ⟨kb, 0, none⟩) 2 kc] 36) = w5 at *
          have a3 : w5.cell? ⟨D, 3, none⟩ = some (.string sx) := by simpa using XB.out.cell 3
          have a4 : w5.cell? ⟨D, 4, none⟩ = some (.slice (some ⟨kb, 0, none⟩) 2 kc) := by simpa using XB.out.cell 4
          go_quiet (fail)
          go_wp2_with fail
          go_quiet (fail)
          go_wp2_with fail
          go_ret
          exact ⟨rfl, (by first | exact F5.out | exact (F5.out).drewN _ | exact ((F5.out).drewN _).drewN _ | exact (((F5.out).drewN _).drewN _).drewN _)⟩
end Go.Proofs.YtjhhlmonomeofaaGreatDoor
