/- Words: numbers and values, put and taken. -/
import Derived.Test.YtngnipjfjhackaaDoorWdK
namespace Go.Proofs.YtngnipjfjhackaaDoor
open Go.RowKit
set_option linter.unusedVariables false
set_option linter.unusedSimpArgs false
def RngC (c : CmdM) : Prop := -9223372036854775808 ≤ c.n ∧ c.n ≤ 9223372036854775807 ∧ -9223372036854775808 ≤ c.vn ∧ c.vn ≤ 9223372036854775807
set_option maxRecDepth 100000 in
theorem putN_any (g : Nat) (c : CmdM) (hc : RngC c) (w : World) (h : CmdAt w g c) (hv : Vars w) : Calls Tryd.prog 30 #[.pointer (some ⟨g, 0, none⟩)] w fun e w' => e = .returned (.tuple #[.string ⟨(Lib.itoa c.n).toArray⟩, .bool true]) ∧ Fr nob w w' := by
  have HI := hid (fun (wx : World) (h : Vars wx) => by
    obtain ⟨k, hk, hlt, ht⟩ := h.tab
    exact Tryd.strconv_Itoa c.n hc.1 hc.2.1 wx ht)
  have V := hid hv
  have c3 : w.cell? ⟨g, 3, none⟩ = some (.int .i64 c.n) := by simpa [cmdC] using h.cell 3
  clear hv h hc
  generalize c.n = n at *
  go_enter Tryd.func30, Tryd.ntmps30
  go_wp2_with fail
  refine (HI.out _ V.out).mono ?_
  rintro e w2 ⟨rfl, k, os, rfl⟩
  have F2 := hid (Fr.grew w k os)
  generalize Go.Sort.grow _ _ = w2 at *
  go_wp2_with fail
  go_ret2
  exact ⟨rfl, F2.out⟩
set_option maxRecDepth 100000 in
theorem takeN_any (g : Nat) (c : CmdM) (s : ByteArray) (hs : s.size ≤ 281474976710656) (w : World) (h : CmdAt w g c) (hv : Vars w) : Calls Tryd.prog 32 #[.pointer (some ⟨g, 0, none⟩), .string s] w fun e w' => e = .returned (.bool (numM s.data.toList).isSome) ∧ (∃ n, numV s.data.toList n ∧ CmdAt w' g { c with n := n }) ∧ Fr (oneb g) w w' := by
  have HD := hid (digits_any s hs w hv)
  have H := hid h
  obtain ⟨ok, hok⟩ : ∃ ok, (numM s.data.toList).isSome = ok := ⟨_, rfl⟩
  rw [hok] at HD ⊢
  clear hok h hv
  go_enter Tryd.func32, Tryd.ntmps32
  go_wp2_with fail
  refine HD.out.mono ?_
  rintro e w2 ⟨⟨n, rfl, hn⟩, hf⟩
  have HN := hid hn
  have F2 := hid hf
  have B2 := hid (show CmdAt w2 g c from H.out.fr hf (fun x => x))
  clear hf hn
  have c3 : w2.cell? ⟨g, 3, none⟩ = some (.int .i64 c.n) := by simpa [cmdC] using B2.out.cell 3
  have r3 := B2.out.frozen 3
  go_wp2_with fail
  have B3 := hid (show CmdAt (w2.setCell ⟨g, 3, none⟩ (.int .i64 n)) g { c with n := n } from B2.out.setCell 3 (.int .i64 n))
  have F3 := hid (F2.out.ofNo.setCell ⟨g, 3, none⟩ (.int .i64 n) (M := oneb g) (fun _ => rfl))
  generalize w2.setCell ⟨g, 3, none⟩ (.int .i64 n) = w3 at *
  go_ret
  exact ⟨rfl, ⟨n, HN.out, B3.out⟩, F3.out⟩
/-- What a value is as a word is read as. -/
def readS (s : ByteArray) : Option (Int × Int × ByteArray) :=
  if s.toList = [116, 114, 117, 101] then some (2, 1, ⟨#[]⟩)
  else if s.toList = [102, 97, 108, 115, 101] then some (2, 0, ⟨#[]⟩)
  else if 2 ≤ s.size ∧ Lib.hasPrefix s.data.toList [34] = true ∧ Lib.hasSuffix s.data.toList [34] = true then
    (if mayW 3 0 (s.extract 1 (s.size - 1)) = true then some (3, 0, s.extract 1 (s.size - 1)) else none)
  else (numM s.data.toList).map fun n => (1, n, ⟨#[]⟩)
theorem read_any (s : ByteArray) (hs : s.size ≤ 281474976710656) (w : World) (hv : Vars w) :
    Calls Tryd.prog 38 #[.string s] w fun e w' => (∃ t n x, e = .returned (.tuple #[valV t n x, .bool (readS s).isSome]) ∧ ∀ y, readS s = some y → y = (t, n, x)) ∧ Fr nob w w' := by
  unfold readS
  by_cases h1 : s.toList = [116, 114, 117, 101]
  · rw [if_pos h1]
    exact (read_true s (by rw [h1]; rfl) w).mono fun e w' ⟨he, hf⟩ => ⟨⟨2, 1, ⟨#[]⟩, he, fun y hy => (Option.some.inj hy).symm⟩, hf⟩
  · rw [if_neg h1]
    have b1 : (s.toList == [116, 114, 117, 101]) = false := beq_eq_false_iff_ne.2 h1
    by_cases h2 : s.toList = [102, 97, 108, 115, 101]
    · rw [if_pos h2]
      exact (read_false s b1 (by rw [h2]; rfl) w).mono fun e w' ⟨he, hf⟩ => ⟨⟨2, 0, ⟨#[]⟩, he, fun y hy => (Option.some.inj hy).symm⟩, hf⟩
    · rw [if_neg h2]
      have b2 : (s.toList == [102, 97, 108, 115, 101]) = false := beq_eq_false_iff_ne.2 h2
      by_cases h3 : 2 ≤ s.size ∧ Lib.hasPrefix s.data.toList [34] = true ∧ Lib.hasSuffix s.data.toList [34] = true
      · rw [if_pos h3]
        refine (read_text s hs b1 b2 h3.1 h3.2.1 h3.2.2 w).mono fun e w' ⟨he, hf⟩ => ⟨⟨3, 0, s.extract 1 (s.size - 1), ?_, fun y hy => ?_⟩, hf⟩
        · rw [he]
          cases mayW 3 0 (s.extract 1 (s.size - 1)) <;> rfl
        · split at hy
          · exact (Option.some.inj hy).symm
          · cases hy
      · rw [if_neg h3]
        refine (read_num s hs b1 b2 ?_ w hv).mono fun e w' ⟨⟨n, he, hn⟩, hf⟩ => ⟨⟨1, n, ⟨#[]⟩, ?_, fun y hy => ?_⟩, hf⟩
        · by_cases k1 : 2 ≤ s.size
          · right
            cases k2 : Lib.hasPrefix s.data.toList [34]
            · exact .inl rfl
            · cases k3 : Lib.hasSuffix s.data.toList [34]
              · exact .inr rfl
              · exact absurd ⟨k1, k2, k3⟩ h3
          · left; omega
        · rw [he]; simp
        · simp only [Option.map_eq_some_iff] at hy
          obtain ⟨m, hm, rfl⟩ := hy
          rw [hn m hm]
set_option maxRecDepth 100000 in
theorem takeV_any (g : Nat) (c : CmdM) (s : ByteArray) (hs : s.size ≤ 281474976710656) (w : World) (h : CmdAt w g c) (hv : Vars w) : Calls Tryd.prog 37 #[.pointer (some ⟨g, 0, none⟩), .string s] w fun e w' => e = .returned (.bool (readS s).isSome) ∧ (∃ t n x, (∀ y, readS s = some y → y = (t, n, x)) ∧ CmdAt w' g { c with t := t, vn := n, vs := x }) ∧ Fr (oneb g) w w' := by
  have HD := hid (read_any s hs w hv)
  have H := hid h
  obtain ⟨ok, hok⟩ : ∃ ok, (readS s).isSome = ok := ⟨_, rfl⟩
  rw [hok] at HD ⊢
  clear hok h hv
  go_enter Tryd.func37, Tryd.ntmps37
  go_wp2_with fail
  refine HD.out.mono ?_
  rintro e w2 ⟨⟨t, n, x, rfl, hn⟩, hf⟩
  have HN := hid hn
  have F2 := hid hf
  have B2 := hid (show CmdAt w2 g c from H.out.fr hf (fun x => x))
  clear hf hn
  unfold valV
  have c4 : w2.cell? ⟨g, 4, none⟩ = some (.int .i64 c.t) := by simpa [cmdC] using B2.out.cell 4
  have c5 : w2.cell? ⟨g, 5, none⟩ = some (.int .i64 c.vn) := by simpa [cmdC] using B2.out.cell 5
  have c6 : w2.cell? ⟨g, 6, none⟩ = some (.string c.vs) := by simpa [cmdC] using B2.out.cell 6
  have r4 := B2.out.frozen 4
  have r5 := B2.out.frozen 5
  have r6 := B2.out.frozen 6
  go_wp2_with fail
  have B3 := hid (show CmdAt (((w2.setCell ⟨g, 4, none⟩ (.int .i64 t)).setCell ⟨g, 5, none⟩ (.int .i64 n)).setCell ⟨g, 6, none⟩ (.string x)) g { c with t := t, vn := n, vs := x } from ((B2.out.setCell 4 (.int .i64 t)).setCell 5 (.int .i64 n)).setCell 6 (.string x))
  have F3 := hid (((F2.out.ofNo.setCell ⟨g, 4, none⟩ (.int .i64 t) (M := oneb g) (fun _ => rfl)).setCell ⟨g, 5, none⟩ (.int .i64 n) (fun _ => rfl)).setCell ⟨g, 6, none⟩ (.string x) (fun _ => rfl))
  generalize ((w2.setCell ⟨g, 4, none⟩ (.int .i64 t)).setCell ⟨g, 5, none⟩ (.int .i64 n)).setCell ⟨g, 6, none⟩ (.string x) = w3 at *
  go_ret
  exact ⟨rfl, ⟨t, n, x, HN.out, B3.out⟩, F3.out⟩
set_option maxRecDepth 100000 in
theorem putV_any (g : Nat) (c : CmdM) (hc : RngC c) (hvs : c.vs.size ≤ 281474976710656) (w : World) (h : CmdAt w g c) (hv : Vars w) : Calls Tryd.prog 34 #[.pointer (some ⟨g, 0, none⟩)] w fun e w' => e = .returned (.tuple #[.string ⟨(quotedL c.t c.vn c.vs).toArray⟩, .bool (mayW c.t c.vn c.vs)]) ∧ Fr nob w w' := by
  have HQ := hid (fun wx hvx => vquoted_any c.t c.vn c.vs hvs hc.2.2.1 hc.2.2.2 wx hvx)
  have HM := hid (fun wx => wmay_any c.t c.vn c.vs wx)
  have V := hid hv
  have H := hid h
  have CK := hid (show ∀ wx : World, CmdAt wx g c → wx.cell? ⟨g, 4, none⟩ = some (.int .i64 c.t) ∧ wx.cell? ⟨g, 5, none⟩ = some (.int .i64 c.vn) ∧ wx.cell? ⟨g, 6, none⟩ = some (.string c.vs) from fun wx h => ⟨by simpa [cmdC] using h.cell 4, by simpa [cmdC] using h.cell 5, by simpa [cmdC] using h.cell 6⟩)
  obtain ⟨c4, c5, c6⟩ := CK.out _ h
  clear h hv hc
  unfold valV at HQ HM
  generalize quotedL c.t c.vn c.vs = ql at *
  generalize mayW c.t c.vn c.vs = mw at *
  go_enter Tryd.func34, Tryd.ntmps34
  go_wp2_with fail
  go_region_held3 (fun wx => wx.cell? ⟨g, 4, none⟩ = some (.int .i64 c.t) ∧ wx.cell? ⟨g, 5, none⟩ = some (.int .i64 c.vn) ∧ wx.cell? ⟨g, 6, none⟩ = some (.string c.vs)) (first | exact K3.out | exact K2.out | go_keep)
    (first
      | (go_at_call 35; go_loud (refine (HQ.out _ (V.out.fr (Fr.refl nob w).drew)).mono ?_); go_loud (rintro e w2 ⟨rfl, hf⟩); go_loud (have B2 := hid (show CmdAt w2 g c from H.out.fr ((Fr.refl nob w).drew.tr hf) (fun x => x))); go_loud (have K2 := hid (CK.out _ B2.out)); have F2 := hid ((Fr.refl nob w).drew.tr hf); clear hf)
      | (go_at_call 36; go_loud (refine (HM.out _).mono ?_); go_loud (rintro e w3 ⟨rfl, hf⟩); go_loud (have B3 := hid (show CmdAt w3 g c from B2.out.fr hf (fun x => x))); go_loud (have K3 := hid (CK.out _ B3.out)); have F3 := hid (F2.out.tr hf); clear hf))
  go_wp2_with fail
  go_ret2
  exact ⟨rfl, F3.out⟩
end Go.Proofs.YtngnipjfjhackaaDoor
