/- Words: plain, digits. -/
import Derived.Test.YtngnipjfjhackaaDoorMem
import Derived.Test.YtngnipjfjhackaaDoorShelf
namespace Go.Proofs.YtngnipjfjhackaaDoor
open Go.RowKit
set_option linter.unusedVariables false
set_option linter.unusedSimpArgs false
/-- Bytes that may be seen, and are no blanks. -/
def seen (b : UInt8) : Bool := decide (33 ≤ b.toNat) && decide (b.toNat ≤ 126)
def plainB (l : List UInt8) : Bool := l.all seen
def plR (r : Nat) : Bool := decide (r < 33) || decide (126 < r)
theorem dec_low (s : ByteArray) (i : Nat) (h : (s.get! i).toNat < 128) : Utf8.decode s i = ((s.get! i).toNat, 1) := by
  unfold Utf8.decode
  simp only [Nat.add_zero]
  rw [if_pos (by omega)]
theorem dec_high (s : ByteArray) (i : Nat) (h : 128 ≤ (s.get! i).toNat) : 128 ≤ (Utf8.decode s i).1 := by
  unfold Utf8.decode
  simp only [Nat.add_zero]
  rw [if_neg (by omega)]
  (repeat' split) <;> simp_all [Utf8.runeError] <;> omega
theorem get_list (s : ByteArray) (i : Nat) (h : i < s.size) : s.data.toList[i]? = some (s.get! i) := by
  have h2 : i < s.data.size := h
  show s.data.toList[i]? = some (s.data[i]!)
  rw [Array.getElem?_toList, Array.getElem!_eq_getD, Array.getD_eq_getD_getElem?, Array.getElem?_eq_getElem h2]; rfl
theorem idx_plain (s : ByteArray) : ∀ (f pos : Nat), s.size ≤ pos + f → (0 ≤ Lib.idxFuncFrom plR true s f pos ↔ plainB (s.data.toList.drop pos) = false)
  | 0, pos, h => by
    rw [Lib.idxFuncFrom_end _ _ _ _ _ (by omega), List.drop_eq_nil_of_le (by simpa using h)]
    simp [plainB]
  | f + 1, pos, h => by
    by_cases hp : pos < s.size
    · have hg := get_list s pos hp
      have hlt : pos < s.data.toList.length := by simpa using hp
      have hd : s.data.toList.drop pos = s.get! pos :: s.data.toList.drop (pos + 1) := by
        rw [List.drop_eq_getElem_cons hlt]
        congr 1
        have := (List.getElem?_eq_getElem hlt).symm.trans hg
        exact Option.some.inj this
      unfold Lib.idxFuncFrom
      rw [if_pos hp, hd]
      have e : plainB (s.get! pos :: s.data.toList.drop (pos + 1)) = (seen (s.get! pos) && plainB (s.data.toList.drop (pos + 1))) := rfl
      rw [e]
      by_cases hb : (s.get! pos).toNat < 128
      · rw [dec_low s pos hb]
        by_cases hs : seen (s.get! pos) = true
        · have hq : plR (s.get! pos).toNat = false := by unfold seen at hs; unfold plR; simp at hs ⊢; omega
          rw [if_neg (by rw [hq]; decide), hs, Bool.true_and]
          exact idx_plain s f (pos + 1) (by omega)
        · have hq : plR (s.get! pos).toNat = true := by unfold seen at hs; unfold plR; simp at hs ⊢; omega
          have hs : seen (s.get! pos) = false := by simpa using hs
          rw [if_pos hq, hs]
          simp
      · have hq : plR (Utf8.decode s pos).1 = true := by have := dec_high s pos (by omega); unfold plR; simp; omega
        have hs : seen (s.get! pos) = false := by unfold seen; simp; omega
        rw [if_pos hq, hs]
        simp
    · rw [Lib.idxFuncFrom_end _ _ _ _ _ hp, List.drop_eq_nil_of_le (by simpa using hp)]
      simp [plainB]
theorem idx_plain0 (s : ByteArray) : decide (0 ≤ Lib.idxFunc plR true s) = !plainB s.data.toList := by
  have h := idx_plain s s.size 0 (by omega)
  rw [List.drop_zero] at h
  unfold Lib.idxFunc
  by_cases hp : plainB s.data.toList = true
  · rw [decide_eq_false (fun e => by have := h.1 e; rw [hp] at this; cases this), hp]; rfl
  · have hp : plainB s.data.toList = false := by simpa using hp
    rw [decide_eq_true (h.2 hp), hp]; rfl
set_option maxRecDepth 100000 in
theorem seen_pred (w : World) : Go.Proofs.PredAt Tryd.prog 46 #[] Go.Proofs.encR plR w := by
  intro W x _
  show Calls Tryd.prog 46 #[.int .i32 (x : Int)] W fun e w' => e = .returned (.bool (plR x)) ∧ ∃ q, w' = W.drewN q
  unfold plR
  by_cases h1 : x < 33
  · rw [decide_eq_true h1, Bool.true_or]
    have c1 : (x : Int) < 33 := by omega
    go_enter Tryd.func46, Tryd.ntmps46
    go_wp2_with fail
    go_ret
    exact ⟨rfl, 0, rfl⟩
  · rw [decide_eq_false h1, Bool.false_or]
    have c1 : ¬ (x : Int) < 33 := by omega
    by_cases h2 : 126 < x
    · have c2 : (126 : Int) < (x : Int) := by omega
      rw [decide_eq_true h2]
      go_enter Tryd.func46, Tryd.ntmps46
      go_wp2_with fail
      go_ret
      exact ⟨rfl, 0, rfl⟩
    · have c2 : ¬ (126 : Int) < (x : Int) := by omega
      rw [decide_eq_false h2]
      go_enter Tryd.func46, Tryd.ntmps46
      go_wp2_with fail
      go_ret
      exact ⟨rfl, 0, rfl⟩
set_option maxRecDepth 100000 in
theorem plain_any (s : ByteArray) (w : World) : Calls Tryd.prog 27 #[.string s] w fun e w' => e = .returned (.bool (plainB s.data.toList)) ∧ Fr nob w w' := by
  have HC := hid (Tryd.strings_ContainsFunc 46 #[] (enters_of Tryd.func46 (by kernel_rfl) rfl) plR s w (seen_pred w))
  have hi := idx_plain0 s
  go_enter Tryd.func27, Tryd.ntmps27
  go_wp2_with fail
  refine HC.out.mono ?_
  rintro e w2 ⟨rfl, hbl⟩
  have F2 := hid (show Fr nob w w2 from (Fr.of_below hbl).mono (fun k h1 h2 => absurd h1 (Nat.not_lt_of_le h2)))
  clear hbl
  rw [hi]
  go_wp2_with fail
  go_ret
  exact ⟨by simp, F2.out⟩
/-- A word's number: one that is written as it must be. -/
def numM (l : List UInt8) : Option Int := match Lib.atoiAll l with
  | .ok n => if Lib.itoa n = l then some n else none
  | _ => none
/-- strconv.Atoi of what is no number: an error that is not nil. -/
theorem atoi_bad (s : ByteArray) (hlim : s.size ≤ 281474976710656) (h : ∀ v, Lib.atoiAll s.data.toList ≠ .ok v) (tp : TypeId) (p : Value) (tp2 : TypeId) (p2 : Value) (w : World) (hs : w.var? Tryd.prog "strconv.ErrSyntax" = some #[.iface tp p]) (hr : w.var? Tryd.prog "strconv.ErrRange" = some #[.iface tp2 p2]) :
    Calls Tryd.prog 48 #[.string s] w fun e w' => ∃ n t v, e = .returned (.tuple #[.int .i64 n, .iface t v]) ∧ Fr nob w w' := by
  have toFr : ∀ {w' : World}, Below w.heap.size w w' → Fr nob w w' := fun hbl => (Fr.of_below hbl).mono (fun k h1 h2 => absurd h1 (Nat.not_lt_of_le h2))
  cases hh : Lib.atoiAll s.data.toList with
  | ok v => exact absurd hh (h v)
  | range =>
    refine (Tryd.strconv_Atoi_range_var s hlim hh tp2 p2 w hr).mono ?_
    rintro e w' ⟨N, rfl, _, _, hb⟩
    exact ⟨_, _, _, rfl, toFr hb⟩
  | _ =>
    refine (Go.Proofs.Any.strconv_Atoi_syntax_var Tryd.laysC172 s hlim hh tp p w hs).mono ?_
    rintro e w' ⟨N, rfl, _, _, hb⟩
    exact ⟨_, _, _, rfl, toFr hb⟩
end Go.Proofs.YtngnipjfjhackaaDoor
