/- The lexer's words and names: the walks. -/
import Derived.Test.YtcodonidmopodaaDoorLexC
namespace Go.Proofs.YtcodonidmopodaaDoor
open Go.RowKit
set_option linter.unusedVariables false
set_option linter.unusedSimpArgs false

def wordsS : List ByteArray := [⟨#[102, 110]⟩, ⟨#[108, 101, 116]⟩, ⟨#[105, 102]⟩, ⟨#[101, 108, 115, 101]⟩, ⟨#[119, 104, 105, 108, 101]⟩, ⟨#[114, 101, 116, 117, 114, 110]⟩, ⟨#[112, 114, 105, 110, 116]⟩, ⟨#[105, 110, 112, 117, 116]⟩, ⟨#[110, 101, 119]⟩, ⟨#[108, 101, 110]⟩, ⟨#[116, 114, 117, 101]⟩, ⟨#[102, 97, 108, 115, 101]⟩, ⟨#[105, 110, 116]⟩, ⟨#[98, 111, 111, 108]⟩, ⟨#[116, 101, 120, 116]⟩, ⟨#[108, 105, 115, 116]⟩]
def twosS : List ByteArray := [⟨#[124, 124]⟩, ⟨#[38, 38]⟩, ⟨#[60, 61]⟩, ⟨#[61, 61]⟩, ⟨#[33, 61]⟩]
def onesS : ByteArray := ⟨#[40, 41, 123, 125, 91, 93, 44, 59, 61, 60, 43, 45, 42, 47, 37, 33]⟩
def isIn (ss : List ByteArray) (l : List UInt8) : Bool := decide (l ∈ ss.map fun b => b.data.toList)
def wordB (l : List UInt8) : Bool := isIn wordsS l
def twoB (l : List UInt8) : Bool := isIn twosS l

theorem mem_bytes (ss : List ByteArray) (x : ByteArray) : isIn ss x.data.toList = Lib.containsS ss x := by
  unfold isIn
  have h : x.data.toList ∈ (ss.map fun b => b.data.toList) ↔ x ∈ ss := by
    rw [List.mem_map]
    constructor
    · rintro ⟨a, ha, he⟩
      have : a = x := by
        obtain ⟨⟨a⟩⟩ := a; obtain ⟨⟨x⟩⟩ := x; simp at he; subst he; rfl
      exact this ▸ ha
    · intro h; exact ⟨x, h, rfl⟩
  by_cases hx : x ∈ ss
  · rw [decide_eq_true (h.2 hx), (Lib.containsS_iff ss x).2 hx]
  · rw [decide_eq_false (fun e => hx (h.1 e))]
    cases hc : Lib.containsS ss x
    · rfl
    · exact absurd ((Lib.containsS_iff ss x).1 hc) hx

theorem cnt_words : Lib.countB ⟨(List.append [102, 110, 32, 108, 101, 116, 32, 105, 102, 32, 101, 108, 115, 101, 32, 119, 104, 105, 108, 101, 32, 114, 101, 116, 117, 114, 110, 32, 112, 114, 105, 110, 116, 32, 105, 110, 112, 117, 116, 32] [110, 101, 119, 32, 108, 101, 110, 32, 116, 114, 117, 101, 32, 102, 97, 108, 115, 101, 32, 105, 110, 116, 32, 98, 111, 111, 108, 32, 116, 101, 120, 116, 32, 108, 105, 115, 116]).toArray⟩ ⟨#[32]⟩ = 15 := by kernel_rfl
theorem spl_words : Lib.splitB ⟨#[32]⟩ 0 15 ⟨(List.append [102, 110, 32, 108, 101, 116, 32, 105, 102, 32, 101, 108, 115, 101, 32, 119, 104, 105, 108, 101, 32, 114, 101, 116, 117, 114, 110, 32, 112, 114, 105, 110, 116, 32, 105, 110, 112, 117, 116, 32] [110, 101, 119, 32, 108, 101, 110, 32, 116, 114, 117, 101, 32, 102, 97, 108, 115, 101, 32, 105, 110, 116, 32, 98, 111, 111, 108, 32, 116, 101, 120, 116, 32, 108, 105, 115, 116]).toArray⟩ = wordsS := by kernel_rfl
theorem split_words (w : World) (hv : Vars w) : Calls Tryd.prog 27 #[.string ⟨(List.append [102, 110, 32, 108, 101, 116, 32, 105, 102, 32, 101, 108, 115, 101, 32, 119, 104, 105, 108, 101, 32, 114, 101, 116, 117, 114, 110, 32, 112, 114, 105, 110, 116, 32, 105, 110, 112, 117, 116, 32] [110, 101, 119, 32, 108, 101, 110, 32, 116, 114, 117, 101, 32, 102, 97, 108, 115, 101, 32, 105, 110, 116, 32, 98, 111, 111, 108, 32, 116, 101, 120, 116, 32, 108, 105, 115, 116]).toArray⟩, .string ⟨#[32]⟩] w fun e w' =>
    e = .returned (.slice (some ⟨w.heap.size, 0, none⟩) 16 16) ∧ w' = w.alloc (.cells (wordsS.map Value.string).toArray 9) := by
  obtain ⟨m, hm⟩ := hv.most
  refine (Tryd.strings_Split _ _ m w (by decide) hm (by decide)).mono ?_
  rintro e w' ⟨rfl, rfl⟩
  rw [cnt_words, spl_words]
  exact ⟨rfl, rfl⟩
theorem cnt_twos : Lib.countB ⟨#[124, 124, 32, 38, 38, 32, 60, 61, 32, 61, 61, 32, 33, 61]⟩ ⟨#[32]⟩ = 4 := by kernel_rfl
theorem spl_twos : Lib.splitB ⟨#[32]⟩ 0 4 ⟨#[124, 124, 32, 38, 38, 32, 60, 61, 32, 61, 61, 32, 33, 61]⟩ = twosS := by kernel_rfl
theorem split_twos (w : World) (hv : Vars w) : Calls Tryd.prog 27 #[.string ⟨#[124, 124, 32, 38, 38, 32, 60, 61, 32, 61, 61, 32, 33, 61]⟩, .string ⟨#[32]⟩] w fun e w' =>
    e = .returned (.slice (some ⟨w.heap.size, 0, none⟩) 5 5) ∧ w' = w.alloc (.cells (twosS.map Value.string).toArray 9) := by
  obtain ⟨m, hm⟩ := hv.most
  refine (Tryd.strings_Split _ _ m w (by decide) hm (by decide)).mono ?_
  rintro e w' ⟨rfl, rfl⟩
  rw [cnt_twos, spl_twos]
  exact ⟨rfl, rfl⟩
theorem among (ss : List ByteArray) (n : Nat) (hn : ss.length = n) (hm : n ≤ 9223372036854775807) (x : ByteArray) (w : World) :
    Calls Tryd.prog 26 #[.slice (some ⟨w.heap.size, 0, none⟩) n n, .string x] (w.alloc (.cells (ss.map Value.string).toArray 9)) fun e w' =>
      e = .returned (.bool (isIn ss x.data.toList)) ∧ w' = w.alloc (.cells (ss.map Value.string).toArray 9) := by
  refine (Tryd.slices_Contains_string _ _ _ _ ss x _ (by omega) hm (fun j hj => ?_)).mono ?_
  · have := (Blk.new w 9 (ss.map Value.string).toArray).cell j
    rw [Nat.zero_add, this]
    simp [List.getD, hj]
  · rintro e w' ⟨rfl, rfl⟩
    rw [List.take_of_length_le (by omega), mem_bytes]
    exact ⟨rfl, rfl⟩

theorem word_any (s : ByteArray) (w : World) (hv : Vars w) : Calls Tryd.prog 14 #[.string s] w fun e w' => e = .returned (.bool (wordB s.data.toList)) ∧ Fr nob w w' := by
  unfold wordB
  have V := hid hv
  clear hv
  go_enter Tryd.func14, Tryd.ntmps14
  go_wp2_with (first | (go_at_call 27; go_must (refine (split_words _ V.out).mono ?_; rintro e w1 ⟨rfl, rfl⟩)) | (go_at_call 26; go_must (refine (among wordsS 16 rfl (by decide) _ w).mono ?_; rintro e w1 ⟨rfl, rfl⟩)))
  go_ret
  exact ⟨rfl, (Fr.refl nob w).alloc _⟩

def nameM (l : List UInt8) : One := if wordB (l.take (runN withinI l)) then .ok 4 0 (runN withinI l) (runN withinI l) else if 8 < runN withinI l then .err 13 else .ok 3 0 (runN withinI l) (runN withinI l)

set_option maxHeartbeats 800000 in
theorem name_any (s : ByteArray) (w : World) (hs : s.size ≤ 281474976710656) (hv : Vars w) :
    Calls Tryd.prog 36 #[.string s] w fun e w' => e = .returned (oneV s (nameM s.data.toList)) ∧ Fr nob w w' := by
  have hn := runN_le withinI s.data.toList
  have hn2 : runN withinI s.data.toList ≤ s.size := by simpa using hn
  have hex : (s.extract 0 (runN withinI s.data.toList)).data.toList = s.data.toList.take (runN withinI s.data.toList) := ext_take _ _
  have hr := hid (run_within s (by omega))
  have HW := hid (fun w' hv' => word_any (s.extract 0 (runN withinI s.data.toList)) w' hv')
  rw [hex] at HW
  unfold nameM
  generalize runN withinI s.data.toList = n at *
  generalize wordB (s.data.toList.take n) = b at *
  have V := hid hv
  clear hv hex hn
  cases b with
  | true =>
    go_enter Tryd.func36, Tryd.ntmps36
    go_wp2_with (first | (go_at_call 23; refine (hr.out _).mono ?_; rintro e w1 ⟨rfl, rfl⟩) | (go_at_call 14; go_must (refine (HW.out _ (V.out.fr ((Fr.refl nob w).alloc _))).mono ?_; rintro e w2 ⟨rfl, hf⟩; have F2 := hid hf; (have B := (Blk.new w 29 #[.int .i64 0, .string ⟨#[]⟩, .int .i64 0]).fr F2.out (fun x => x)); have c0 := B.cell 0; have c1 := B.cell 1; have c2 := B.cell 2; have f0 := B.frozen 0; have f1 := B.frozen 1; have f2 := B.frozen 2; clear B; clear hf)))
    refine bodyPost_ret (v := oneV s (.ok 4 0 n n)) (by simp [results, Tryd.results36, go_sem, oneV, tokV, c0, c1, c2]; try rfl) rfl ⟨by simp, Fr.box3 F2.out _ _ _⟩
  | false =>
    by_cases h8 : 8 < n
    · have h3 : (8 : Int) < (n : Int) := by omega
      rw [if_neg (by decide), if_pos h8]
      clear h8
      go_enter Tryd.func36, Tryd.ntmps36
      go_wp2_with (first | (go_at_call 23; refine (hr.out _).mono ?_; rintro e w1 ⟨rfl, rfl⟩) | (go_at_call 14; go_must (refine (HW.out _ (V.out.fr ((Fr.refl nob w).alloc _))).mono ?_; rintro e w2 ⟨rfl, hf⟩; have F2 := hid hf; (have B := (Blk.new w 29 #[.int .i64 0, .string ⟨#[]⟩, .int .i64 0]).fr F2.out (fun x => x)); have c0 := B.cell 0; have c1 := B.cell 1; have c2 := B.cell 2; have f0 := B.frozen 0; have f1 := B.frozen 1; have f2 := B.frozen 2; clear B; clear hf)))
      refine bodyPost_ret (v := oneV s (.err 13)) (by simp [results, Tryd.results36, go_sem, oneV, tokV, c0, c1, c2]; try rfl) rfl ⟨by simp, Fr.box3 F2.out _ _ _⟩
    · have h3 : (n : Int) ≤ 8 := by omega
      rw [if_neg (by decide), if_neg h8]
      clear h8
      go_enter Tryd.func36, Tryd.ntmps36
      go_wp2_with (first | (go_at_call 23; refine (hr.out _).mono ?_; rintro e w1 ⟨rfl, rfl⟩) | (go_at_call 14; go_must (refine (HW.out _ (V.out.fr ((Fr.refl nob w).alloc _))).mono ?_; rintro e w2 ⟨rfl, hf⟩; have F2 := hid hf; (have B := (Blk.new w 29 #[.int .i64 0, .string ⟨#[]⟩, .int .i64 0]).fr F2.out (fun x => x)); have c0 := B.cell 0; have c1 := B.cell 1; have c2 := B.cell 2; have f0 := B.frozen 0; have f1 := B.frozen 1; have f2 := B.frozen 2; clear B; clear hf)))
      refine bodyPost_ret (v := oneV s (.ok 3 0 n n)) (by simp [results, Tryd.results36, go_sem, oneV, tokV, c0, c1, c2]; try rfl) rfl ⟨by simp, Fr.box3 F2.out _ _ _⟩
end Go.Proofs.YtcodonidmopodaaDoor
