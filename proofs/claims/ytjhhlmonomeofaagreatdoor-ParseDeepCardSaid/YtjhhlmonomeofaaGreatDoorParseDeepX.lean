/- ParseDeep: the walk. Printed by wip/tools/mkparsedeep.py. -/
import Derived.Test.YtjhhlmonomeofaaGreatDoorQA7
namespace Go.Proofs.YtjhhlmonomeofaaGreatDoor
open Go.RowKit
set_option linter.unusedVariables false
set_option linter.unusedSimpArgs false
def dpSrc (x y : List UInt8) : List UInt8 := [102, 110, 32, 109, 97, 105, 110, 40, 41, 32, 123, 32, 112, 114, 105, 110, 116, 32] ++ x ++ [55] ++ y ++ [59, 32, 125]
def dpNs : List NodeM := [⟨1, 1, 7, [], []⟩, ⟨14, 1, 0, [], [0]⟩, ⟨18, 1, 0, [], [1]⟩]
def dpFs : List FuncM := [⟨[109, 97, 105, 110], 1, [], 0, 2⟩]
def dpLen : Option ParseR → Nat
  | some (.good ns _) => ns.length
  | _ => 0
set_option maxRecDepth 100000 in
theorem dp_plain : parseM [102, 110, 32, 109, 97, 105, 110, 40, 41, 32, 123, 32, 112, 114, 105, 110, 116, 32, 55, 59, 32, 125] = some (.good dpNs dpFs) := by kernel_rfl
set_option maxRecDepth 100000 in
theorem dp_paren (n : Nat) (h : n < 16) : parseM (dpSrc (List.replicate n 40) (List.replicate n 41)) = some (.good dpNs dpFs) := by
  rcases (by omega : n = 0 ∨ n = 1 ∨ n = 2 ∨ n = 3 ∨ n = 4 ∨ n = 5 ∨ n = 6 ∨ n = 7 ∨ n = 8 ∨ n = 9 ∨ n = 10 ∨ n = 11 ∨ n = 12 ∨ n = 13 ∨ n = 14 ∨ n = 15) with h | h | h | h | h | h | h | h | h | h | h | h | h | h | h | h <;> subst h <;> kernel_rfl
set_option maxRecDepth 100000 in
theorem dp_paren_no (n : Nat) (h : n < 32) (h2 : 16 ≤ n) : parseM (dpSrc (List.replicate n 40) (List.replicate n 41)) = some (.bad 33 21) := by
  rcases (by omega : n = 0 ∨ n = 1 ∨ n = 2 ∨ n = 3 ∨ n = 4 ∨ n = 5 ∨ n = 6 ∨ n = 7 ∨ n = 8 ∨ n = 9 ∨ n = 10 ∨ n = 11 ∨ n = 12 ∨ n = 13 ∨ n = 14 ∨ n = 15 ∨ n = 16 ∨ n = 17 ∨ n = 18 ∨ n = 19 ∨ n = 20 ∨ n = 21 ∨ n = 22 ∨ n = 23 ∨ n = 24 ∨ n = 25 ∨ n = 26 ∨ n = 27 ∨ n = 28 ∨ n = 29 ∨ n = 30 ∨ n = 31) with h | h | h | h | h | h | h | h | h | h | h | h | h | h | h | h | h | h | h | h | h | h | h | h | h | h | h | h | h | h | h | h <;> subst h <;> first | (exfalso; omega) | kernel_rfl
set_option maxRecDepth 100000 in
theorem dp_sign_no (n : Nat) (h : n < 32) (h2 : 16 ≤ n) : parseM (dpSrc (List.replicate n 45) []) = some (.bad 33 21) := by
  rcases (by omega : n = 0 ∨ n = 1 ∨ n = 2 ∨ n = 3 ∨ n = 4 ∨ n = 5 ∨ n = 6 ∨ n = 7 ∨ n = 8 ∨ n = 9 ∨ n = 10 ∨ n = 11 ∨ n = 12 ∨ n = 13 ∨ n = 14 ∨ n = 15 ∨ n = 16 ∨ n = 17 ∨ n = 18 ∨ n = 19 ∨ n = 20 ∨ n = 21 ∨ n = 22 ∨ n = 23 ∨ n = 24 ∨ n = 25 ∨ n = 26 ∨ n = 27 ∨ n = 28 ∨ n = 29 ∨ n = 30 ∨ n = 31) with h | h | h | h | h | h | h | h | h | h | h | h | h | h | h | h | h | h | h | h | h | h | h | h | h | h | h | h | h | h | h | h <;> subst h <;> first | (exfalso; omega) | kernel_rfl
set_option maxRecDepth 100000 in
theorem dp_sign_len (n : Nat) (h : n < 16) : dpLen (parseM (dpSrc (List.replicate n 45) [])) = n + 3 := by
  rcases (by omega : n = 0 ∨ n = 1 ∨ n = 2 ∨ n = 3 ∨ n = 4 ∨ n = 5 ∨ n = 6 ∨ n = 7 ∨ n = 8 ∨ n = 9 ∨ n = 10 ∨ n = 11 ∨ n = 12 ∨ n = 13 ∨ n = 14 ∨ n = 15) with h | h | h | h | h | h | h | h | h | h | h | h | h | h | h | h <;> subst h <;> kernel_rfl
theorem dp_sign (n : Nat) (h : n < 16) : ∃ ns fs, parseM (dpSrc (List.replicate n 45) []) = some (.good ns fs) ∧ ns.length = n + 3 := by
  have h1 := dp_sign_len n h
  obtain ⟨r, hr⟩ := parse_some (dpSrc (List.replicate n 45) [])
  rw [hr] at h1 ⊢
  cases r with
  | good ns fs => exact ⟨ns, fs, rfl, h1⟩
  | bad p e => exact absurd h1 (by show ¬ 0 = n + 3; omega)
theorem dp_cat (x y : List UInt8) : ((⟨#[102, 110, 32, 109, 97, 105, 110, 40, 41, 32, 123, 32, 112, 114, 105, 110, 116, 32]⟩ : ByteArray) ++ bs x ++ (⟨#[55]⟩ : ByteArray) ++ bs y ++ (⟨#[59, 32, 125]⟩ : ByteArray)).data.toList = dpSrc x y := by
  rw [cat_data, cat_data, cat_data, cat_data]
  rfl
theorem rep_cat (j : Nat) (c : UInt8) : bs (List.replicate j c) ++ (⟨#[c]⟩ : ByteArray) = bs (List.replicate (j + 1) c) := by
  rw [List.replicate_succ']
  show bs (List.replicate j c) ++ bs [c] = (⟨(List.replicate j c ++ [c]).toArray⟩ : ByteArray)
  have h : (bs (List.replicate j c) ++ bs [c]).data.toList = List.replicate j c ++ [c] := by rw [cat_data]; rfl
  rw [← h, Array.toArray_toList]
theorem dp_and (a : Int) (h1 : 0 ≤ a) (h2 : a < 256) : ∃ m : Nat, bits .and .u8 a 31 = (m : Int) ∧ m ≤ 31 :=
  ⟨a.toNat &&& (31 : Int).toNat, u8_and a 31 h1 h2 (by decide) (by decide), Nat.le_trans Nat.and_le_right (by decide)⟩
set_option maxHeartbeats 16000000 in
set_option maxRecDepth 100000 in
theorem parsedeep_sign (a : Int) (ha : 0 ≤ a ∧ a ≤ 255) (w : World) (hv : PVars w) :
    Calls Tryz.prog 6 #[.int .u8 a, .bool true] w fun e w' => e = .returned (.bool true) ∧ Fr nob w w' := by
  have V := hid hv
  have HSD := hid (shown_any w hv)
  obtain ⟨n, hn, hn31⟩ := dp_and a ha.1 (by omega)
  have hn32 : (n : Int) ≤ 31 := by omega
  have N32 := hid hn31
  clear hv ha hn31
  go_enter Tryz.func6, Tryz.ntmps6
  go_wp2_with fail
  refine HSD.out.mono ?_
  rintro e w1 ⟨rfl, hf⟩
  have F1 := hid hf
  clear hf
  go_wp2_with fail
  clear hn
  go_loopw [7, 8, 9] (fun x y i wr => ∃ j : Nat, j ≤ n ∧ x = .string (bs (List.replicate j 45)) ∧ y = .string (bs []) ∧ i = .int .i64 j ∧ wr = w1) (fun _ _ i _ => n - (intOf i).toNat)
  case atStart => exact ⟨0, Nat.zero_le _, rfl, rfl, rfl, rfl⟩
  case round =>
    obtain ⟨j, hj, rfl, rfl, rfl, hwr⟩ := hrel
    subst hwr
    have N31 := N32.out
    by_cases hlt : j < n
    · have hlt2 : (j : Int) < (n : Int) := by omega
      have R1 := hid (rep_cat j 45)
      have R2 := hid (rep_cat j 41)
      have s1 : (bs (List.replicate j (45 : UInt8))).size = j := by rw [bs_size]; simp
      have s2 : (bs (List.replicate j (41 : UInt8))).size = j := by rw [bs_size]; simp
      have q1 : (⟨#[45]⟩ : ByteArray).size = 1 := rfl
      have q2 : (⟨#[41]⟩ : ByteArray).size = 1 := rfl
      generalize bs (List.replicate j (45 : UInt8)) = gm at *
      have z1 : gm.size + (⟨#[45]⟩ : ByteArray).size ≤ 9223372036854775807 := by omega
      clear s1 s2 q1 q2 hlt
      go_wp2_with fail
      go_roundw
      case rel => exact ⟨j + 1, by omega, by rw [← R1.out], by first | rfl | rw [← R2.out], by go_num, trivial⟩
      case measure => simp [intOf]; omega
    · have hle : (n : Int) ≤ (j : Int) := by omega
      have hje : j = n := by omega
      subst hje
      have s1 : (bs (List.replicate j (45 : UInt8))).size ≤ 31 := by rw [bs_size]; simp; omega
      have s2 : (bs []).size ≤ 31 := by rw [bs_size]; simp 
      have DC := dp_cat (List.replicate j 45) []
      generalize hoo : bs (List.replicate j (45 : UInt8)) = oo at *
      generalize hee : bs [] = ee at *
      have n1 : (⟨#[102, 110, 32, 109, 97, 105, 110, 40, 41, 32, 123, 32, 112, 114, 105, 110, 116, 32]⟩ : ByteArray).size = 18 := rfl
      have n2 : (⟨#[55]⟩ : ByteArray).size = 1 := rfl
      have n3 : (⟨#[59, 32, 125]⟩ : ByteArray).size = 3 := rfl
      have z1 : (⟨#[102, 110, 32, 109, 97, 105, 110, 40, 41, 32, 123, 32, 112, 114, 105, 110, 116, 32]⟩ : ByteArray).size + oo.size ≤ 9223372036854775807 := by omega
      have z2 : ((⟨#[102, 110, 32, 109, 97, 105, 110, 40, 41, 32, 123, 32, 112, 114, 105, 110, 116, 32]⟩ : ByteArray) ++ oo).size + (⟨#[55]⟩ : ByteArray).size ≤ 9223372036854775807 := by rw [ByteArray.size_append]; omega
      have z3 : ((⟨#[102, 110, 32, 109, 97, 105, 110, 40, 41, 32, 123, 32, 112, 114, 105, 110, 116, 32]⟩ : ByteArray) ++ oo ++ (⟨#[55]⟩ : ByteArray)).size + ee.size ≤ 9223372036854775807 := by rw [ByteArray.size_append, ByteArray.size_append]; omega
      have z4 : ((⟨#[102, 110, 32, 109, 97, 105, 110, 40, 41, 32, 123, 32, 112, 114, 105, 110, 116, 32]⟩ : ByteArray) ++ oo ++ (⟨#[55]⟩ : ByteArray) ++ ee).size + (⟨#[59, 32, 125]⟩ : ByteArray).size ≤ 9223372036854775807 := by rw [ByteArray.size_append, ByteArray.size_append, ByteArray.size_append]; omega
      have z5 : ((⟨#[102, 110, 32, 109, 97, 105, 110, 40, 41, 32, 123, 32, 112, 114, 105, 110, 116, 32]⟩ : ByteArray) ++ oo ++ (⟨#[55]⟩ : ByteArray) ++ ee ++ (⟨#[59, 32, 125]⟩ : ByteArray)).size ≤ 281474976710656 := by rw [ByteArray.size_append, ByteArray.size_append, ByteArray.size_append, ByteArray.size_append]; omega
      have HPJ := hid (fun w' hv' r (hr : parseM (dpSrc (List.replicate j 45) []) = some r) => qall_any ((⟨#[102, 110, 32, 109, 97, 105, 110, 40, 41, 32, 123, 32, 112, 114, 105, 110, 116, 32]⟩ : ByteArray) ++ oo ++ (⟨#[55]⟩ : ByteArray) ++ ee ++ (⟨#[59, 32, 125]⟩ : ByteArray)) w' z5 hv' (r := r) (by rw [DC]; exact hr))
      clear DC hoo hee n1 n2 n3 z5 s1 s2 hlt hj
      by_cases h16 : 16 ≤ j
      · have h17 : (16 : Int) ≤ (j : Int) := by omega
        have HR := hid (dp_sign_no j (by omega) h16)
        clear h16
        go_wp2_with fail
        refine (HPJ.out _ (V.out.no F1.out) _ HR.out).mono ?_
        rintro e w3 ⟨hpj, hf⟩
        have hpj : e = .returned (.tuple #[.agg #[.slice none 0 0, .slice none 0 0], .int .i64 ((33 : Nat) : Int), .int .i64 ((21 : Nat) : Int)]) := hpj
        subst hpj
        have F3 := hid ((F1.out.tr hf).alloc (.cells #[.slice none 0 0, .slice none 0 0] 27))
        clear hf
        go_wp2_with fail
        go_ret
        exact ⟨rfl, F3.out⟩
      · have h17 : (j : Int) < 16 := by omega
        have HPP := hid (fun w' hv' => qall_any (⟨#[102, 110, 32, 109, 97, 105, 110, 40, 41, 32, 123, 32, 112, 114, 105, 110, 116, 32, 55, 59, 32, 125]⟩ : ByteArray) w' (by decide) hv' (r := .good dpNs dpFs) dp_plain)
        obtain ⟨ns, fs, hr, hnl⟩ := dp_sign j (by omega)
        have HR := hid hr
        have HNL := hid hnl
        clear hr hnl h16
        go_wp2_with fail
        refine (HPJ.out _ (V.out.no F1.out) _ HR.out).mono ?_
        rintro e w3 ⟨⟨nv, fv, lvs, pvs, rfl, ht⟩, hf⟩
        obtain ⟨NA, NC, rfl, _, _⟩ := ht.nodes.cap
        obtain ⟨FA, FC, rfl, _, _⟩ := ht.fns.cap
        have F3 := hid (F1.out.tr hf)
        have TT := hid ht.zero
        clear hf ht
        go_wp2_with fail
        have F4 := hid (F3.out.alloc (.cells #[.slice NA ns.length NC, .slice FA fs.length FC] 27))
        have BA := hid (show TB w3.heap.size (.slice NA ns.length NC) (.slice FA fs.length FC) lvs pvs ns fs (w3.alloc (.cells #[.slice NA ns.length NC, .slice FA fs.length FC] 27)) from ⟨TT.out.no ((Fr.refl nob w3).alloc _), Blk.new w3 _ _⟩)
        clear TT
        generalize w3.alloc (.cells #[.slice NA ns.length NC, .slice FA fs.length FC] 27) = w4 at *
        generalize w3.heap.size = C1 at *
        refine (HPP.out _ (V.out.no F4.out)).mono ?_
        rintro e w5 ⟨⟨nv, fv, lvs2, pvs2, rfl, ht⟩, hf⟩
        obtain ⟨MA, MC, rfl, _, _⟩ := ht.nodes.cap
        obtain ⟨GA, GC, rfl, _, _⟩ := ht.fns.cap
        have F5 := hid (F4.out.tr hf)
        have F6 := hid (F5.out.alloc (.cells #[.slice MA dpNs.length MC, .slice GA dpFs.length GC] 27))
        have BB := hid (show TB w5.heap.size (.slice MA dpNs.length MC) (.slice GA dpFs.length GC) lvs2 pvs2 dpNs dpFs (w5.alloc (.cells #[.slice MA dpNs.length MC, .slice GA dpFs.length GC] 27)) from ⟨ht.zero.no ((Fr.refl nob w5).alloc _), Blk.new w5 _ _⟩)
        have BA6 := hid (BA.out.no (hf.alloc (.cells #[.slice MA dpNs.length MC, .slice GA dpFs.length GC] 27)))
        clear hf ht BA
        obtain ⟨d0, d1⟩ := BA6.out.cells
        obtain ⟨d2, d3⟩ := BB.out.cells
        have hnl : (ns.length : Int) = (j : Int) + 3 := by have := HNL.out; omega
        have hj3 : wrap64 ((j : Int) + 3) = (j : Int) + 3 := by unfold wrap64; omega
        go_wp2_with fail
        go_ret
        exact ⟨by simp, F6.out⟩
set_option maxHeartbeats 16000000 in
set_option maxRecDepth 100000 in
theorem parsedeep_paren (a : Int) (ha : 0 ≤ a ∧ a ≤ 255) (w : World) (hv : PVars w) :
    Calls Tryz.prog 6 #[.int .u8 a, .bool false] w fun e w' => e = .returned (.bool true) ∧ Fr nob w w' := by
  have V := hid hv
  have HSD := hid (shown_any w hv)
  obtain ⟨n, hn, hn31⟩ := dp_and a ha.1 (by omega)
  have hn32 : (n : Int) ≤ 31 := by omega
  have N32 := hid hn31
  clear hv ha hn31
  go_enter Tryz.func6, Tryz.ntmps6
  go_wp2_with fail
  refine HSD.out.mono ?_
  rintro e w1 ⟨rfl, hf⟩
  have F1 := hid hf
  clear hf
  go_wp2_with fail
  clear hn
  go_loopw [7, 8, 9] (fun x y i wr => ∃ j : Nat, j ≤ n ∧ x = .string (bs (List.replicate j 40)) ∧ y = .string (bs (List.replicate j 41)) ∧ i = .int .i64 j ∧ wr = w1) (fun _ _ i _ => n - (intOf i).toNat)
  case atStart => exact ⟨0, Nat.zero_le _, rfl, rfl, rfl, rfl⟩
  case round =>
    obtain ⟨j, hj, rfl, rfl, rfl, hwr⟩ := hrel
    subst hwr
    have N31 := N32.out
    by_cases hlt : j < n
    · have hlt2 : (j : Int) < (n : Int) := by omega
      have R1 := hid (rep_cat j 40)
      have R2 := hid (rep_cat j 41)
      have s1 : (bs (List.replicate j (40 : UInt8))).size = j := by rw [bs_size]; simp
      have s2 : (bs (List.replicate j (41 : UInt8))).size = j := by rw [bs_size]; simp
      have q1 : (⟨#[40]⟩ : ByteArray).size = 1 := rfl
      have q2 : (⟨#[41]⟩ : ByteArray).size = 1 := rfl
      generalize bs (List.replicate j (40 : UInt8)) = gm at *
      generalize bs (List.replicate j (41 : UInt8)) = gn at *
      have z1 : gm.size + (⟨#[40]⟩ : ByteArray).size ≤ 9223372036854775807 := by omega
      have z2 : gn.size + (⟨#[41]⟩ : ByteArray).size ≤ 9223372036854775807 := by omega
      clear s1 s2 q1 q2 hlt
      go_wp2_with fail
      go_roundw
      case rel => exact ⟨j + 1, by omega, by rw [← R1.out], by first | rfl | rw [← R2.out], by go_num, trivial⟩
      case measure => simp [intOf]; omega
    · have hle : (n : Int) ≤ (j : Int) := by omega
      have hje : j = n := by omega
      subst hje
      have s1 : (bs (List.replicate j (40 : UInt8))).size ≤ 31 := by rw [bs_size]; simp; omega
      have s2 : (bs (List.replicate j 41)).size ≤ 31 := by rw [bs_size]; simp ; omega
      have DC := dp_cat (List.replicate j 40) (List.replicate j 41)
      generalize hoo : bs (List.replicate j (40 : UInt8)) = oo at *
      generalize hee : bs (List.replicate j 41) = ee at *
      have n1 : (⟨#[102, 110, 32, 109, 97, 105, 110, 40, 41, 32, 123, 32, 112, 114, 105, 110, 116, 32]⟩ : ByteArray).size = 18 := rfl
      have n2 : (⟨#[55]⟩ : ByteArray).size = 1 := rfl
      have n3 : (⟨#[59, 32, 125]⟩ : ByteArray).size = 3 := rfl
      have z1 : (⟨#[102, 110, 32, 109, 97, 105, 110, 40, 41, 32, 123, 32, 112, 114, 105, 110, 116, 32]⟩ : ByteArray).size + oo.size ≤ 9223372036854775807 := by omega
      have z2 : ((⟨#[102, 110, 32, 109, 97, 105, 110, 40, 41, 32, 123, 32, 112, 114, 105, 110, 116, 32]⟩ : ByteArray) ++ oo).size + (⟨#[55]⟩ : ByteArray).size ≤ 9223372036854775807 := by rw [ByteArray.size_append]; omega
      have z3 : ((⟨#[102, 110, 32, 109, 97, 105, 110, 40, 41, 32, 123, 32, 112, 114, 105, 110, 116, 32]⟩ : ByteArray) ++ oo ++ (⟨#[55]⟩ : ByteArray)).size + ee.size ≤ 9223372036854775807 := by rw [ByteArray.size_append, ByteArray.size_append]; omega
      have z4 : ((⟨#[102, 110, 32, 109, 97, 105, 110, 40, 41, 32, 123, 32, 112, 114, 105, 110, 116, 32]⟩ : ByteArray) ++ oo ++ (⟨#[55]⟩ : ByteArray) ++ ee).size + (⟨#[59, 32, 125]⟩ : ByteArray).size ≤ 9223372036854775807 := by rw [ByteArray.size_append, ByteArray.size_append, ByteArray.size_append]; omega
      have z5 : ((⟨#[102, 110, 32, 109, 97, 105, 110, 40, 41, 32, 123, 32, 112, 114, 105, 110, 116, 32]⟩ : ByteArray) ++ oo ++ (⟨#[55]⟩ : ByteArray) ++ ee ++ (⟨#[59, 32, 125]⟩ : ByteArray)).size ≤ 281474976710656 := by rw [ByteArray.size_append, ByteArray.size_append, ByteArray.size_append, ByteArray.size_append]; omega
      have HPJ := hid (fun w' hv' r (hr : parseM (dpSrc (List.replicate j 40) (List.replicate j 41)) = some r) => qall_any ((⟨#[102, 110, 32, 109, 97, 105, 110, 40, 41, 32, 123, 32, 112, 114, 105, 110, 116, 32]⟩ : ByteArray) ++ oo ++ (⟨#[55]⟩ : ByteArray) ++ ee ++ (⟨#[59, 32, 125]⟩ : ByteArray)) w' z5 hv' (r := r) (by rw [DC]; exact hr))
      clear DC hoo hee n1 n2 n3 z5 s1 s2 hlt hj
      by_cases h16 : 16 ≤ j
      · have h17 : (16 : Int) ≤ (j : Int) := by omega
        have HR := hid (dp_paren_no j (by omega) h16)
        clear h16
        go_wp2_with fail
        refine (HPJ.out _ (V.out.no F1.out) _ HR.out).mono ?_
        rintro e w3 ⟨hpj, hf⟩
        have hpj : e = .returned (.tuple #[.agg #[.slice none 0 0, .slice none 0 0], .int .i64 ((33 : Nat) : Int), .int .i64 ((21 : Nat) : Int)]) := hpj
        subst hpj
        have F3 := hid ((F1.out.tr hf).alloc (.cells #[.slice none 0 0, .slice none 0 0] 27))
        clear hf
        go_wp2_with fail
        go_ret
        exact ⟨rfl, F3.out⟩
      · have h17 : (j : Int) < 16 := by omega
        have HPP := hid (fun w' hv' => qall_any (⟨#[102, 110, 32, 109, 97, 105, 110, 40, 41, 32, 123, 32, 112, 114, 105, 110, 116, 32, 55, 59, 32, 125]⟩ : ByteArray) w' (by decide) hv' (r := .good dpNs dpFs) dp_plain)
        have HR := hid (dp_paren j (by omega))
        clear h16
        go_wp2_with fail
        refine (HPJ.out _ (V.out.no F1.out) _ HR.out).mono ?_
        rintro e w3 ⟨⟨nv, fv, lvs, pvs, rfl, ht⟩, hf⟩
        obtain ⟨NA, NC, rfl, _, _⟩ := ht.nodes.cap
        obtain ⟨FA, FC, rfl, _, _⟩ := ht.fns.cap
        have F3 := hid (F1.out.tr hf)
        have TT := hid ht.zero
        clear hf ht
        go_wp2_with fail
        have F4 := hid (F3.out.alloc (.cells #[.slice NA dpNs.length NC, .slice FA dpFs.length FC] 27))
        have BA := hid (show TB w3.heap.size (.slice NA dpNs.length NC) (.slice FA dpFs.length FC) lvs pvs dpNs dpFs (w3.alloc (.cells #[.slice NA dpNs.length NC, .slice FA dpFs.length FC] 27)) from ⟨TT.out.no ((Fr.refl nob w3).alloc _), Blk.new w3 _ _⟩)
        clear TT
        generalize w3.alloc (.cells #[.slice NA dpNs.length NC, .slice FA dpFs.length FC] 27) = w4 at *
        generalize w3.heap.size = C1 at *
        refine (HPP.out _ (V.out.no F4.out)).mono ?_
        rintro e w5 ⟨⟨nv, fv, lvs2, pvs2, rfl, ht⟩, hf⟩
        obtain ⟨MA, MC, rfl, _, _⟩ := ht.nodes.cap
        obtain ⟨GA, GC, rfl, _, _⟩ := ht.fns.cap
        have F5 := hid (F4.out.tr hf)
        have F6 := hid (F5.out.alloc (.cells #[.slice MA dpNs.length MC, .slice GA dpFs.length GC] 27))
        have BB := hid (show TB w5.heap.size (.slice MA dpNs.length MC) (.slice GA dpFs.length GC) lvs2 pvs2 dpNs dpFs (w5.alloc (.cells #[.slice MA dpNs.length MC, .slice GA dpFs.length GC] 27)) from ⟨ht.zero.no ((Fr.refl nob w5).alloc _), Blk.new w5 _ _⟩)
        have BA6 := hid (BA.out.no (hf.alloc (.cells #[.slice MA dpNs.length MC, .slice GA dpFs.length GC] 27)))
        clear hf ht BA
        obtain ⟨d0, d1⟩ := BA6.out.cells
        obtain ⟨d2, d3⟩ := BB.out.cells
        have HT := hid (same_any (nv := .slice NA dpNs.length NC) (fv := .slice FA dpFs.length FC) (nv2 := .slice MA dpNs.length MC) (fv2 := .slice GA dpFs.length GC) BA6.out.tree BB.out.tree (by decide) (by decide) (by decide))
        go_wp2_with fail
        refine HT.out.mono ?_
        rintro e w9 ⟨rfl, hf⟩
        have F9 := hid (F6.out.tr hf)
        clear hf
        go_wp2_with fail
        go_ret
        exact ⟨by simp, F9.out⟩
theorem parsedeep_walk (a : Int) (ha : 0 ≤ a ∧ a ≤ 255) (b : Bool) (w : World) (hv : PVars w) :
    Calls Tryz.prog 6 #[.int .u8 a, .bool b] w fun e w' => e = .returned (.bool true) ∧ Fr nob w w' := by
  cases b
  · exact parsedeep_paren a ha w hv
  · exact parsedeep_sign a ha w hv

end Go.Proofs.YtjhhlmonomeofaaGreatDoor
