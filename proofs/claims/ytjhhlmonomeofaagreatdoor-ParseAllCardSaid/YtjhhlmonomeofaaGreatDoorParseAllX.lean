/- ParseAll: the walk. -/
import Derived.Test.YtjhhlmonomeofaaGreatDoorQA7
namespace Go.Proofs.YtjhhlmonomeofaaGreatDoor
open Go.RowKit
set_option linter.unusedVariables false
set_option linter.unusedSimpArgs false
set_option maxHeartbeats 4000000 in
set_option maxRecDepth 100000 in
theorem parseall_walk (s : ByteArray) (w : World) (hv : PVars w) :
    Calls Tryz.prog 3 #[.string s] w fun e w' => e = .returned (.bool true) ∧ Fr nob w w' := by
  have V := hid hv
  have HSD := hid (shown_any w hv)
  have HSH := hid (fun w' => short_any s w')
  have hl : (s.data.toList.take 700).length ≤ 700 := by rw [List.length_take]; omega
  generalize s.data.toList.take 700 = l at *
  obtain ⟨r, hr⟩ := parse_some l
  have HP := hid (fun w' hv' => qall_any (bs l) w' (by rw [bs_size]; omega) hv' (r := r) hr)
  have HR := hid (fun w' => pall_any (bs l) w' (by rw [bs_size]; omega) (r := r) hr)
  have HT1 := hid (fun w' => qType_any l w')
  have HT2 := hid (fun w' => type_any (bs l) w')
  have SM := hid (parse_small hr)
  clear hv hl hr
  go_enter Tryz.func3, Tryz.ntmps3
  go_wp2_with fail
  refine HSD.out.mono ?_
  rintro e w1 ⟨rfl, hf⟩
  have F1 := hid hf
  clear hf
  go_wp2_with fail
  refine (HSH.out w1).mono ?_
  rintro e w2 ⟨rfl, hw⟩
  have hw' := hw.symm
  subst hw'
  clear hw
  go_wp2_with fail
  refine (HP.out _ (V.out.no F1.out)).mono ?_
  rintro e w3 ⟨hpa, hf⟩
  obtain ⟨nv, fv, lvs, pvs, rfl, ht⟩ := parseAt_tree hpa
  obtain ⟨NA, NC, rfl, _, _⟩ := ht.nodes.cap
  obtain ⟨FA, FC, rfl, _, _⟩ := ht.fns.cap
  have F3 := hid (F1.out.tr hf)
  have T3 := hid ht.zero
  clear hpa hf ht
  go_wp2_with fail
  have FA3 := hid (show Fr nob w3 (w3.alloc (.cells #[.slice NA (rNs r).length NC, .slice FA (rFs r).length FC] 27)) from (Fr.refl nob w3).alloc _)
  have B3 := hid (Blk.new w3 27 #[.slice NA (rNs r).length NC, .slice FA (rFs r).length FC])
  generalize w3.alloc (.cells #[.slice NA (rNs r).length NC, .slice FA (rFs r).length FC] 27) = w4 at *
  generalize w3.heap.size = B at *
  refine (HR.out _).mono ?_
  rintro e w5 ⟨hpa, hf⟩
  obtain ⟨nv, fv, lvs2, pvs2, rfl, ht⟩ := parseAt_tree hpa
  obtain ⟨MA, MC, rfl, _, _⟩ := ht.nodes.cap
  obtain ⟨GA, GC, rfl, _, _⟩ := ht.fns.cap
  have T5 := hid ht.zero
  have U5 := hid (T3.out.no (FA3.out.tr hf))
  have B5 := hid (B3.out.fr hf (fun x => x))
  have F5 := hid ((F3.out.tr FA3.out).tr hf)
  clear hpa hf ht
  have C5 := hid (B5.out.alloc (.cells #[.slice MA (rNs r).length MC, .slice GA (rFs r).length GC] 27))
  have FA5 := hid (show Fr nob w5 (w5.alloc (.cells #[.slice MA (rNs r).length MC, .slice GA (rFs r).length GC] 27)) from (Fr.refl nob w5).alloc _)
  have x0 : (w5.alloc (.cells #[.slice MA (rNs r).length MC, .slice GA (rFs r).length GC] 27)).cell? ⟨B, 0, none⟩ = some (.slice NA (rNs r).length NC) := by rw [C5.out.cell 0]; rfl
  have x1 : (w5.alloc (.cells #[.slice MA (rNs r).length MC, .slice GA (rFs r).length GC] 27)).cell? ⟨B, 1, none⟩ = some (.slice FA (rFs r).length FC) := by rw [C5.out.cell 1]; rfl
  have HSM := hid (same_any (U5.out.no FA5.out) (T5.out.no FA5.out) (by have := SM.out.1; omega) (by have := SM.out.2.1; omega) (fun f hf => by have := SM.out.2.2 f hf; omega))
  go_wp2_with fail
  refine HSM.out.mono ?_
  rintro e w6 ⟨rfl, hf⟩
  have F6 := hid ((F5.out.tr FA5.out).tr hf)
  clear hf x0 x1
  go_wp2_with fail
  refine (HT1.out _).mono ?_
  rintro e w7 ⟨rfl, hf⟩
  have F7 := hid (F6.out.tr hf)
  clear hf
  go_wp2_with fail
  refine (HT2.out _).mono ?_
  rintro e w8 ⟨rfl, rfl⟩
  go_wp2_with fail
  go_ret
  exact ⟨by simp; rfl, F7.out⟩
end Go.Proofs.YtjhhlmonomeofaaGreatDoor
