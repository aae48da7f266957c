/- MQ2: CpTe, CpSt. -/
import Derived.Test.YtlbjicjinnnboaaGreatDoorMQ1
set_option linter.unusedVariables false
set_option linter.unusedSimpArgs false
/- Programs as instructions: the document's tests. Printed by wip/tools/mkcp3.py. -/
namespace Go.Proofs.YtlbjicjinnnboaaGreatDoor
open Go.RowKit
open Pw
section
variable {g : PgV} {at0 x at_ line n a b c k : Nat} {nm : List UInt8} {ks : List Nat} {l1 l2 l3 : List InsM}
set_option maxHeartbeats 2000000 in
set_option maxRecDepth 100000 in
theorem ct_if2 (hx : g.p.ns[x]? = some ⟨15, line, 0, [], [a, b]⟩) (h_a : CpOk 106 g a (at_) l1) (h_b : CpOk 40 g b (at_ + l1.length + 1) l2) (hat : at_ ≤ 3000) (hb : (l1 ++ [⟨17, ((at_ + l1.length + 1 + l2.length : Nat) : Int), 0, []⟩] ++ l2 ++ [] : List InsM).length ≤ 3000) : CpOk 108 g x at_ (l1 ++ [⟨17, ((at_ + l1.length + 1 + l2.length : Nat) : Int), 0, []⟩] ++ l2 ++ []) := by
 refine CpOk.intro hx hat hb fun w ai KA KC HAI S0 HO SL TY hv hc hk => ?_
 obtain ⟨kb, rfl⟩ := hk (by simp)
 have H_a := hid h_a
 have H_b := hid h_b
 clear hk hx hat hb h_a h_b
 go_enter Tryz.func108, Tryz.ntmps108
 go_wp2_with fail
 obtain ⟨w1, hw1, S1⟩ := CpW.ex S0.out HO.out 15 line 0 []
 erw [hw1]
 clear hc S0 HO hw1
 generalize w.heap.size = B at *
 have P := S1.out.k2
 go_still_tail 6, (by kernel_rfl)
 change wpList _ _ _ _ _ w1.drew
 have S2 := hid S1.out.drew
 clear P
 have P := S2.out.k2
 go_wp2_with fail
 clear P
 refine S2.out.call H_a.out (by have := HAI.out;  omega) fun w3 A_x c_x n_x S3 I3_x N_x M_x hf hw => ?_
 clear hf hw
 have P := S3.out.k2
 go_wp2_with fail
 have v0 : IntKind.i64.wrap (ai + (n_x : Int)) = ai + (n_x : Int) := IntWalk.i64_in _ (by omega)
 have v1 : IntKind.i64.wrap (ai + (n_x : Int) + 1) = ai + (n_x : Int) + 1 := IntWalk.i64_in _ (by omega)
 go_still_tail 10, (by kernel_rfl)
 change wpList _ _ _ _ _ w3.drew
 have S4 := hid S3.out.drew
 have I4_x := hid (I3_x.out.drew)
 clear P v0 v1
 have P := S4.out.k2
 go_wp2_with fail
 clear P
 refine S4.out.call H_b.out (by have := HAI.out; have := N_x.out; omega) fun w5 A_y c_y n_y S5 I5_y N_y M_y hf hw => ?_
 have E1 := hid (I4_x.out.lat hw)
 have I5_x := hid (I4_x.out.no hf)
 clear hf hw
 have P := S5.out.k2
 go_upto_region 7 with fail
 clear P
 have S6 := hid (S5.out.no ((Fr.refl nob w5).alloc (.cells #[] 45)))
 have I6_x := hid (I5_x.out.no ((Fr.refl nob w5).alloc (.cells #[] 45)))
 have I6_y := hid (I5_y.out.no ((Fr.refl nob w5).alloc (.cells #[] 45)))
 generalize w5.alloc (.cells #[] 45) = w6 at *
 generalize w5.heap.size = C_z at *
 have I6_z := hid (InsAt.nil w w6 0 (some ⟨C_z, 0, none⟩))
 have E2 := hid (sep_nil (some ⟨C_z, 0, none⟩) (.slice A_x (n_x) c_x))
 have E3 := hid (sep_nil (some ⟨C_z, 0, none⟩) (.slice A_y (n_y) c_y))
 have P := S6.out.k2
 go_wp2_with fail
 clear P
 refine S6.out.one ⟨17, ((at_ + l1.length + 1 + l2.length : Nat) : Int), 0, []⟩ rfl (by have := HAI.out; have := N_x.out; have := N_y.out; show _ = (((at_ + l1.length + 1 + l2.length : Nat) : Int) : Int); omega) rfl rfl fun w7 A_q c_q S7 I7_q hf hw => ?_
 have E4 := hid (I6_x.out.lat hw)
 have E5 := hid (I6_y.out.lat hw)
 have E6 := hid (I6_z.out.lat hw)
 have I7_x := hid (I6_x.out.no hf)
 have I7_y := hid (I6_y.out.no hf)
 have I7_z := hid (I6_z.out.no hf)
 clear hf hw
 go_wp2_with (first | (at_builtin; refine S7.out.app I7_x.out I7_q.out rfl _ _ rfl rfl rfl (by omega) fun A_v c_v w8 S8 I8_v hf hv => ?_; have I8_y := hid (I7_y.out.stay hf (E1.out)); have E7 := hid (I7_y.out.sepd (E1.out) hv); have I8_z := hid (I7_z.out.stay hf (E2.out)); have E8 := hid (I7_z.out.sepd (E2.out) hv); clear hf hv) | (at_builtin; refine S8.out.app I8_v.out I8_y.out rfl _ _ rfl rfl rfl (by omega) fun A_s c_s w9 S9 I9_s hf hv => ?_; have I9_z := hid (I8_z.out.stay hf (E8.out)); have E9 := hid (I8_z.out.sepd (E8.out) hv); clear hf hv) | (at_builtin; refine S9.out.app I9_s.out I9_z.out rfl _ _ rfl rfl rfl (by omega) fun A_t c_t w10 S10 I10_t hf hv => ?_; clear hf hv))
 go_ret
 exact ⟨_, _, _, rfl, I10_t.out, S10.out.f⟩
set_option maxHeartbeats 2000000 in
set_option maxRecDepth 100000 in
theorem ct_if3 (hx : g.p.ns[x]? = some ⟨15, line, 0, [], [a, b, c]⟩) (h_a : CpOk 106 g a (at_) l1) (h_b : CpOk 40 g b (at_ + l1.length + 1) l2) (h_c : CpOk 40 g c (at_ + l1.length + 1 + l2.length + 1) l3) (hat : at_ ≤ 3000) (hb : (l1 ++ [⟨17, ((at_ + l1.length + 1 + l2.length + 1 : Nat) : Int), 0, []⟩] ++ (l2 ++ [⟨16, ((at_ + l1.length + 1 + l2.length + 1 + l3.length : Nat) : Int), 0, []⟩]) ++ l3 : List InsM).length ≤ 3000) : CpOk 108 g x at_ (l1 ++ [⟨17, ((at_ + l1.length + 1 + l2.length + 1 : Nat) : Int), 0, []⟩] ++ (l2 ++ [⟨16, ((at_ + l1.length + 1 + l2.length + 1 + l3.length : Nat) : Int), 0, []⟩]) ++ l3) := by
 refine CpOk.intro hx hat hb fun w ai KA KC HAI S0 HO SL TY hv hc hk => ?_
 obtain ⟨kb, rfl⟩ := hk (by simp)
 have H_a := hid h_a
 have H_b := hid h_b
 have H_c := hid h_c
 clear hk hx hat hb h_a h_b h_c
 go_enter Tryz.func108, Tryz.ntmps108
 go_wp2_with fail
 obtain ⟨w1, hw1, S1⟩ := CpW.ex S0.out HO.out 15 line 0 []
 erw [hw1]
 clear hc S0 HO hw1
 generalize w.heap.size = B at *
 have P := S1.out.k3
 go_still_tail 6, (by kernel_rfl)
 change wpList _ _ _ _ _ w1.drew
 have S2 := hid S1.out.drew
 clear P
 have P := S2.out.k3
 go_wp2_with fail
 clear P
 refine S2.out.call H_a.out (by have := HAI.out;  omega) fun w3 A_x c_x n_x S3 I3_x N_x M_x hf hw => ?_
 clear hf hw
 have P := S3.out.k3
 go_wp2_with fail
 have v0 : IntKind.i64.wrap (ai + (n_x : Int)) = ai + (n_x : Int) := IntWalk.i64_in _ (by omega)
 have v1 : IntKind.i64.wrap (ai + (n_x : Int) + 1) = ai + (n_x : Int) + 1 := IntWalk.i64_in _ (by omega)
 go_still_tail 10, (by kernel_rfl)
 change wpList _ _ _ _ _ w3.drew
 have S4 := hid S3.out.drew
 have I4_x := hid (I3_x.out.drew)
 clear P v0 v1
 have P := S4.out.k3
 go_wp2_with fail
 clear P
 refine S4.out.call H_b.out (by have := HAI.out; have := N_x.out; omega) fun w5 A_y c_y n_y S5 I5_y N_y M_y hf hw => ?_
 have E1 := hid (I4_x.out.lat hw)
 have I5_x := hid (I4_x.out.no hf)
 clear hf hw
 have P := S5.out.k3
 go_upto_region 7 with fail
 clear P
 have S6 := hid (S5.out.no ((Fr.refl nob w5).alloc (.cells #[] 45)))
 have I6_x := hid (I5_x.out.no ((Fr.refl nob w5).alloc (.cells #[] 45)))
 have I6_y := hid (I5_y.out.no ((Fr.refl nob w5).alloc (.cells #[] 45)))
 generalize w5.alloc (.cells #[] 45) = w6 at *
 generalize w5.heap.size = C_z at *
 have P := S6.out.k3
 go_wp2_with fail
 have v0 : IntKind.i64.wrap (ai + (n_x : Int)) = ai + (n_x : Int) := IntWalk.i64_in _ (by omega)
 have v1 : IntKind.i64.wrap (ai + (n_x : Int) + 1) = ai + (n_x : Int) + 1 := IntWalk.i64_in _ (by omega)
 have v2 : IntKind.i64.wrap (ai + (n_x : Int) + 1 + (n_y : Int)) = ai + (n_x : Int) + 1 + (n_y : Int) := IntWalk.i64_in _ (by omega)
 have v3 : IntKind.i64.wrap (ai + (n_x : Int) + 1 + (n_y : Int) + 1) = ai + (n_x : Int) + 1 + (n_y : Int) + 1 := IntWalk.i64_in _ (by omega)
 go_still_tail 14, (by kernel_rfl)
 change wpList _ _ _ _ _ w6.drew
 have S7 := hid S6.out.drew
 have I7_x := hid (I6_x.out.drew)
 have I7_y := hid (I6_y.out.drew)
 clear P v0 v1 v2 v3
 have P := S7.out.k3
 go_wp2_with fail
 clear P
 refine S7.out.call H_c.out (by have := HAI.out; have := N_x.out; have := N_y.out; omega) fun w8 A_z c_z n_z S8 I8_z N_z M_z hf hw => ?_
 have E2 := hid (I7_x.out.lat hw)
 have E3 := hid (I7_y.out.lat hw)
 have I8_x := hid (I7_x.out.no hf)
 have I8_y := hid (I7_y.out.no hf)
 clear hf hw
 have P := S8.out.k3
 go_wp2_with fail
 refine S8.out.one ⟨16, ((at_ + l1.length + 1 + l2.length + 1 + l3.length : Nat) : Int), 0, []⟩ rfl (by have := HAI.out; have := N_x.out; have := N_y.out; have := N_z.out; show _ = (((at_ + l1.length + 1 + l2.length + 1 + l3.length : Nat) : Int) : Int); omega) rfl rfl fun w9 A_o c_o S9 I9_o hf hw => ?_
 have E4 := hid (I8_x.out.lat hw)
 have E5 := hid (I8_y.out.lat hw)
 have E6 := hid (I8_z.out.lat hw)
 have I9_x := hid (I8_x.out.no hf)
 have I9_y := hid (I8_y.out.no hf)
 have I9_z := hid (I8_z.out.no hf)
 clear hf hw
 go_wp2_with (at_builtin; refine S9.out.app I9_y.out I9_o.out rfl _ _ rfl rfl rfl (by omega) fun A_u c_u w10 S10 I10_u hf hv => ?_; have I10_x := hid (I9_x.out.stay hf ((fun b hb he => E1.out b he hb))); have E7 := hid (I9_x.out.sepd ((fun b hb he => E1.out b he hb)) hv); have I10_z := hid (I9_z.out.stay hf (E3.out)); have E8 := hid (I9_z.out.sepd (E3.out) hv); clear hf hv)
 clear P
 refine S10.out.one ⟨17, ((at_ + l1.length + 1 + l2.length + 1 : Nat) : Int), 0, []⟩ rfl (by have := HAI.out; have := N_x.out; have := N_y.out; have := N_z.out; show _ = (((at_ + l1.length + 1 + l2.length + 1 : Nat) : Int) : Int); omega) rfl rfl fun w11 A_q c_q S11 I11_q hf hw => ?_
 have E9 := hid (I10_x.out.lat hw)
 have E10 := hid (I10_z.out.lat hw)
 have E11 := hid (I10_u.out.lat hw)
 have I11_x := hid (I10_x.out.no hf)
 have I11_z := hid (I10_z.out.no hf)
 have I11_u := hid (I10_u.out.no hf)
 clear hf hw
 go_wp2_with (first | (at_builtin; refine S11.out.app I11_x.out I11_q.out rfl _ _ rfl rfl rfl (by omega) fun A_v c_v w12 S12 I12_v hf hv => ?_; have I12_z := hid (I11_z.out.stay hf (E2.out)); have E12 := hid (I11_z.out.sepd (E2.out) hv); have I12_u := hid (I11_u.out.stay hf ((fun b hb he => E7.out b he hb))); have E13 := hid (I11_u.out.sepd ((fun b hb he => E7.out b he hb)) hv); clear hf hv) | (at_builtin; refine S12.out.app I12_v.out I12_u.out rfl _ _ rfl rfl rfl (by omega) fun A_s c_s w13 S13 I13_s hf hv => ?_; have I13_z := hid (I12_z.out.stay hf (E12.out)); have E14 := hid (I12_z.out.sepd (E12.out) hv); clear hf hv) | (at_builtin; refine S13.out.app I13_s.out I13_z.out rfl _ _ rfl rfl rfl (by omega) fun A_t c_t w14 S14 I14_t hf hv => ?_; clear hf hv))
 go_ret
 exact ⟨_, _, _, rfl, I14_t.out, S14.out.f⟩
set_option maxHeartbeats 2000000 in
set_option maxRecDepth 100000 in
theorem ct_loop (hx : g.p.ns[x]? = some ⟨16, line, 0, [], [a, b]⟩) (h_a : CpOk 106 g a (at_) l1) (h_b : CpOk 40 g b (at_ + l1.length + 1) l2) (h0 : at_ = at0 + 1) (hat : at_ ≤ 3000) (hb : (l1 ++ [⟨17, ((at_ + l1.length + 1 + l2.length + 1 : Nat) : Int), 0, []⟩] ++ (l2 ++ [⟨16, ((at0 : Nat) : Int), 0, []⟩]) ++ [] : List InsM).length ≤ 3000) : CpOk 108 g x at_ (l1 ++ [⟨17, ((at_ + l1.length + 1 + l2.length + 1 : Nat) : Int), 0, []⟩] ++ (l2 ++ [⟨16, ((at0 : Nat) : Int), 0, []⟩]) ++ []) := by
 refine CpOk.intro hx hat hb fun w ai KA KC HAI S0 HO SL TY hv hc hk => ?_
 obtain ⟨kb, rfl⟩ := hk (by simp)
 have H_a := hid h_a
 have H_b := hid h_b
 have H0 := hid h0
 clear h0
 clear hk hx hat hb h_a h_b
 go_enter Tryz.func108, Tryz.ntmps108
 go_wp2_with fail
 obtain ⟨w1, hw1, S1⟩ := CpW.ex S0.out HO.out 16 line 0 []
 erw [hw1]
 clear hc S0 HO hw1
 generalize w.heap.size = B at *
 have P := S1.out.k2
 go_still_tail 6, (by kernel_rfl)
 change wpList _ _ _ _ _ w1.drew
 have S2 := hid S1.out.drew
 clear P
 have P := S2.out.k2
 go_wp2_with fail
 clear P
 refine S2.out.call H_a.out (by have := HAI.out;  omega) fun w3 A_x c_x n_x S3 I3_x N_x M_x hf hw => ?_
 clear hf hw
 have P := S3.out.k2
 go_wp2_with fail
 have v0 : IntKind.i64.wrap (ai + (n_x : Int)) = ai + (n_x : Int) := IntWalk.i64_in _ (by omega)
 have v1 : IntKind.i64.wrap (ai + (n_x : Int) + 1) = ai + (n_x : Int) + 1 := IntWalk.i64_in _ (by omega)
 go_still_tail 10, (by kernel_rfl)
 change wpList _ _ _ _ _ w3.drew
 have S4 := hid S3.out.drew
 have I4_x := hid (I3_x.out.drew)
 clear P v0 v1
 have P := S4.out.k2
 go_wp2_with fail
 clear P
 refine S4.out.call H_b.out (by have := HAI.out; have := N_x.out; omega) fun w5 A_y c_y n_y S5 I5_y N_y M_y hf hw => ?_
 have E1 := hid (I4_x.out.lat hw)
 have I5_x := hid (I4_x.out.no hf)
 clear hf hw
 have P := S5.out.k2
 go_wp2_with fail
 refine S5.out.one ⟨16, ((at0 : Nat) : Int), 0, []⟩ rfl (by have := HAI.out; have := H0.out; show _ = ((at0 : Nat) : Int); omega) rfl rfl fun w6 A_o c_o S6 I6_o hf hw => ?_
 have E2 := hid (I5_x.out.lat hw)
 have E3 := hid (I5_y.out.lat hw)
 have I6_x := hid (I5_x.out.no hf)
 have I6_y := hid (I5_y.out.no hf)
 clear hf hw
 clear P
 go_upto_region 7 with (at_builtin; refine S6.out.app I6_y.out I6_o.out rfl _ _ rfl rfl rfl (by omega) fun A_u c_u w7 S7 I7_u hf hv => ?_; have I7_x := hid (I6_x.out.stay hf ((fun b hb he => E1.out b he hb))); have E4 := hid (I6_x.out.sepd ((fun b hb he => E1.out b he hb)) hv); clear hf hv)
 have S8 := hid (S7.out.no ((Fr.refl nob w7).alloc (.cells #[] 45)))
 have I8_x := hid (I7_x.out.no ((Fr.refl nob w7).alloc (.cells #[] 45)))
 have I8_u := hid (I7_u.out.no ((Fr.refl nob w7).alloc (.cells #[] 45)))
 generalize w7.alloc (.cells #[] 45) = w8 at *
 generalize w7.heap.size = C_z at *
 have I8_z := hid (InsAt.nil w w8 0 (some ⟨C_z, 0, none⟩))
 have E5 := hid (sep_nil (some ⟨C_z, 0, none⟩) (.slice A_x (n_x) c_x))
 have E6 := hid (sep_nil (some ⟨C_z, 0, none⟩) (.slice A_u (n_y + 1) c_u))
 have P := S8.out.k2
 go_wp2_with fail
 clear P
 refine S8.out.one ⟨17, ((at_ + l1.length + 1 + l2.length + 1 : Nat) : Int), 0, []⟩ rfl (by have := HAI.out; have := N_x.out; have := N_y.out; show _ = (((at_ + l1.length + 1 + l2.length + 1 : Nat) : Int) : Int); omega) rfl rfl fun w9 A_q c_q S9 I9_q hf hw => ?_
 have E7 := hid (I8_x.out.lat hw)
 have E8 := hid (I8_u.out.lat hw)
 have E9 := hid (I8_z.out.lat hw)
 have I9_x := hid (I8_x.out.no hf)
 have I9_u := hid (I8_u.out.no hf)
 have I9_z := hid (I8_z.out.no hf)
 clear hf hw
 go_wp2_with (first | (at_builtin; refine S9.out.app I9_x.out I9_q.out rfl _ _ rfl rfl rfl (by omega) fun A_v c_v w10 S10 I10_v hf hv => ?_; have I10_u := hid (I9_u.out.stay hf ((fun b hb he => E4.out b he hb))); have E10 := hid (I9_u.out.sepd ((fun b hb he => E4.out b he hb)) hv); have I10_z := hid (I9_z.out.stay hf (E5.out)); have E11 := hid (I9_z.out.sepd (E5.out) hv); clear hf hv) | (at_builtin; refine S10.out.app I10_v.out I10_u.out rfl _ _ rfl rfl rfl (by omega) fun A_s c_s w11 S11 I11_s hf hv => ?_; have I11_z := hid (I10_z.out.stay hf (E11.out)); have E12 := hid (I10_z.out.sepd (E11.out) hv); clear hf hv) | (at_builtin; refine S11.out.app I11_s.out I11_z.out rfl _ _ rfl rfl rfl (by omega) fun A_t c_t w12 S12 I12_t hf hv => ?_; clear hf hv))
 go_ret
 exact ⟨_, _, _, rfl, I12_t.out, S12.out.f⟩
end
section
variable {g : PgV} {at0 x at_ line n a b c k : Nat} {nm : List UInt8} {ks : List Nat} {l1 l2 l3 : List InsM}
set_option maxHeartbeats 2000000 in
set_option maxRecDepth 100000 in
theorem cs_let (hx : g.p.ns[x]? = some ⟨10, line, 0, nm, [a]⟩) (h_a : CpOk 105 g a (at_ + 1) l1) (hat : at_ ≤ 3000) (hb : ([⟨1, (x : Int), 0, []⟩] ++ (l1 ++ [⟨6, slotP g.p x, 0, []⟩]) : List InsM).length ≤ 3000) : CpOk 69 g x at_ ([⟨1, (x : Int), 0, []⟩] ++ (l1 ++ [⟨6, slotP g.p x, 0, []⟩])) := by
 refine CpOk.intro hx hat hb fun w ai KA KC HAI S0 HO SL TY hv hc hk => ?_
 obtain ⟨kb, rfl⟩ := hk (by simp)
 have H_a := hid h_a
 clear hk hx hat hb h_a
 go_enter Tryz.func69, Tryz.ntmps69
 go_wp2_with fail
 obtain ⟨w1, hw1, S1⟩ := CpW.ex S0.out HO.out 10 line 0 nm
 erw [hw1]
 clear hc S0 HO hw1
 generalize w.heap.size = B at *
 refine S1.out.one ⟨1, (x : Int), 0, []⟩ rfl rfl rfl rfl fun w2 A_m c_m S2 I2_m hf hw => ?_
 clear hf hw
 go_upto_region 5 with fail
 have S3 := hid (S2.out.no ((Fr.refl nob w2).alloc (.cells #[] 45)))
 have I3_m := hid (I2_m.out.no ((Fr.refl nob w2).alloc (.cells #[] 45)))
 generalize w2.alloc (.cells #[] 45) = w3 at *
 generalize w2.heap.size = C_e at *
 have P := S3.out.k1
 go_wp2_with fail
 go_still_tail 6, (by kernel_rfl)
 change wpList _ _ _ _ _ w3.drew
 have S4 := hid S3.out.drew
 have I4_m := hid (I3_m.out.drew)
 clear P
 have P := S4.out.k1
 go_wp2_with fail
 clear P
 refine S4.out.call H_a.out (by have := HAI.out;  omega) fun w5 A_x c_x n_x S5 I5_x N_x M_x hf hw => ?_
 have E1 := hid (I4_m.out.lat hw)
 have I5_m := hid (I4_m.out.no hf)
 clear hf hw
 have P := S5.out.k1
 have sl := SL.out _ S5.out.s.pg
 go_wp2_with fail
 refine S5.out.one ⟨6, slotP g.p x, 0, []⟩ rfl rfl rfl rfl fun w6 A_o c_o S6 I6_o hf hw => ?_
 have E2 := hid (I5_m.out.lat hw)
 have E3 := hid (I5_x.out.lat hw)
 have I6_m := hid (I5_m.out.no hf)
 have I6_x := hid (I5_x.out.no hf)
 clear hf hw
 clear P sl
 go_wp2_with (first | (at_builtin; refine S6.out.app I6_x.out I6_o.out rfl _ _ rfl rfl rfl (by omega) fun A_r c_r w7 S7 I7_r hf hv => ?_; have I7_m := hid (I6_m.out.stay hf ((fun b hb he => E1.out b he hb))); have E4 := hid (I6_m.out.sepd ((fun b hb he => E1.out b he hb)) hv); clear hf hv) | (at_builtin; refine S7.out.app I7_m.out I7_r.out rfl _ _ rfl rfl rfl (by omega) fun A_z c_z w8 S8 I8_z hf hv => ?_; clear hf hv))
 go_ret
 exact ⟨_, _, _, rfl, I8_z.out, S8.out.f⟩
set_option maxHeartbeats 2000000 in
set_option maxRecDepth 100000 in
theorem cs_set (hx : g.p.ns[x]? = some ⟨11, line, 0, nm, [a]⟩) (h_a : CpOk 105 g a (at_ + 1) l1) (hat : at_ ≤ 3000) (hb : ([⟨1, (x : Int), 0, []⟩] ++ (l1 ++ [⟨6, slotP g.p x, 0, []⟩]) : List InsM).length ≤ 3000) : CpOk 69 g x at_ ([⟨1, (x : Int), 0, []⟩] ++ (l1 ++ [⟨6, slotP g.p x, 0, []⟩])) := by
 refine CpOk.intro hx hat hb fun w ai KA KC HAI S0 HO SL TY hv hc hk => ?_
 obtain ⟨kb, rfl⟩ := hk (by simp)
 have H_a := hid h_a
 clear hk hx hat hb h_a
 go_enter Tryz.func69, Tryz.ntmps69
 go_wp2_with fail
 obtain ⟨w1, hw1, S1⟩ := CpW.ex S0.out HO.out 11 line 0 nm
 erw [hw1]
 clear hc S0 HO hw1
 generalize w.heap.size = B at *
 refine S1.out.one ⟨1, (x : Int), 0, []⟩ rfl rfl rfl rfl fun w2 A_m c_m S2 I2_m hf hw => ?_
 clear hf hw
 go_upto_region 5 with fail
 have S3 := hid (S2.out.no ((Fr.refl nob w2).alloc (.cells #[] 45)))
 have I3_m := hid (I2_m.out.no ((Fr.refl nob w2).alloc (.cells #[] 45)))
 generalize w2.alloc (.cells #[] 45) = w3 at *
 generalize w2.heap.size = C_e at *
 have P := S3.out.k1
 go_wp2_with fail
 go_still_tail 6, (by kernel_rfl)
 change wpList _ _ _ _ _ w3.drew
 have S4 := hid S3.out.drew
 have I4_m := hid (I3_m.out.drew)
 clear P
 have P := S4.out.k1
 go_wp2_with fail
 clear P
 refine S4.out.call H_a.out (by have := HAI.out;  omega) fun w5 A_x c_x n_x S5 I5_x N_x M_x hf hw => ?_
 have E1 := hid (I4_m.out.lat hw)
 have I5_m := hid (I4_m.out.no hf)
 clear hf hw
 have P := S5.out.k1
 have sl := SL.out _ S5.out.s.pg
 go_wp2_with fail
 refine S5.out.one ⟨6, slotP g.p x, 0, []⟩ rfl rfl rfl rfl fun w6 A_o c_o S6 I6_o hf hw => ?_
 have E2 := hid (I5_m.out.lat hw)
 have E3 := hid (I5_x.out.lat hw)
 have I6_m := hid (I5_m.out.no hf)
 have I6_x := hid (I5_x.out.no hf)
 clear hf hw
 clear P sl
 go_wp2_with (first | (at_builtin; refine S6.out.app I6_x.out I6_o.out rfl _ _ rfl rfl rfl (by omega) fun A_r c_r w7 S7 I7_r hf hv => ?_; have I7_m := hid (I6_m.out.stay hf ((fun b hb he => E1.out b he hb))); have E4 := hid (I6_m.out.sepd ((fun b hb he => E1.out b he hb)) hv); clear hf hv) | (at_builtin; refine S7.out.app I7_m.out I7_r.out rfl _ _ rfl rfl rfl (by omega) fun A_z c_z w8 S8 I8_z hf hv => ?_; clear hf hv))
 go_ret
 exact ⟨_, _, _, rfl, I8_z.out, S8.out.f⟩
set_option maxHeartbeats 2000000 in
set_option maxRecDepth 100000 in
theorem cs_put (hx : g.p.ns[x]? = some ⟨12, line, 0, nm, [a, b]⟩) (h_a : CpOk 106 g a (at_ + 1) l1) (h_b : CpOk 106 g b (at_ + 1 + l1.length) l2) (hat : at_ ≤ 3000) (hb : ([⟨1, (x : Int), 0, []⟩] ++ (l1 ++ l2 ++ [⟨12, slotP g.p x, 0, []⟩]) : List InsM).length ≤ 3000) : CpOk 69 g x at_ ([⟨1, (x : Int), 0, []⟩] ++ (l1 ++ l2 ++ [⟨12, slotP g.p x, 0, []⟩])) := by
 refine CpOk.intro hx hat hb fun w ai KA KC HAI S0 HO SL TY hv hc hk => ?_
 obtain ⟨kb, rfl⟩ := hk (by simp)
 have H_a := hid h_a
 have H_b := hid h_b
 clear hk hx hat hb h_a h_b
 go_enter Tryz.func69, Tryz.ntmps69
 go_wp2_with fail
 obtain ⟨w1, hw1, S1⟩ := CpW.ex S0.out HO.out 12 line 0 nm
 erw [hw1]
 clear hc S0 HO hw1
 generalize w.heap.size = B at *
 refine S1.out.one ⟨1, (x : Int), 0, []⟩ rfl rfl rfl rfl fun w2 A_m c_m S2 I2_m hf hw => ?_
 clear hf hw
 go_upto_region 5 with fail
 have S3 := hid (S2.out.no ((Fr.refl nob w2).alloc (.cells #[] 45)))
 have I3_m := hid (I2_m.out.no ((Fr.refl nob w2).alloc (.cells #[] 45)))
 generalize w2.alloc (.cells #[] 45) = w3 at *
 generalize w2.heap.size = C_e at *
 have P := S3.out.k2
 go_wp2_with fail
 go_still_tail 6, (by kernel_rfl)
 change wpList _ _ _ _ _ w3.drew
 have S4 := hid S3.out.drew
 have I4_m := hid (I3_m.out.drew)
 clear P
 have P := S4.out.k2
 go_wp2_with fail
 clear P
 refine S4.out.call H_a.out (by have := HAI.out;  omega) fun w5 A_x c_x n_x S5 I5_x N_x M_x hf hw => ?_
 have E1 := hid (I4_m.out.lat hw)
 have I5_m := hid (I4_m.out.no hf)
 clear hf hw
 have P := S5.out.k2
 go_wp2_with fail
 have v0 : IntKind.i64.wrap (ai + 1 + (n_x : Int)) = ai + 1 + (n_x : Int) := IntWalk.i64_in _ (by omega)
 go_still_tail 9, (by kernel_rfl)
 change wpList _ _ _ _ _ w5.drew
 have S6 := hid S5.out.drew
 have I6_m := hid (I5_m.out.drew)
 have I6_x := hid (I5_x.out.drew)
 clear P v0
 have P := S6.out.k2
 go_wp2_with fail
 clear P
 refine S6.out.call H_b.out (by have := HAI.out; have := N_x.out; omega) fun w7 A_y c_y n_y S7 I7_y N_y M_y hf hw => ?_
 have E2 := hid (I6_m.out.lat hw)
 have E3 := hid (I6_x.out.lat hw)
 have I7_m := hid (I6_m.out.no hf)
 have I7_x := hid (I6_x.out.no hf)
 clear hf hw
 have P := S7.out.k2
 go_wp2_with fail
 have IX := hid (I7_x.out.drew)
 have IY := hid (I7_y.out.drew)
 have SK := hid (S7.out.drew)
 have DXY := hid (E3.out)
 have M := hid (I7_m.out.drew)
 have MX := hid ((fun b hb he => E1.out b he hb))
 clear I7_x I7_y S7 I7_m P
 have q3 := And.intro SK.out.s.cells.2.2.2.1 (SL.out _ SK.out.s.pg)
 go_region_law (first | ((refine step_append (v := .slice A_r (n_x + n_y) c_r) (n := n_x + n_y) (m := 1) (xs := insCells (l1 ++ l2)) (news := insCells ([⟨12, slotP g.p x, 0, []⟩] : List InsM)) rfl _ _ rfl TyIns rfl rfl R.out.own O.out.own.rd (insCells_one _) (by omega) (by unfold maxLen; omega) ?_); go_loud (intro A_z c_z wz ho hf hv); go_loud (have J := R.out.app SK.out.f ho hf hv O.out.len); go_loud (have Z := hid J.1); go_loud (have SZ := hid (CpW.mk (SK.out.s.stay R.out.own hf) J.2)); go_loud (have MZ := hid (M.out.stay hf MR.out)); go_loud (clear J ho hf hv)) | ((refine step_append (v := .slice A_x n_x c_x) (n := n_x) (m := n_y) (xs := insCells l1) (news := insCells l2) rfl _ _ rfl TyIns rfl rfl IX.out.own IY.out.own.rd (insCells_one _) (by omega) (by unfold maxLen; omega) ?_); go_loud (intro A_r c_r wr ho hf hv); go_loud (have J := IX.out.app SK.out.f ho hf hv IY.out.len); go_loud (have MR := hid (M.out.sepd MX.out hv)); go_loud (have M := hid (M.out.stay hf MX.out)); go_loud (have SK := hid (CpW.mk (SK.out.s.stay IX.out.own hf) J.2)); go_loud (have R := hid J.1); (try (have O := hid (O.out.stay hf DXO.out))); go_loud (clear J ho hf hv IX IY); go_loud (have q3 := And.intro SK.out.s.cells.2.2.2.1 (SL.out _ SK.out.s.pg))) | (go_simp; go_at_call 41; go_loud (refine SK.out.one ⟨12, slotP g.p x, 0, []⟩ rfl rfl rfl rfl fun wo A_o c_o SO O hf hw => ?_); (try (have R := hid (R.out.no hf))); (try (have DXO := hid (IX.out.lat hw))); (try (have IX := hid (IX.out.no hf))); (try (have IY := hid (IY.out.no hf))); go_loud (have M := hid (M.out.no hf)); go_loud (have SK := SO); go_loud (clear hf hw SO); go_loud (have q3 := And.intro SK.out.s.cells.2.2.2.1 (SL.out _ SK.out.s.pg))))
 all_goals
  go_wp2_with (at_builtin; first | (refine CpW.app SZ.out MZ.out Z.out rfl _ _ rfl rfl rfl (by omega) fun A_q c_q wq SQ IQ hf hv => ?_; clear hf hv) | (refine CpW.app (SZ.out.no ((Fr.refl nob _).drewN _)) (MZ.out.no ((Fr.refl nob _).drewN _)) (Z.out.no ((Fr.refl nob _).drewN _)) rfl _ _ rfl rfl rfl (by omega) fun A_q c_q wq SQ IQ hf hv => ?_; clear hf hv))
  go_ret
  exact ⟨_, _, _, rfl, IQ.out, SQ.out.f⟩
set_option maxHeartbeats 2000000 in
set_option maxRecDepth 100000 in
theorem cs_do (hx : g.p.ns[x]? = some ⟨13, line, 0, [], [a]⟩) (h_a : CpOk 107 g a (at_ + 1) l1) (hat : at_ ≤ 3000) (hb : ([⟨1, (x : Int), 0, []⟩] ++ (l1 ++ [⟨23, 0, 0, []⟩]) : List InsM).length ≤ 3000) : CpOk 69 g x at_ ([⟨1, (x : Int), 0, []⟩] ++ (l1 ++ [⟨23, 0, 0, []⟩])) := by
 refine CpOk.intro hx hat hb fun w ai KA KC HAI S0 HO SL TY hv hc hk => ?_
 obtain ⟨kb, rfl⟩ := hk (by simp)
 have H_a := hid h_a
 clear hk hx hat hb h_a
 go_enter Tryz.func69, Tryz.ntmps69
 go_wp2_with fail
 obtain ⟨w1, hw1, S1⟩ := CpW.ex S0.out HO.out 13 line 0 []
 erw [hw1]
 clear hc S0 HO hw1
 generalize w.heap.size = B at *
 refine S1.out.one ⟨1, (x : Int), 0, []⟩ rfl rfl rfl rfl fun w2 A_m c_m S2 I2_m hf hw => ?_
 clear hf hw
 go_upto_region 5 with fail
 have S3 := hid (S2.out.no ((Fr.refl nob w2).alloc (.cells #[] 45)))
 have I3_m := hid (I2_m.out.no ((Fr.refl nob w2).alloc (.cells #[] 45)))
 generalize w2.alloc (.cells #[] 45) = w3 at *
 generalize w2.heap.size = C_e at *
 have P := S3.out.k1
 go_wp2_with fail
 go_still_tail 6, (by kernel_rfl)
 change wpList _ _ _ _ _ w3.drew
 have S4 := hid S3.out.drew
 have I4_m := hid (I3_m.out.drew)
 clear P
 have P := S4.out.k1
 go_wp2_with fail
 clear P
 refine S4.out.call H_a.out (by have := HAI.out;  omega) fun w5 A_x c_x n_x S5 I5_x N_x M_x hf hw => ?_
 have E1 := hid (I4_m.out.lat hw)
 have I5_m := hid (I4_m.out.no hf)
 clear hf hw
 have P := S5.out.k1
 go_wp2_with fail
 refine S5.out.one ⟨23, 0, 0, []⟩ rfl rfl rfl rfl fun w6 A_o c_o S6 I6_o hf hw => ?_
 have E2 := hid (I5_m.out.lat hw)
 have E3 := hid (I5_x.out.lat hw)
 have I6_m := hid (I5_m.out.no hf)
 have I6_x := hid (I5_x.out.no hf)
 clear hf hw
 clear P
 go_wp2_with (first | (at_builtin; refine S6.out.app I6_x.out I6_o.out rfl _ _ rfl rfl rfl (by omega) fun A_r c_r w7 S7 I7_r hf hv => ?_; have I7_m := hid (I6_m.out.stay hf ((fun b hb he => E1.out b he hb))); have E4 := hid (I6_m.out.sepd ((fun b hb he => E1.out b he hb)) hv); clear hf hv) | (at_builtin; refine S7.out.app I7_m.out I7_r.out rfl _ _ rfl rfl rfl (by omega) fun A_z c_z w8 S8 I8_z hf hv => ?_; clear hf hv))
 go_ret
 exact ⟨_, _, _, rfl, I8_z.out, S8.out.f⟩
set_option maxHeartbeats 2000000 in
set_option maxRecDepth 100000 in
theorem cs_print (hx : g.p.ns[x]? = some ⟨14, line, 0, [], [a]⟩) (h_a : CpOk 106 g a (at_ + 1) l1) (hat : at_ ≤ 3000) (hb : ([⟨1, (x : Int), 0, []⟩] ++ (l1 ++ [⟨15, 0, 0, []⟩]) : List InsM).length ≤ 3000) : CpOk 69 g x at_ ([⟨1, (x : Int), 0, []⟩] ++ (l1 ++ [⟨15, 0, 0, []⟩])) := by
 refine CpOk.intro hx hat hb fun w ai KA KC HAI S0 HO SL TY hv hc hk => ?_
 obtain ⟨kb, rfl⟩ := hk (by simp)
 have H_a := hid h_a
 clear hk hx hat hb h_a
 go_enter Tryz.func69, Tryz.ntmps69
 go_wp2_with fail
 obtain ⟨w1, hw1, S1⟩ := CpW.ex S0.out HO.out 14 line 0 []
 erw [hw1]
 clear hc S0 HO hw1
 generalize w.heap.size = B at *
 refine S1.out.one ⟨1, (x : Int), 0, []⟩ rfl rfl rfl rfl fun w2 A_m c_m S2 I2_m hf hw => ?_
 clear hf hw
 go_upto_region 5 with fail
 have S3 := hid (S2.out.no ((Fr.refl nob w2).alloc (.cells #[] 45)))
 have I3_m := hid (I2_m.out.no ((Fr.refl nob w2).alloc (.cells #[] 45)))
 generalize w2.alloc (.cells #[] 45) = w3 at *
 generalize w2.heap.size = C_e at *
 have P := S3.out.k1
 go_wp2_with fail
 go_still_tail 6, (by kernel_rfl)
 change wpList _ _ _ _ _ w3.drew
 have S4 := hid S3.out.drew
 have I4_m := hid (I3_m.out.drew)
 clear P
 have P := S4.out.k1
 go_wp2_with fail
 clear P
 refine S4.out.call H_a.out (by have := HAI.out;  omega) fun w5 A_x c_x n_x S5 I5_x N_x M_x hf hw => ?_
 have E1 := hid (I4_m.out.lat hw)
 have I5_m := hid (I4_m.out.no hf)
 clear hf hw
 have P := S5.out.k1
 go_wp2_with fail
 refine S5.out.one ⟨15, 0, 0, []⟩ rfl rfl rfl rfl fun w6 A_o c_o S6 I6_o hf hw => ?_
 have E2 := hid (I5_m.out.lat hw)
 have E3 := hid (I5_x.out.lat hw)
 have I6_m := hid (I5_m.out.no hf)
 have I6_x := hid (I5_x.out.no hf)
 clear hf hw
 clear P
 go_wp2_with (first | (at_builtin; refine S6.out.app I6_x.out I6_o.out rfl _ _ rfl rfl rfl (by omega) fun A_r c_r w7 S7 I7_r hf hv => ?_; have I7_m := hid (I6_m.out.stay hf ((fun b hb he => E1.out b he hb))); have E4 := hid (I6_m.out.sepd ((fun b hb he => E1.out b he hb)) hv); clear hf hv) | (at_builtin; refine S7.out.app I7_m.out I7_r.out rfl _ _ rfl rfl rfl (by omega) fun A_z c_z w8 S8 I8_z hf hv => ?_; clear hf hv))
 go_ret
 exact ⟨_, _, _, rfl, I8_z.out, S8.out.f⟩
set_option maxHeartbeats 2000000 in
set_option maxRecDepth 100000 in
theorem cs_ret0 (hx : g.p.ns[x]? = some ⟨17, line, 0, [], []⟩) (hat : at_ ≤ 3000) (hb : ([⟨1, (x : Int), 0, []⟩] ++ [⟨22, 0, 0, []⟩] : List InsM).length ≤ 3000) : CpOk 69 g x at_ ([⟨1, (x : Int), 0, []⟩] ++ [⟨22, 0, 0, []⟩]) := by
 refine CpOk.intro hx hat hb fun w ai KA KC HAI S0 HO SL TY hv hc hk => ?_
 clear hk hx hat hb
 go_enter Tryz.func69, Tryz.ntmps69
 go_wp2_with fail
 obtain ⟨w1, hw1, S1⟩ := CpW.ex S0.out HO.out 17 line 0 []
 erw [hw1]
 clear hc S0 HO hw1
 generalize w.heap.size = B at *
 refine S1.out.one ⟨1, (x : Int), 0, []⟩ rfl rfl rfl rfl fun w2 A_m c_m S2 I2_m hf hw => ?_
 clear hf hw
 go_upto_region 5 with fail
 have S3 := hid (S2.out.no ((Fr.refl nob w2).alloc (.cells #[] 45)))
 have I3_m := hid (I2_m.out.no ((Fr.refl nob w2).alloc (.cells #[] 45)))
 generalize w2.alloc (.cells #[] 45) = w3 at *
 generalize w2.heap.size = C_e at *
 have P := S3.out.k0
 go_wp2_with fail
 clear P
 refine S3.out.one ⟨22, 0, 0, []⟩ rfl rfl rfl rfl fun w4 A_o c_o S4 I4_o hf hw => ?_
 have E1 := hid (I3_m.out.lat hw)
 have I4_m := hid (I3_m.out.no hf)
 clear hf hw
 have P := S4.out.k0
 go_wp2_with (at_builtin; refine S4.out.app I4_m.out I4_o.out rfl _ _ rfl rfl rfl (by omega) fun A_z c_z w5 S5 I5_z hf hv => ?_; clear hf hv)
 go_ret
 exact ⟨_, _, _, rfl, I5_z.out, S5.out.f⟩
set_option maxHeartbeats 2000000 in
set_option maxRecDepth 100000 in
theorem cs_ret1 (hx : g.p.ns[x]? = some ⟨17, line, 0, [], [a]⟩) (h_a : CpOk 106 g a (at_ + 1) l1) (hat : at_ ≤ 3000) (hb : ([⟨1, (x : Int), 0, []⟩] ++ (l1 ++ [⟨21, 0, 0, []⟩]) : List InsM).length ≤ 3000) : CpOk 69 g x at_ ([⟨1, (x : Int), 0, []⟩] ++ (l1 ++ [⟨21, 0, 0, []⟩])) := by
 refine CpOk.intro hx hat hb fun w ai KA KC HAI S0 HO SL TY hv hc hk => ?_
 obtain ⟨kb, rfl⟩ := hk (by simp)
 have H_a := hid h_a
 clear hk hx hat hb h_a
 go_enter Tryz.func69, Tryz.ntmps69
 go_wp2_with fail
 obtain ⟨w1, hw1, S1⟩ := CpW.ex S0.out HO.out 17 line 0 []
 erw [hw1]
 clear hc S0 HO hw1
 generalize w.heap.size = B at *
 refine S1.out.one ⟨1, (x : Int), 0, []⟩ rfl rfl rfl rfl fun w2 A_m c_m S2 I2_m hf hw => ?_
 clear hf hw
 go_upto_region 5 with fail
 have S3 := hid (S2.out.no ((Fr.refl nob w2).alloc (.cells #[] 45)))
 have I3_m := hid (I2_m.out.no ((Fr.refl nob w2).alloc (.cells #[] 45)))
 generalize w2.alloc (.cells #[] 45) = w3 at *
 generalize w2.heap.size = C_e at *
 have P := S3.out.k1
 go_wp2_with fail
 clear P
 refine S3.out.one ⟨22, 0, 0, []⟩ rfl rfl rfl rfl fun w4 A_q c_q S4 I4_q hf hw => ?_
 have E1 := hid (I3_m.out.lat hw)
 have I4_m := hid (I3_m.out.no hf)
 clear hf hw
 clear I4_q
 have P := S4.out.k1
 go_wp2_with fail
 go_still_tail 6, (by kernel_rfl)
 change wpList _ _ _ _ _ w4.drew
 have S5 := hid S4.out.drew
 have I5_m := hid (I4_m.out.drew)
 clear P
 have P := S5.out.k1
 go_wp2_with fail
 clear P
 refine S5.out.call H_a.out (by have := HAI.out;  omega) fun w6 A_x c_x n_x S6 I6_x N_x M_x hf hw => ?_
 have E2 := hid (I5_m.out.lat hw)
 have I6_m := hid (I5_m.out.no hf)
 clear hf hw
 go_wp2_with fail
 refine S6.out.one ⟨21, 0, 0, []⟩ rfl rfl rfl rfl fun w7 A_o c_o S7 I7_o hf hw => ?_
 have E3 := hid (I6_m.out.lat hw)
 have E4 := hid (I6_x.out.lat hw)
 have I7_m := hid (I6_m.out.no hf)
 have I7_x := hid (I6_x.out.no hf)
 clear hf hw
 go_wp2_with (first | (at_builtin; refine S7.out.app I7_x.out I7_o.out rfl _ _ rfl rfl rfl (by omega) fun A_r c_r w8 S8 I8_r hf hv => ?_; have I8_m := hid (I7_m.out.stay hf ((fun b hb he => E2.out b he hb))); have E5 := hid (I7_m.out.sepd ((fun b hb he => E2.out b he hb)) hv); clear hf hv) | (at_builtin; refine S8.out.app I8_m.out I8_r.out rfl _ _ rfl rfl rfl (by omega) fun A_z c_z w9 S9 I9_z hf hv => ?_; clear hf hv))
 go_ret
 exact ⟨_, _, _, rfl, I9_z.out, S9.out.f⟩
set_option maxHeartbeats 2000000 in
set_option maxRecDepth 100000 in
theorem cs_tests (hx : g.p.ns[x]? = some ⟨k, line, n, nm, ks⟩) (h_c : CpOk 108 g x (at_ + 1) l1) (hk9 : k = 15 ∨ k = 16) (hat : at_ ≤ 3000) (hb : ([⟨1, (x : Int), 0, []⟩] ++ l1 : List InsM).length ≤ 3000) : CpOk 69 g x at_ ([⟨1, (x : Int), 0, []⟩] ++ l1) := by
 refine CpOk.intro hx hat hb fun w ai KA KC HAI S0 HO SL TY hv hc hk => ?_
 have H_c := hid h_c
 have e10 : ((k : Int) == 10) = false := beq_eq_false_iff_ne.2 (by omega)
 have e11 : ((k : Int) == 11) = false := beq_eq_false_iff_ne.2 (by omega)
 have e12 : ((k : Int) == 12) = false := beq_eq_false_iff_ne.2 (by omega)
 have e13 : ((k : Int) == 13) = false := beq_eq_false_iff_ne.2 (by omega)
 have e14 : ((k : Int) == 14) = false := beq_eq_false_iff_ne.2 (by omega)
 have e17 : ((k : Int) == 17) = false := beq_eq_false_iff_ne.2 (by omega)
 clear hk9
 clear hk hx hat hb h_c
 go_enter Tryz.func69, Tryz.ntmps69
 go_wp2_with fail
 obtain ⟨w1, hw1, S1⟩ := CpW.ex S0.out HO.out k line n nm
 erw [hw1]
 clear hc S0 HO hw1
 generalize w.heap.size = B at *
 refine S1.out.one ⟨1, (x : Int), 0, []⟩ rfl rfl rfl rfl fun w2 A_m c_m S2 I2_m hf hw => ?_
 clear hf hw
 go_upto_region 5 with fail
 have S3 := hid (S2.out.no ((Fr.refl nob w2).alloc (.cells #[] 45)))
 have I3_m := hid (I2_m.out.no ((Fr.refl nob w2).alloc (.cells #[] 45)))
 generalize w2.alloc (.cells #[] 45) = w3 at *
 generalize w2.heap.size = C_e at *
 have P := S3.out.s.cells
 go_wp2_with fail
 clear P
 refine S3.out.call H_c.out (by have := HAI.out;  omega) fun w4 A_x c_x n_x S4 I4_x N_x M_x hf hw => ?_
 have E1 := hid (I3_m.out.lat hw)
 have I4_m := hid (I3_m.out.no hf)
 clear hf hw
 go_wp2_with (at_builtin; refine S4.out.app I4_m.out I4_x.out rfl _ _ rfl rfl rfl (by omega) fun A_z c_z w5 S5 I5_z hf hv => ?_; clear hf hv)
 go_ret
 exact ⟨_, _, _, rfl, I5_z.out, S5.out.f⟩
end
end Go.Proofs.YtlbjicjinnnboaaGreatDoor
