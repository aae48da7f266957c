/- CompileBehind: the law's walk. -/
import Derived.Test.YtlbjicjinnnboaaDoorMLw
import Derived.Test.YtlbjicjinnnboaaDoorMBe
import Derived.Test.YtlbjicjinnnboaaDoorMCb
import Derived.Deep.DeepCutAuto
import Derived.StillTailTactics
import Derived.BigQuiet
set_option linter.unusedVariables false
set_option linter.unusedSimpArgs false
namespace Go.Proofs.YtlbjicjinnnboaaDoor
open Go.RowKit
open Pw
theorem ext_take5 (s : ByteArray) : s.extract 0 560 = bs (s.data.toList.take 560) := by
 have h : (s.extract 0 560).data.toList = s.data.toList.take 560 := by rw [Lib.extract_data]; simp
 rw [← h]
 show s.extract 0 560 = ⟨(s.extract 0 560).data.toList.toArray⟩
 rw [Array.toArray_toList]
theorem take5_self {s : ByteArray} (h : s.size ≤ 560) : bs (s.data.toList.take 560) = s := by
 rw [List.take_of_length_le (by simpa using h)]
 show (⟨s.data.toList.toArray⟩ : ByteArray) = s
 simp
theorem zz_cat (T : List UInt8) : (bs T ++ ⟨#[10, 102, 110, 32, 122, 122, 40, 41, 123, 112, 114, 105, 110, 116, 32, 49, 59, 125]⟩ : ByteArray).data.toList = T ++ 10 :: zzS := by
 rw [ByteArray.data_append, Array.toList_append]; rfl
theorem Own.cut5 {w : World} {e size n m c : Nat} {A : Option Addr} {xs : List Value} (h : Own w e size (.slice A n c) n xs) (hm : m ≤ n) : Own w e size (.slice A m c) m (xs.take (m * size)) := by
 obtain ⟨hl, A', c', hv, ⟨h1, h2⟩ | ⟨g, cur, h1, h0, hb, hnc, hcm, hsz, ht⟩⟩ := h
 · injection hv with e1 e2 e3
   subst e1; subst e3
   refine ⟨by rw [List.length_take, hl]; exact Nat.min_eq_left (Nat.mul_le_mul_right _ hm), A, c, rfl, .inl ⟨h1, by omega⟩⟩
 · injection hv with e1 e2 e3
   subst e1; subst e3
   refine ⟨by rw [List.length_take, hl]; exact Nat.min_eq_left (Nat.mul_le_mul_right _ hm), A, c, rfl, .inr ⟨g, cur, h1, h0, hb, by omega, hcm, hsz, ?_⟩⟩
   rw [← ht, List.take_take, Nat.min_eq_left (Nat.mul_le_mul_right _ hm)]
theorem insCells_len5 (l : List InsM) : (insCells l).length = l.length * 4 := by
 unfold insCells
 induction l with
 | nil => rfl
 | cons a l ih => rw [List.flatMap_cons, List.length_append, ih]; simp [insOne]; omega
structure Bh (g q : PgV) (PB QB : Nat) (w : World) : Prop where
 p1 : PgAt g w
 p2 : PgAt q w
 b1 : Blk w PB 29 #[.slice (some ⟨g.nb, 0, none⟩) g.p.ns.length g.nc, .slice (some ⟨g.fb, 0, none⟩) g.p.fs.length g.fc, .slice (some ⟨g.tb, 0, none⟩) g.p.ns.length g.tc, .slice (some ⟨g.sb, 0, none⟩) g.p.ns.length g.sc, .slice g.ua g.un g.uc, .slice g.za g.zn g.zc]
 b2 : Blk w QB 29 #[.slice (some ⟨q.nb, 0, none⟩) q.p.ns.length q.nc, .slice (some ⟨q.fb, 0, none⟩) q.p.fs.length q.fc, .slice (some ⟨q.tb, 0, none⟩) q.p.ns.length q.tc, .slice (some ⟨q.sb, 0, none⟩) q.p.ns.length q.sc, .slice q.ua q.un q.uc, .slice q.za q.zn q.zc]
structure Bi (g q : PgV) (CB DB n m : Nat) (IA EA IA2 EA2 : Option Addr) (IC EC IC2 EC2 : Nat) (w : World) : Prop where
 c1 : Blk w CB 35 #[.slice IA n IC, .slice EA m EC]
 c2 : Blk w DB 35 #[.slice IA2 (n + 4) IC2, .slice EA2 (m + 1) EC2]
 i1 : Own w 39 4 (.slice IA n IC) n (insCells (compM g.p).ins)
 e1 : Own w 3 1 (.slice EA m EC) m (ints (compM g.p).entry)
 i2 : Own w 39 4 (.slice IA2 (n + 4) IC2) (n + 4) (insCells (compM q.p).ins)
 e2 : Own w 3 1 (.slice EA2 (m + 1) EC2) (m + 1) (ints (compM q.p).entry)
section
variable {g q : PgV} {PB QB CB DB n m IC EC IC2 EC2 : Nat} {IA EA IA2 EA2 : Option Addr} {w w' : World}
theorem Bh.no (h : Bh g q PB QB w) (f : Fr nob w w') : Bh g q PB QB w' := ⟨h.p1.no f, h.p2.no f, h.b1.fr f (fun x => x), h.b2.fr f (fun x => x)⟩
theorem Bi.no (h : Bi g q CB DB n m IA EA IA2 EA2 IC EC IC2 EC2 w) (f : Fr nob w w') : Bi g q CB DB n m IA EA IA2 EA2 IC EC IC2 EC2 w' :=
 ⟨h.c1.fr f (fun x => x), h.c2.fr f (fun x => x), h.i1.fr f (fun _ _ x => x), h.e1.fr f (fun _ _ x => x), h.i2.fr f (fun _ _ x => x), h.e2.fr f (fun _ _ x => x)⟩
theorem Bi.boxes (h : Bi g q CB DB n m IA EA IA2 EA2 IC EC IC2 EC2 w) : w.cell? ⟨CB, 0, none⟩ = some (.slice IA n IC) ∧ w.cell? ⟨CB, 1, none⟩ = some (.slice EA m EC) ∧ w.cell? ⟨DB, 0, none⟩ = some (.slice IA2 (n + 4) IC2) ∧ w.cell? ⟨DB, 1, none⟩ = some (.slice EA2 (m + 1) EC2) :=
 ⟨(h.c1.cell 0).trans rfl, (h.c1.cell 1).trans rfl, (h.c2.cell 0).trans rfl, (h.c2.cell 1).trans rfl⟩
abbrev PbT (g : PgV) (PB : Nat) (w : World) : Prop := w.cell? ⟨PB, 0, none⟩ = some (.slice (some ⟨g.nb, 0, none⟩) g.p.ns.length g.nc) ∧ w.cell? ⟨PB, 1, none⟩ = some (.slice (some ⟨g.fb, 0, none⟩) g.p.fs.length g.fc) ∧ w.cell? ⟨PB, 2, none⟩ = some (.slice (some ⟨g.tb, 0, none⟩) g.p.ns.length g.tc) ∧ w.cell? ⟨PB, 3, none⟩ = some (.slice (some ⟨g.sb, 0, none⟩) g.p.ns.length g.sc) ∧ w.cell? ⟨PB, 4, none⟩ = some (.slice g.ua g.un g.uc) ∧ w.cell? ⟨PB, 5, none⟩ = some (.slice g.za g.zn g.zc)
theorem pbT (h : Blk w PB 29 #[.slice (some ⟨g.nb, 0, none⟩) g.p.ns.length g.nc, .slice (some ⟨g.fb, 0, none⟩) g.p.fs.length g.fc, .slice (some ⟨g.tb, 0, none⟩) g.p.ns.length g.tc, .slice (some ⟨g.sb, 0, none⟩) g.p.ns.length g.sc, .slice g.ua g.un g.uc, .slice g.za g.zn g.zc]) : PbT g PB w := ⟨(h.cell 0).trans rfl, (h.cell 1).trans rfl, (h.cell 2).trans rfl, (h.cell 3).trans rfl, (h.cell 4).trans rfl, (h.cell 5).trans rfl⟩
end
theorem coC {g : PgV} {n m : Nat} (hn : n = (compM g.p).ins.length) (hm : m = (compM g.p).entry.length) (w : World) (hp : PgAt g w) : Calls Tryd.prog 6 #[.agg #[.slice (some ⟨g.nb, 0, none⟩) g.p.ns.length g.nc, .slice (some ⟨g.fb, 0, none⟩) g.p.fs.length g.fc, .slice (some ⟨g.tb, 0, none⟩) g.p.ns.length g.tc, .slice (some ⟨g.sb, 0, none⟩) g.p.ns.length g.sc, .slice g.ua g.un g.uc, .slice g.za g.zn g.zc]] w fun en w' => ∃ IA IC EA EC, en = .returned (.agg #[.slice IA n IC, .slice EA m EC]) ∧ Own w' 39 4 (.slice IA n IC) n (insCells (compM g.p).ins) ∧ Own w' 3 1 (.slice EA m EC) m (ints (compM g.p).entry) ∧ Fr nob w w' := by
 refine (coall_any hp).mono ?_
 rintro en w' ⟨iv, ev, rfl, hc, hf⟩
 have h1 := hc.ins
 have h2 := hc.ent
 rw [← hn] at h1
 rw [← hm] at h2
 obtain ⟨IA, IC, rfl, -, -⟩ := h1.cap
 obtain ⟨EA, EC, rfl, -, -⟩ := h2.cap
 exact ⟨IA, IC, EA, EC, rfl, h1, h2, hf⟩
set_option maxHeartbeats 8000000 in
set_option maxRecDepth 100000 in
theorem compileBehind_walk (HSRC : SrcAny) (s : ByteArray) (w : World) : Calls Tryd.prog 3 #[.string s] w fun e w' => e = .returned (.bool true) ∧ Fr nob w w' := by
 have HSH := hid (shown9_any HSRC w)
 obtain ⟨T, hT⟩ : ∃ T, s.data.toList.take 560 = T := ⟨_, rfl⟩
 have hTl : T.length ≤ 560 := by rw [← hT, List.length_take]; omega
 have HX := hid (ext_take5 s)
 have HY := hid (fun h => take5_self (s := s) h)
 rw [hT] at HX HY
 have hsz : (bs T).size ≤ 560 := by show T.toArray.size ≤ _; rw [List.size_toArray]; omega
 obtain ⟨r, hr⟩ := source_some T
 obtain ⟨r2, hr2⟩ := source_some (T ++ 10 :: zzS)
 have HS := hid (fun w' => HSRC (bs T) w' (by omega) (r := r) hr)
 have HS2 := hid (fun w' => HSRC (bs T ++ ⟨#[10, 102, 110, 32, 122, 122, 40, 41, 123, 112, 114, 105, 110, 116, 32, 49, 59, 125]⟩) w' (by rw [ByteArray.size_append]; show _ + 18 ≤ _; omega) (r := r2) (by rw [zz_cat]; exact hr2))
 have HR := hid hr
 have HR2 := hid hr2
 have HTL := hid hTl
 clear hT hTl hr hr2
 go_enter Tryd.func3, Tryd.ntmps3
 go_wp2_with fail
 refine HSH.out.mono ?_
 rintro e w1 ⟨rfl, hf1⟩
 have F1 := hid hf1
 clear hf1 HSH
 go_upto_if 18 with fail
 go_cut [0] (fun v wx => v = .string (bs T) ∧ wx = w1)
 case first =>
  by_cases h : s.size ≤ 560
  · have h2 := HY.out h
    go_wp2_with fail
    go_meet
    exact ⟨by rw [h2], rfl⟩
  · have h3 : 560 < s.size := by omega
    go_wp2_with fail
    go_meet
    exact ⟨by rw [← HX.out], rfl⟩
 case rest =>
  obtain ⟨rfl, rfl⟩ := hcut
  clear HX HY
  go_wp2_with fail
  refine (HS.out _).mono ?_
  rintro e w2 ⟨hsa, hf2⟩
  have F2 := hid (F1.out.tr hf2)
  clear hf2 HS F1
  have hs5 : (bs T).size + 18 ≤ 9223372036854775807 := by omega
  have hs6 : ¬ 9223372036854775807 < (bs T).size + 18 := by omega
  cases r with
  | bad p er =>
    obtain ⟨he, he0⟩ := hsa
    have he : e = .returned (.tuple #[.agg #[.slice none 0 0, .slice none 0 0, .slice none 0 0, .slice none 0 0, .slice none 0 0, .slice none 0 0], .int .i64 (p : Nat), .int .i64 (er : Nat)]) := he
    subst he
    have heb : ((er : Int) == 0) = false := beq_eq_false_iff_ne.2 (by omega)
    have hne : ((er : Int) != 0) = true := by rw [bne, heb]; rfl
    clear he0
    go_wp2_with fail
    refine (HS2.out _).mono ?_
    rintro e w3 ⟨hsb, hf3⟩
    have F3 := hid ((F2.out.alloc (.cells #[.slice none 0 0, .slice none 0 0, .slice none 0 0, .slice none 0 0, .slice none 0 0, .slice none 0 0] 29)).tr hf3)
    clear hf3
    cases r2 with
    | bad p2 er2 =>
     obtain ⟨he, -⟩ := hsb
     have he : e = .returned (.tuple #[.agg #[.slice none 0 0, .slice none 0 0, .slice none 0 0, .slice none 0 0, .slice none 0 0, .slice none 0 0], .int .i64 (p2 : Nat), .int .i64 (er2 : Nat)]) := he
     subst he
     go_wp2_with fail
     go_ret
     exact ⟨rfl, F3.out.alloc _⟩
    | good p2 =>
     obtain ⟨q, -, -, rfl⟩ := source_prog hsb (source_is HR2.out).1
     unfold PgV.val
     go_wp2_with fail
     go_ret
     exact ⟨rfl, F3.out.alloc _⟩
  | good p =>
    have HI := hid (source_is HR.out).1
    obtain ⟨g, hg, pg, rfl⟩ := source_prog hsa HI.out
    subst hg
    clear hsa
    unfold PgV.val
    have FP := hid (show Fr nob w2 (w2.alloc (.cells #[.slice (some ⟨g.nb, 0, none⟩) g.p.ns.length g.nc, .slice (some ⟨g.fb, 0, none⟩) g.p.fs.length g.fc, .slice (some ⟨g.tb, 0, none⟩) g.p.ns.length g.tc, .slice (some ⟨g.sb, 0, none⟩) g.p.ns.length g.sc, .slice g.ua g.un g.uc, .slice g.za g.zn g.zc] 29)) from (Fr.refl nob w2).alloc _)
    have P3 := hid (pg.no FP.out)
    have B3 := hid (Blk.new w2 29 #[.slice (some ⟨g.nb, 0, none⟩) g.p.ns.length g.nc, .slice (some ⟨g.fb, 0, none⟩) g.p.fs.length g.fc, .slice (some ⟨g.tb, 0, none⟩) g.p.ns.length g.tc, .slice (some ⟨g.sb, 0, none⟩) g.p.ns.length g.sc, .slice g.ua g.un g.uc, .slice g.za g.zn g.zc])
    have F3 := hid (F2.out.tr FP.out)
    clear pg F2 FP
    go_wp2_with fail
    refine (HS2.out _).mono ?_
    rintro e w3 ⟨hsb, hf3⟩
    have P4 := hid (P3.out.no hf3)
    have B4 := hid (B3.out.fr hf3 (fun x => x))
    have F4 := hid (F3.out.tr hf3)
    clear hf3 P3 B3 F3 HS2
    generalize w2.heap.size = PB at *
    cases r2 with
    | bad p2 er2 =>
     obtain ⟨he, he0⟩ := hsb
     have he : e = .returned (.tuple #[.agg #[.slice none 0 0, .slice none 0 0, .slice none 0 0, .slice none 0 0, .slice none 0 0, .slice none 0 0], .int .i64 (p2 : Nat), .int .i64 (er2 : Nat)]) := he
     subst he
     have heb : ((er2 : Int) == 0) = false := beq_eq_false_iff_ne.2 (by omega)
     have hne : ((er2 : Int) != 0) = true := by rw [bne, heb]; rfl
     clear he0
     go_wp2_with fail
     go_ret
     exact ⟨rfl, F4.out.alloc _⟩
    | good p2 =>
     have HJ := hid (source_is HR2.out).1
     obtain ⟨q, hq, qg, rfl⟩ := source_prog hsb HJ.out
     subst hq
     clear hsb
     have HB := hid (behind_law HR.out HR2.out HI.out HJ.out (by have := HTL.out; simp only [List.length_append, List.length_cons]; have : zzS.length = 17 := rfl; omega))
     unfold PgV.val
     have FP := hid (show Fr nob w3 (w3.alloc (.cells #[.slice (some ⟨q.nb, 0, none⟩) q.p.ns.length q.nc, .slice (some ⟨q.fb, 0, none⟩) q.p.fs.length q.fc, .slice (some ⟨q.tb, 0, none⟩) q.p.ns.length q.tc, .slice (some ⟨q.sb, 0, none⟩) q.p.ns.length q.sc, .slice q.ua q.un q.uc, .slice q.za q.zn q.zc] 29)) from (Fr.refl nob w3).alloc _)
     have H5 := hid (show Bh g q PB w3.heap.size (w3.alloc (.cells #[.slice (some ⟨q.nb, 0, none⟩) q.p.ns.length q.nc, .slice (some ⟨q.fb, 0, none⟩) q.p.fs.length q.fc, .slice (some ⟨q.tb, 0, none⟩) q.p.ns.length q.tc, .slice (some ⟨q.sb, 0, none⟩) q.p.ns.length q.sc, .slice q.ua q.un q.uc, .slice q.za q.zn q.zc] 29)) from ⟨P4.out.no FP.out, qg.no FP.out, B4.out.fr FP.out (fun x => x), Blk.new w3 _ _⟩)
     have F5 := hid (F4.out.tr FP.out)
     clear qg FP P4 B4 F4
     obtain ⟨n, hn⟩ : ∃ n, n = (compM g.p).ins.length := ⟨_, rfl⟩
     obtain ⟨m, hm⟩ : ∃ m, m = (compM g.p).entry.length := ⟨_, rfl⟩
     have hn2 : n + 4 = (compM q.p).ins.length := by rw [HB.out.ins, hn]; simp
     have hm2 : m + 1 = (compM q.p).entry.length := by rw [HB.out.ent, hm]; simp
     have hn3 : n ≤ 1000 := by have := (comp_cd HI.out).len; have := HI.out.tree.ok.few; have := HI.out.tree.ok.fewf; omega
     have hm3 : m ≤ 6 := by rw [hm, (comp_cd HI.out).elen]; exact HI.out.tree.ok.fewf
     have hn0 : 0 < m := by rw [hm, (comp_cd HI.out).elen]; exact (prog_pos HI.out).1
     have HN := hid hn
     have HM := hid hm
     have HN2 := hid hn2
     have HM2 := hid hm2
     have HN0 := hid hn0
     have hn4 : (n : Int) ≤ 1000 := by omega
     have hm4 : (m : Int) ≤ 6 := by omega
     clear hn hm hn2 hm2 hn0
     go_upto_region 8 with fail
     generalize w3.alloc (.cells #[.slice (some ⟨q.nb, 0, none⟩) q.p.ns.length q.nc, .slice (some ⟨q.fb, 0, none⟩) q.p.fs.length q.fc, .slice (some ⟨q.tb, 0, none⟩) q.p.ns.length q.tc, .slice (some ⟨q.sb, 0, none⟩) q.p.ns.length q.sc, .slice q.ua q.un q.uc, .slice q.za q.zn q.zc] 29) = w4 at *
     generalize w3.heap.size = QB at *
     have k0 := pbT H5.out.b1
     go_wp2_with fail
     refine (coC HN.out HM.out _ H5.out.p1).mono ?_
     rintro e w5 ⟨IA, IC, EA, EC, rfl, hi, he, hf⟩
     clear k0
     have FC := hid (show Fr nob w5 (w5.alloc (.cells #[.slice IA n IC, .slice EA m EC] 35)) from (Fr.refl nob w5).alloc _)
     have H6 := hid (H5.out.no (hf.tr FC.out))
     have F6 := hid (F5.out.tr (hf.tr FC.out))
     have I6 := hid (hi.fr FC.out (fun _ _ x => x))
     have E6 := hid (he.fr FC.out (fun _ _ x => x))
     have C6 := hid (Blk.new w5 35 #[.slice IA n IC, .slice EA m EC])
     clear hi he hf H5 F5 FC
     go_upto_region 9 with fail
     generalize w5.alloc (.cells #[.slice IA n IC, .slice EA m EC] 35) = w6 at *
     generalize w5.heap.size = CB at *
     have k0 := pbT H6.out.b2
     go_wp2_with fail
     refine (coC HN2.out HM2.out _ H6.out.p2).mono ?_
     rintro e w7 ⟨IA2, IC2, EA2, EC2, rfl, hi, he, hf⟩
     clear k0
     have FC := hid (show Fr nob w7 (w7.alloc (.cells #[.slice IA2 (n + 4) IC2, .slice EA2 (m + 1) EC2] 35)) from (Fr.refl nob w7).alloc _)
     have f2 := hf.tr FC.out
     have H8 := hid (H6.out.no f2)
     have F8 := hid (F6.out.tr f2)
     have J8 := hid (show Bi g q CB w7.heap.size n m IA EA IA2 EA2 IC EC IC2 EC2 (w7.alloc (.cells #[.slice IA2 (n + 4) IC2, .slice EA2 (m + 1) EC2] 35)) from ⟨C6.out.fr f2 (fun x => x), Blk.new w7 _ _, I6.out.fr f2 (fun _ _ x => x), E6.out.fr f2 (fun _ _ x => x), hi.fr FC.out (fun _ _ x => x), he.fr FC.out (fun _ _ x => x)⟩)
     clear hi he hf f2 FC H6 F6 I6 E6 C6
     go_upto_region 10 with fail
     generalize w7.alloc (.cells #[.slice IA2 (n + 4) IC2, .slice EA2 (m + 1) EC2] 35) = w8 at *
     generalize w7.heap.size = DB at *
     obtain ⟨k, f, hk1, hk2, hk3, hk4⟩ := HB.out.main
     have M1 := hid (comain_any H8.out.p1)
     unfold PgV.val at M1
     rw [hk1] at M1
     have HK2 := hid hk2
     have HK3 := hid hk3
     have HK4 := hid hk4
     clear hk1 hk2 hk3 hk4
     obtain ⟨c0, c1, d0, d1⟩ := J8.out.boxes
     have k0 := pbT H8.out.b1
     go_wp2_with fail
     refine M1.out.mono ?_
     rintro e w9 ⟨rfl, hf⟩
     have H9 := hid (H8.out.no hf)
     have F9 := hid (F8.out.tr hf)
     have J9 := hid (J8.out.no hf)
     clear hf c0 c1 d0 d1 k0 H8 F8 J8 M1
     have hx0 : (compM q.p).entry[m]? = some n := by rw [HB.out.ent, HM.out, List.getElem?_append_right (Nat.le_refl _), Nat.sub_self, HN.out]; rfl
     have hy0 : (compM q.p).ins[n]? = some ⟨1, ((g.p.ns.length + 1 : Nat) : Int), 0, []⟩ := by rw [HB.out.ins, HN.out, List.getElem?_append_right (Nat.le_refl _), Nat.sub_self]; rfl
     have hy2 : (compM q.p).ins[n + 2]? = some ⟨15, 0, 0, []⟩ := by rw [HB.out.ins, HN.out, List.getElem?_append_right (by omega), Nat.add_sub_cancel_left]; rfl
     obtain ⟨eb, rfl, hce⟩ := J9.out.e2.some (by omega)
     obtain ⟨ib, rfl, hci⟩ := J9.out.i2.some (by omega)
     have x0 := hce m (.int .i64 (n : Nat)) (by unfold ints; rw [List.getElem?_map, hx0]; rfl)
     have y0 := hci _ _ (insCells_get hy0).1
     have y2 := hci _ _ (insCells_get hy2).1
     have hi2 := J9.out.i2.capn
     have he2 := J9.out.e2.capn
     have SAME := hid (fun w' (h : Bi g q CB DB n m IA EA (some ⟨ib, 0, none⟩) (some ⟨eb, 0, none⟩) IC EC IC2 EC2 w') => same8_any w' HN.out HM.out (by omega) (by omega) (show Own w' 39 4 (.slice (some ⟨ib, 0, none⟩) n IC2) n (insCells (compM g.p).ins) from by
      have h1 := h.i2.cut5 (m := n) (by omega)
      rw [HB.out.ins, insCells_app, List.take_left' (by rw [insCells_len5, HN.out])] at h1
      exact h1) (show Own w' 3 1 (.slice (some ⟨eb, 0, none⟩) m EC2) m (ints (compM g.p).entry) from by
      have h1 := h.e2.cut5 (m := m) (by omega)
      unfold ints at h1 ⊢
      rw [HB.out.ent, List.map_append, List.take_left' (by rw [List.length_map, HM.out, Nat.mul_one])] at h1
      exact h1) h.i1 h.e1)
     have hkf : k < g.p.fs.length := (List.getElem?_eq_some_iff.1 HK3.out).1
     have hkf2 : (k : Int) < (g.p.fs.length : Int) := by omega
     have hkf3 : ¬ (g.p.fs.length : Int) ≤ (k : Int) := by omega
     have hkf4 : ¬ g.p.fs.length ≤ k := by omega
     have hc3 : (n : Int) ≤ (IC2 : Int) := by omega
     have hc4 : (m : Int) ≤ (EC2 : Int) := by omega
     have hk0 : ¬ (k : Int) < 0 := by omega
     obtain ⟨c0, c1, d0, d1⟩ := J9.out.boxes
     have k0 := pbT H9.out.b1
     clear hx0 hy0 hy2 hce hci hi2 he2 hkf
     simp only [idxZ] at *
     go_upto_region 14 with fail
     clear k0 x0 y0 y2
     have H10 := hid (H9.out.no (Fr.refl nob w9).drew)
     have F10 := hid (F9.out.tr (Fr.refl nob w9).drew)
     have J10 := hid (J9.out.no (Fr.refl nob w9).drew)
     go_still_tail 12, (by kernel_rfl)
     change wpList _ _ _ _ _ w9.drew
     clear c0 c1 d0 d1 H9 F9 J9
     generalize w9.drew = wa at *
     obtain ⟨c0, c1, d0, d1⟩ := J10.out.boxes
     go_wp2_with fail
     refine (SAME.out _ J10.out).mono ?_
     rintro e wb ⟨rfl, hf⟩
     have H11 := hid (H10.out.no hf)
     have F11 := hid (F10.out.tr hf)
     clear hf c0 c1 d0 d1 H10 F10 J10 SAME
     have M2 := hid (comain_any H11.out.p2)
     unfold PgV.val at M2
     rw [HK2.out] at M2
     have k0 := pbT H11.out.b1
     have k1 := pbT H11.out.b2
     have TA := H11.out.p1.tree
     obtain ⟨pv, hpv⟩ : ∃ pv, g.pvs[k]? = some pv := ⟨_, List.getElem?_eq_getElem (by have := TA.samef; have := (List.getElem?_eq_some_iff.1 HK3.out).1; omega)⟩
     obtain ⟨fb, e, hcell⟩ := TA.fns.some (by omega)
     injection e with e
     injection e with e
     subst e
     have e0 := hcell (k * 5 + 0) _ (fnCells_all HK3.out hpv 0 _ rfl)
     rw [Nat.add_zero] at e0
     have eb2 : ((bs f.name).toList == [109, 97, 105, 110]) = true := by rw [HK4.out]; kernel_rfl
     clear hpv hcell TA
     go_wp2_with fail
     refine M2.out.mono ?_
     rintro e wc2 ⟨rfl, hf⟩
     have F12 := hid (F11.out.tr hf)
     clear hf
     simp only [idxZ]
     go_wp2_with fail
     go_ret
     exact ⟨rfl, F12.out⟩
end Go.Proofs.YtlbjicjinnnboaaDoor
