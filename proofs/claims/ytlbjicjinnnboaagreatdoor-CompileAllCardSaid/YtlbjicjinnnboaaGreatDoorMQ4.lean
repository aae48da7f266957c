/- MQ4: CpSame, CpMain, TAll. -/
import Derived.Test.YtlbjicjinnnboaaGreatDoorMLw
import Derived.BigQuiet
import Derived.Test.YtlbjicjinnnboaaGreatDoorMO3
import Derived.Test.YtlbjicjinnnboaaGreatDoorMQ3
set_option linter.unusedVariables false
set_option linter.unusedSimpArgs false
/- furcateref08.Same: of one code, laid two times. -/
namespace Go.Proofs.YtlbjicjinnnboaaGreatDoor
open Go.RowKit
open Pw
theorem eqi (d : Nat) (a : Int) (w : World) : (Op.equalIn (d + 1) 3 (.int .i64 a) (.int .i64 a)).run Tryz.prog w = .ok true w := by
 simp [Op.equalIn, go_sem, Tryz.underlying3]
theorem eqs (d : Nat) (a : ByteArray) (w : World) : (Op.equalIn (d + 1) 9 (.string a) (.string a)).run Tryz.prog w = .ok true w := by
 have h : (a == a) = true := by obtain ⟨l⟩ := a; show (l == l) = true; simp
 simp [Op.equalIn, go_sem, Tryz.underlying9, h]
theorem eqins (d : Nat) (o a b : Int) (s : ByteArray) (w : World) : (Op.equalIn (d + 1 + 1) 45 (.agg #[.int .i64 o, .int .i64 a, .int .i64 b, .string s]) (.agg #[.int .i64 o, .int .i64 a, .int .i64 b, .string s])).run Tryz.prog w = .ok true w := by
 rw [Op.equalIn]
 simp [go_sem, Tryz.underlying45, eqi, eqs, part]
theorem neq_ins (o a b : Int) (s : ByteArray) (w : World) : (binOp BinOp.neq 45 (.agg #[.int .i64 o, .int .i64 a, .int .i64 b, .string s]) (.agg #[.int .i64 o, .int .i64 a, .int .i64 b, .string s])).run Tryz.prog w = .ok (.bool false) w := by
 have e : (Op.equal 45 (.agg #[.int .i64 o, .int .i64 a, .int .i64 b, .string s]) (.agg #[.int .i64 o, .int .i64 a, .int .i64 b, .string s])).run Tryz.prog w = .ok true w := eqins 9998 o a b s w
 simp [binOp, go_sem]
 rw [e]
 rfl
structure Sm (CB n m : Nat) (IA EA : Option Addr) (IC EC : Nat) (c : CodeM) (w : World) : Prop where
 cb : Blk w CB 37 #[.slice IA n IC, .slice EA m EC]
 ins : Own w 45 4 (.slice IA n IC) n (insCells c.ins)
 ent : Own w 3 1 (.slice EA m EC) m (ints c.entry)
section
variable {CB n m IC EC : Nat} {IA EA : Option Addr} {c : CodeM} {w w' : World}
theorem Sm.no (h : Sm CB n m IA EA IC EC c w) (f : Fr nob w w') : Sm CB n m IA EA IC EC c w' := ⟨h.cb.fr f (fun x => x), h.ins.fr f (fun _ _ x => x), h.ent.fr f (fun _ _ x => x)⟩
theorem Sm.box (h : Sm CB n m IA EA IC EC c w) : w.cell? ⟨CB, 0, none⟩ = some (.slice IA n IC) ∧ w.cell? ⟨CB, 1, none⟩ = some (.slice EA m EC) := ⟨(h.cb.cell 0).trans rfl, (h.cb.cell 1).trans rfl⟩
theorem Sm.insr (h : Sm CB n m IA EA IC EC c w) {j : Nat} {x : InsM} (hj : c.ins[j]? = some x) (hn : n = c.ins.length) : ∃ ib, IA = some ⟨ib, 0, none⟩ ∧ w.cell? ⟨ib, j * 4, none⟩ = some (.int .i64 (x.op : Nat)) ∧ w.cell? ⟨ib, j * 4 + 1, none⟩ = some (.int .i64 x.a) ∧ w.cell? ⟨ib, j * 4 + 2, none⟩ = some (.int .i64 (x.b : Nat)) ∧ w.cell? ⟨ib, j * 4 + 3, none⟩ = some (.string (bs x.s)) := by
 have hjl := (List.getElem?_eq_some_iff.1 hj).1
 obtain ⟨b, rfl, hc⟩ := h.ins.some (by omega)
 obtain ⟨g0, g1, g2, g3⟩ := insCells_get hj
 exact ⟨b, rfl, hc _ _ g0, hc _ _ g1, hc _ _ g2, hc _ _ g3⟩
theorem Sm.entr (h : Sm CB n m IA EA IC EC c w) {j e : Nat} (hj : c.entry[j]? = some e) (hm : m = c.entry.length) : ∃ eb, EA = some ⟨eb, 0, none⟩ ∧ w.cell? ⟨eb, j, none⟩ = some (.int .i64 (e : Nat)) := by
 have hjl := (List.getElem?_eq_some_iff.1 hj).1
 obtain ⟨b, rfl, hc⟩ := h.ent.some (by omega)
 exact ⟨b, rfl, hc j _ (by unfold ints; rw [List.getElem?_map, hj]; rfl)⟩
end
set_option maxHeartbeats 4000000 in
set_option maxRecDepth 100000 in
theorem same8_any (w : World) {IA EA IA2 EA2 : Option Addr} {IC EC IC2 EC2 n m : Nat} {c : CodeM} (hn : n = c.ins.length) (hm : m = c.entry.length) (hn3 : n ≤ 1200) (hm3 : m ≤ 6) (hi : Own w 45 4 (.slice IA n IC) n (insCells c.ins)) (he : Own w 3 1 (.slice EA m EC) m (ints c.entry)) (hi2 : Own w 45 4 (.slice IA2 n IC2) n (insCells c.ins)) (he2 : Own w 3 1 (.slice EA2 m EC2) m (ints c.entry)) :
  Calls Tryz.prog 16 #[.agg #[.slice IA n IC, .slice EA m EC], .agg #[.slice IA2 n IC2, .slice EA2 m EC2]] w fun e w' => e = .returned (.bool true) ∧ Fr nob w w' := by
 have F0 := hid (show Fr nob w ((w.alloc (.cells #[.slice IA n IC, .slice EA m EC] 37)).alloc (.cells #[.slice IA2 n IC2, .slice EA2 m EC2] 37)) from ((Fr.refl nob w).alloc _).alloc _)
 have A0 := hid (show Sm w.heap.size n m IA EA IC EC c ((w.alloc (.cells #[.slice IA n IC, .slice EA m EC] 37)).alloc (.cells #[.slice IA2 n IC2, .slice EA2 m EC2] 37)) from ⟨(Blk.new w _ _).alloc _, hi.fr F0.out (fun _ _ x => x), he.fr F0.out (fun _ _ x => x)⟩)
 have hb2 := Blk.new (w.alloc (.cells #[.slice IA n IC, .slice EA m EC] 37)) 37 #[.slice IA2 n IC2, .slice EA2 m EC2]
 rw [World.size_alloc] at hb2
 have B0 := hid (show Sm (w.heap.size + 1) n m IA2 EA2 IC2 EC2 c ((w.alloc (.cells #[.slice IA n IC, .slice EA m EC] 37)).alloc (.cells #[.slice IA2 n IC2, .slice EA2 m EC2] 37)) from ⟨hb2, hi2.fr F0.out (fun _ _ x => x), he2.fr F0.out (fun _ _ x => x)⟩)
 have HN := hid hn
 have HM := hid hm
 have hn4 : (n : Int) ≤ 1200 := by omega
 have hm4 : (m : Int) ≤ 6 := by omega
 have c1 : ((n : Int) != (n : Int)) = false := by simp
 have c2 : ((m : Int) != (m : Int)) = false := by simp
 clear hn hm hn3 hm3 hi he hi2 he2 hb2
 go_enter Tryz.func16, Tryz.ntmps16
 go_upto_region 1 with fail
 generalize (w.alloc (.cells #[.slice IA n IC, .slice EA m EC] 37)).alloc (.cells #[.slice IA2 n IC2, .slice EA2 m EC2] 37) = w1 at *
 generalize w.heap.size + 1 = B at *
 generalize w.heap.size = A at *
 obtain ⟨a0, a1⟩ := A0.out.box
 obtain ⟨b0, b1⟩ := B0.out.box
 go_wp2_with fail
 clear a0 a1 b0 b1 c1 c2
 go_loopw [5] (fun i wr => ∃ j : Nat, j ≤ n ∧ i = .int .i64 j ∧ Hid (Fr nob w1 wr)) (fun i _ => n - (intOf i).toNat)
 case atStart => exact ⟨0, Nat.zero_le _, rfl, hid (Fr.refl _ _)⟩
 case round =>
  obtain ⟨j, hj, rfl, F⟩ := hrel
  have SA := hid (A0.out.no F.out)
  have SB := hid (B0.out.no F.out)
  obtain ⟨a0, a1⟩ := SA.out.box
  obtain ⟨b0, b1⟩ := SB.out.box
  by_cases hlt : j < n
  · obtain ⟨x, hx⟩ : ∃ x, c.ins[j]? = some x := ⟨_, List.getElem?_eq_getElem (by have := HN.out; omega)⟩
    obtain ⟨ia, rfl, y0, y1, y2, y3⟩ := SA.out.insr hx HN.out
    obtain ⟨ib, rfl, z0, z1, z2, z3⟩ := SB.out.insr hx HN.out
    have hlt2 : (j : Int) < (n : Int) := by omega
    have HJ := hid hlt
    obtain ⟨o, a, b, sx⟩ := x
    dsimp only at y0 y1 y2 y3 z0 z1 z2 z3
    generalize bs sx = SX at *
    have hq := neq_ins (o : Nat) a (b : Nat) SX
    clear hx hlt hj SA SB
    go_wp2_with fail
    go_quiet (fail)
    go_wp2_with fail
    go_roundw
    case rel => exact ⟨j + 1, by have := HJ.out; omega, by go_num, by first | exact F | exact hid (F.out.drewN _)⟩
    case measure => simp [intOf]; have := HJ.out; omega
  · have hlt2 : ¬ (j : Int) < (n : Int) := by omega
    clear hlt hj
    go_wp2_with fail
    clear a0 a1 b0 b1 SA SB hlt2
    go_loopw [6] (fun i wr => ∃ j : Nat, j ≤ m ∧ i = .int .i64 j ∧ Hid (Fr nob w1 wr)) (fun i _ => m - (intOf i).toNat)
    case atStart => exact ⟨0, Nat.zero_le _, rfl, F⟩
    case round =>
     clear F
     obtain ⟨q, hq, rfl, F⟩ := hrel
     have SA := hid (A0.out.no F.out)
     have SB := hid (B0.out.no F.out)
     obtain ⟨a0, a1⟩ := SA.out.box
     obtain ⟨b0, b1⟩ := SB.out.box
     by_cases hlt : q < m
     · obtain ⟨x, hx⟩ : ∃ x, c.entry[q]? = some x := ⟨_, List.getElem?_eq_getElem (by have := HM.out; omega)⟩
       obtain ⟨ia, rfl, y0⟩ := SA.out.entr hx HM.out
       obtain ⟨ib, rfl, z0⟩ := SB.out.entr hx HM.out
       have hlt2 : (q : Int) < (m : Int) := by omega
       have HJ := hid hlt
       have c1 : ((x : Int) != (x : Int)) = false := by simp
       clear hx hlt hq SA SB
       go_wp2_with fail
       go_quiet (fail)
       go_wp2_with fail
       go_roundw
       case rel => exact ⟨q + 1, by have := HJ.out; omega, by go_num, by first | exact F | exact hid (F.out.drewN _)⟩
       case measure => simp [intOf]; have := HJ.out; omega
     · have hlt2 : ¬ (q : Int) < (m : Int) := by omega
       clear hlt hq
       go_wp2_with fail
       go_ret
       exact ⟨rfl, F0.out.tr F.out⟩
theorem findF_some {fs : List FuncM} {j : Nat} {f : FuncM} {y : List UInt8} (h : findF (fs.take j) y = none) (hf : fs[j]? = some f) (he : f.name = y) : findF fs y = some j := by
 refine idx_hit (fun g hg => ?_) hf (by simp [he])
 unfold findF at h
 rw [List.findIdx?_eq_none_iff] at h
 exact h g hg
theorem findF_next {fs : List FuncM} {j : Nat} {f : FuncM} {y : List UInt8} (h : findF (fs.take j) y = none) (hf : fs[j]? = some f) (he : f.name ≠ y) : findF (fs.take (j + 1)) y = none := by
 unfold findF at h ⊢
 rw [List.findIdx?_eq_none_iff] at h ⊢
 intro g hg
 rw [List.take_add_one, hf] at hg
 rcases List.mem_append.1 hg with hg | hg
 · exact h g hg
 · have : g = f := by simpa using hg
   rw [this]; simp [he]
section
variable {g : PgV} {w : World}
set_option maxHeartbeats 2000000 in
set_option maxRecDepth 100000 in
theorem cpmain_any (h : PgAt g w) : Calls Tryz.prog 20 #[g.val] w fun en w' => en = .returned (.int .i64 (idxZ (findF g.p.fs [109, 97, 105, 110]))) ∧ Fr nob w w' := by
 unfold PgV.val
 have F0 := hid (show Fr nob w (w.alloc (.cells #[.slice (some ⟨g.nb, 0, none⟩) g.p.ns.length g.nc, .slice (some ⟨g.fb, 0, none⟩) g.p.fs.length g.fc, .slice (some ⟨g.tb, 0, none⟩) g.p.ns.length g.tc, .slice (some ⟨g.sb, 0, none⟩) g.p.ns.length g.sc, .slice g.ua g.un g.uc, .slice g.za g.zn g.zc] 29)) from (Fr.refl nob w).alloc _)
 have B0 := hid (Blk.new w 29 #[.slice (some ⟨g.nb, 0, none⟩) g.p.ns.length g.nc, .slice (some ⟨g.fb, 0, none⟩) g.p.fs.length g.fc, .slice (some ⟨g.tb, 0, none⟩) g.p.ns.length g.tc, .slice (some ⟨g.sb, 0, none⟩) g.p.ns.length g.sc, .slice g.ua g.un g.uc, .slice g.za g.zn g.zc])
 have P0 := hid (h.no F0.out)
 have hf6 : (g.p.fs.length : Int) ≤ 6 := by have := h.is.tree.ok.fewf; omega
 obtain ⟨Z, hZ⟩ : ∃ Z, findF g.p.fs [109, 97, 105, 110] = Z := ⟨_, rfl⟩
 have HZ := hid hZ
 rw [hZ]
 clear h hZ
 go_enter Tryz.func20, Tryz.ntmps20
 go_wp2_with fail
 generalize w.alloc (.cells #[.slice (some ⟨g.nb, 0, none⟩) g.p.ns.length g.nc, .slice (some ⟨g.fb, 0, none⟩) g.p.fs.length g.fc, .slice (some ⟨g.tb, 0, none⟩) g.p.ns.length g.tc, .slice (some ⟨g.sb, 0, none⟩) g.p.ns.length g.sc, .slice g.ua g.un g.uc, .slice g.za g.zn g.zc] 29) = w1 at *
 generalize w.heap.size = T at *
 have p1 := (B0.out.cell 1).trans rfl
 have p0 := (B0.out.cell 0).trans rfl
 go_loopw [3] (fun i wr => ∃ j : Nat, j ≤ g.p.fs.length ∧ i = .int .i64 j ∧ Hid (findF (g.p.fs.take j) [109, 97, 105, 110] = none) ∧ wr = w1) (fun i _ => g.p.fs.length - (intOf i).toNat)
 case atStart => exact ⟨0, Nat.zero_le _, rfl, hid rfl, rfl⟩
 case round =>
  obtain ⟨j, hj, rfl, HK, rfl⟩ := hrel
  by_cases hlt : j < g.p.fs.length
  · have hlt2 : (j : Int) < (g.p.fs.length : Int) := by omega
    obtain ⟨f, hf⟩ : ∃ f, g.p.fs[j]? = some f := ⟨_, List.getElem?_eq_getElem hlt⟩
    have TA := P0.out.tree
    obtain ⟨pv, hpv⟩ : ∃ pv, g.pvs[j]? = some pv := ⟨_, List.getElem?_eq_getElem (by have := TA.samef; omega)⟩
    obtain ⟨fb, e, hcell⟩ := TA.fns.some (by omega)
    injection e with e
    injection e with e
    subst e
    have e0 := hcell (j * 5 + 0) _ (fnCells_all hf hpv 0 _ rfl)
    rw [Nat.add_zero] at e0
    have HF := hid hf
    have HJ := hid hlt
    clear hf hpv hcell TA hlt hj
    by_cases he : f.name = [109, 97, 105, 110]
    · have eb : ((bs f.name).toList == [109, 97, 105, 110]) = true := by rw [he]; kernel_rfl
      have HR := hid (findF_some HK.out HF.out he)
      clear he
      go_wp2_with fail
      go_ret
      refine ⟨?_, F0.out⟩
      rw [← HZ.out, HR.out]; rfl
    · have eb : ((bs f.name).toList == [109, 97, 105, 110]) = false := by rw [bs_toList]; exact beq_eq_false_iff_ne.2 he
      have HR := hid (findF_next HK.out HF.out he)
      clear he
      go_wp2_with fail
      go_roundw
      case rel => exact ⟨j + 1, by have := HJ.out; omega, by go_num, HR, by first | rfl | trivial⟩
      case measure => simp [intOf]; have := HJ.out; omega
  · have hlt2 : ¬ (j : Int) < (g.p.fs.length : Int) := by omega
    have HR := hid (show findF g.p.fs [109, 97, 105, 110] = none from by have := HK.out; rwa [List.take_of_length_le (by omega)] at this)
    clear hlt hj
    go_wp2_with fail
    go_ret
    refine ⟨?_, F0.out⟩
    rw [← HZ.out, HR.out]; rfl
end
def AllC (F : Nat) (g : PgV) (n m : Nat) : Prop := ∀ w, PgAt g w → Calls Tryz.prog F #[.agg #[.slice (some ⟨g.nb, 0, none⟩) g.p.ns.length g.nc, .slice (some ⟨g.fb, 0, none⟩) g.p.fs.length g.fc, .slice (some ⟨g.tb, 0, none⟩) g.p.ns.length g.tc, .slice (some ⟨g.sb, 0, none⟩) g.p.ns.length g.sc, .slice g.ua g.un g.uc, .slice g.za g.zn g.zc]] w fun en w' => ∃ IA IC EA EC, en = .returned (.agg #[.slice IA n IC, .slice EA m EC]) ∧ Own w' 45 4 (.slice IA n IC) n (insCells (compM g.p).ins) ∧ Own w' 3 1 (.slice EA m EC) m (ints (compM g.p).entry) ∧ Fr nob w w'
theorem allC_of {F n m : Nat} {g : PgV} (hn : n = (compM g.p).ins.length) (hm : m = (compM g.p).entry.length) (h : ∀ w, PgAt g w → Calls Tryz.prog F #[g.val] w fun en w' => ∃ iv ev, en = .returned (.agg #[iv, ev]) ∧ CodeAt w w' iv ev (compM g.p) ∧ Fr nob w w') : AllC F g n m := fun w hp => by
 refine (h w hp).mono ?_
 rintro en w' ⟨iv, ev, rfl, hc, hf⟩
 have h1 := hc.ins
 have h2 := hc.ent
 rw [← hn] at h1
 rw [← hm] at h2
 obtain ⟨IA, IC, rfl, -, -⟩ := h1.cap
 obtain ⟨EA, EC, rfl, -, -⟩ := h2.cap
 exact ⟨IA, IC, EA, EC, rfl, h1, h2, hf⟩
def PbS (g : PgV) (PB : Nat) (w : World) : Prop := w.cell? ⟨PB, 0, none⟩ = some (.slice (some ⟨g.nb, 0, none⟩) g.p.ns.length g.nc) ∧ w.cell? ⟨PB, 1, none⟩ = some (.slice (some ⟨g.fb, 0, none⟩) g.p.fs.length g.fc) ∧ w.cell? ⟨PB, 2, none⟩ = some (.slice (some ⟨g.tb, 0, none⟩) g.p.ns.length g.tc) ∧ w.cell? ⟨PB, 3, none⟩ = some (.slice (some ⟨g.sb, 0, none⟩) g.p.ns.length g.sc) ∧ w.cell? ⟨PB, 4, none⟩ = some (.slice g.ua g.un g.uc) ∧ w.cell? ⟨PB, 5, none⟩ = some (.slice g.za g.zn g.zc)
theorem pbS {g : PgV} {PB : Nat} {w : World} (h : Blk w PB 29 #[.slice (some ⟨g.nb, 0, none⟩) g.p.ns.length g.nc, .slice (some ⟨g.fb, 0, none⟩) g.p.fs.length g.fc, .slice (some ⟨g.tb, 0, none⟩) g.p.ns.length g.tc, .slice (some ⟨g.sb, 0, none⟩) g.p.ns.length g.sc, .slice g.ua g.un g.uc, .slice g.za g.zn g.zc]) : PbS g PB w :=
 ⟨(h.cell 0).trans rfl, (h.cell 1).trans rfl, (h.cell 2).trans rfl, (h.cell 3).trans rfl, (h.cell 4).trans rfl, (h.cell 5).trans rfl⟩
set_option maxHeartbeats 8000000 in
set_option maxRecDepth 100000 in
theorem compileAll_walk (HSRC : SrcAny) (s : ByteArray) (w : World) : Calls Tryz.prog 3 #[.string s] w fun e w' => e = .returned (.bool true) ∧ Fr nob w w' := by
 have HSH := hid (shown9_any HSRC w)
 obtain ⟨T, hT⟩ : ∃ T, s.data.toList.take 700 = T := ⟨_, rfl⟩
 have HSO := hid (fun w' => short9_any s w')
 rw [hT] at HSO
 have hTl : T.length ≤ 700 := by rw [← hT, List.length_take]; omega
 obtain ⟨r, hr⟩ := source_some T
 have HS := hid (fun w' => HSRC (bs T) w' (by show T.toArray.size ≤ _; rw [List.size_toArray]; omega) (r := r) hr)
 have HR := hid hr
 clear hT hTl hr
 go_enter Tryz.func3, Tryz.ntmps3
 go_wp2_with fail
 refine HSH.out.mono ?_
 rintro e w1 ⟨rfl, hf1⟩
 have F1 := hid hf1
 clear hf1 HSH
 go_wp2_with fail
 refine (HSO.out w1).mono ?_
 rintro e w1' ⟨rfl, hw⟩
 subst hw
 go_wp2_with fail
 refine (HS.out _).mono ?_
 rintro e w2 ⟨hsa, hf2⟩
 have F2 := hid (F1.out.tr hf2)
 clear hf2 HS HSO F1
 cases r with
 | bad p er =>
  obtain ⟨he, he0⟩ := hsa
  have he : e = .returned (.tuple #[.agg #[.slice none 0 0, .slice none 0 0, .slice none 0 0, .slice none 0 0, .slice none 0 0, .slice none 0 0], .int .i64 (p : Nat), .int .i64 (er : Nat)]) := he
  subst he
  have heb : ((er : Int) == 0) = false := beq_eq_false_iff_ne.2 (by omega)
  have hne : ((er : Int) != 0) = true := by rw [bne, heb]; rfl
  clear he0
  go_wp2_with fail
  go_ret
  exact ⟨rfl, F2.out.alloc _⟩
 | good p =>
  have HI := hid (source_is HR.out).1
  obtain ⟨g, hg, pg, rfl⟩ := source_prog hsa HI.out
  subst hg
  clear hsa
  obtain ⟨n, hn⟩ : ∃ n, n = (compM g.p).ins.length := ⟨_, rfl⟩
  obtain ⟨m, hm⟩ : ∃ m, m = (compM g.p).entry.length := ⟨_, rfl⟩
  have HN := hid hn
  have HM := hid hm
  have hn3 : n ≤ 1000 := by have := (comp_cd HI.out).len; have := HI.out.tree.ok.few; have := HI.out.tree.ok.fewf; omega
  have hm3 : m ≤ 6 := by rw [hm, (comp_cd HI.out).elen]; exact HI.out.tree.ok.fewf
  have H1 := hid (allC_of hn hm (fun w hp => coall_any (w := w) hp))
  have H2 := hid (allC_of hn hm (fun w hp => cpall_any (w := w) hp))
  obtain ⟨Z, hZ⟩ : ∃ Z, idxZ (findF g.p.fs [109, 97, 105, 110]) = Z := ⟨_, rfl⟩
  have M1 := hid (fun w (hp : PgAt g w) => comain_any (w := w) hp)
  have M2 := hid (fun w (hp : PgAt g w) => cpmain_any (w := w) hp)
  rw [hZ] at M1 M2
  unfold PgV.val at M1 M2
  have FP := hid (show Fr nob w2 (w2.alloc (.cells #[.slice (some ⟨g.nb, 0, none⟩) g.p.ns.length g.nc, .slice (some ⟨g.fb, 0, none⟩) g.p.fs.length g.fc, .slice (some ⟨g.tb, 0, none⟩) g.p.ns.length g.tc, .slice (some ⟨g.sb, 0, none⟩) g.p.ns.length g.sc, .slice g.ua g.un g.uc, .slice g.za g.zn g.zc] 29)) from (Fr.refl nob w2).alloc _)
  have P3 := hid (pg.no FP.out)
  have B3 := hid (Blk.new w2 29 #[.slice (some ⟨g.nb, 0, none⟩) g.p.ns.length g.nc, .slice (some ⟨g.fb, 0, none⟩) g.p.fs.length g.fc, .slice (some ⟨g.tb, 0, none⟩) g.p.ns.length g.tc, .slice (some ⟨g.sb, 0, none⟩) g.p.ns.length g.sc, .slice g.ua g.un g.uc, .slice g.za g.zn g.zc])
  have F3 := hid (F2.out.tr FP.out)
  unfold PgV.val
  clear pg F2 FP hn hm hZ
  have c1 : (Z == Z) = true := by simp
  go_upto_region 5 with fail
  generalize w2.alloc (.cells #[.slice (some ⟨g.nb, 0, none⟩) g.p.ns.length g.nc, .slice (some ⟨g.fb, 0, none⟩) g.p.fs.length g.fc, .slice (some ⟨g.tb, 0, none⟩) g.p.ns.length g.tc, .slice (some ⟨g.sb, 0, none⟩) g.p.ns.length g.sc, .slice g.ua g.un g.uc, .slice g.za g.zn g.zc] 29) = w3 at *
  generalize w2.heap.size = PB at *
  have P4 := hid (P3.out.no (Fr.refl nob w3).drew)
  have B4 := hid (B3.out.fr (Fr.refl nob w3).drew (fun x => x))
  have F4 := hid (F3.out.tr (Fr.refl nob w3).drew)
  have K4 := hid (pbS B4.out)
  clear P3 B3 F3
  go_cut [7] (fun v wx => v = .bool true ∧ Hid (PgAt g wx) ∧ Hid (Blk wx PB 29 #[.slice (some ⟨g.nb, 0, none⟩) g.p.ns.length g.nc, .slice (some ⟨g.fb, 0, none⟩) g.p.fs.length g.fc, .slice (some ⟨g.tb, 0, none⟩) g.p.ns.length g.tc, .slice (some ⟨g.sb, 0, none⟩) g.p.ns.length g.sc, .slice g.ua g.un g.uc, .slice g.za g.zn g.zc]) ∧ Hid (Fr nob w wx))
  case first =>
   unfold PbS at K4
   go_region_held3 (fun w => w.cell? ⟨PB, 0, none⟩ = some (.slice (some ⟨g.nb, 0, none⟩) g.p.ns.length g.nc) ∧ w.cell? ⟨PB, 1, none⟩ = some (.slice (some ⟨g.fb, 0, none⟩) g.p.fs.length g.fc) ∧ w.cell? ⟨PB, 2, none⟩ = some (.slice (some ⟨g.tb, 0, none⟩) g.p.ns.length g.tc) ∧ w.cell? ⟨PB, 3, none⟩ = some (.slice (some ⟨g.sb, 0, none⟩) g.p.ns.length g.sc) ∧ w.cell? ⟨PB, 4, none⟩ = some (.slice g.ua g.un g.uc) ∧ w.cell? ⟨PB, 5, none⟩ = some (.slice g.za g.zn g.zc)) (first | exact K4.out | exact K5.out | exact K6.out | exact K7.out) (first | (go_at_call 17; refine (H1.out _ P4.out).mono ?_; go_loud (rintro e w5 ⟨IA, IC, EA, EC, rfl, hi, he, hf⟩); go_loud (have I5 := hid hi); go_loud (have E5 := hid he); go_loud (have P5 := hid (P4.out.no hf)); go_loud (have B5 := hid (B4.out.fr hf (fun x => x))); go_loud (have F5 := hid (F4.out.tr hf)); go_loud (have K5 := hid (pbS B5.out)); go_loud (unfold PbS at K5); go_loud (clear hi he hf)) | (go_at_call 18; refine (H2.out _ P5.out).mono ?_; go_loud (rintro e w6 ⟨IA2, IC2, EA2, EC2, rfl, hi, he, hf⟩); go_loud (have I6 := hid hi); go_loud (have E6 := hid he); go_loud (have I5 := hid (I5.out.fr hf (fun _ _ x => x))); go_loud (have E5 := hid (E5.out.fr hf (fun _ _ x => x))); go_loud (have P6 := hid (P5.out.no hf)); go_loud (have B6 := hid (B5.out.fr hf (fun x => x))); go_loud (have F6 := hid (F5.out.tr hf)); go_loud (have K6 := hid (pbS B6.out)); go_loud (unfold PbS at K6); go_loud (clear hi he hf)) | (go_at_call 16; refine (same8_any _ HN.out HM.out (by omega) (by omega) I5.out E5.out I6.out E6.out).mono ?_; go_loud (rintro e w7 ⟨rfl, hf⟩); go_loud (have P7 := hid (P6.out.no hf)); go_loud (have B7 := hid (B6.out.fr hf (fun x => x))); go_loud (have F7 := hid (F6.out.tr hf)); go_loud (have K7 := hid (pbS B7.out)); go_loud (unfold PbS at K7); go_loud (clear hf)))
   all_goals
    go_wp2_with fail
    go_meet
    exact ⟨rfl, (by first | exact P7 | exact hid (P7.out.no ((Fr.refl nob _).drewN _))), (by first | exact B7 | exact hid (B7.out.drewN _)), (by first | exact F7 | exact hid (F7.out.drewN _))⟩
  case rest =>
   clear P4 B4 F4 K4
   obtain ⟨rfl, P3, B3, F3⟩ := hcut
   have P4 := hid (P3.out.no (Fr.refl nob wc).drew)
   have B4 := hid (B3.out.fr (Fr.refl nob wc).drew (fun x => x))
   have F4 := hid (F3.out.tr (Fr.refl nob wc).drew)
   have K4 := hid (pbS B4.out)
   unfold PbS at K4
   clear P3 B3 F3
   go_wp2_with fail
   go_region_held3 (fun w => w.cell? ⟨PB, 0, none⟩ = some (.slice (some ⟨g.nb, 0, none⟩) g.p.ns.length g.nc) ∧ w.cell? ⟨PB, 1, none⟩ = some (.slice (some ⟨g.fb, 0, none⟩) g.p.fs.length g.fc) ∧ w.cell? ⟨PB, 2, none⟩ = some (.slice (some ⟨g.tb, 0, none⟩) g.p.ns.length g.tc) ∧ w.cell? ⟨PB, 3, none⟩ = some (.slice (some ⟨g.sb, 0, none⟩) g.p.ns.length g.sc) ∧ w.cell? ⟨PB, 4, none⟩ = some (.slice g.ua g.un g.uc) ∧ w.cell? ⟨PB, 5, none⟩ = some (.slice g.za g.zn g.zc)) (first | exact K4.out | exact K5.out | exact K6.out) (first | (go_at_call 19; refine (M1.out _ P4.out).mono ?_; go_loud (rintro e w5 ⟨rfl, hf⟩); go_loud (have P5 := hid (P4.out.no hf)); go_loud (have B5 := hid (B4.out.fr hf (fun x => x))); go_loud (have F5 := hid (F4.out.tr hf)); go_loud (have K5 := hid (pbS B5.out)); go_loud (unfold PbS at K5); go_loud (clear hf)) | (go_at_call 20; refine (M2.out _ P5.out).mono ?_; go_loud (rintro e w6 ⟨rfl, hf⟩); go_loud (have B6 := hid (B5.out.fr hf (fun x => x))); go_loud (have F6 := hid (F5.out.tr hf)); go_loud (have K6 := hid (pbS B6.out)); go_loud (unfold PbS at K6); go_loud (clear hf)))
   all_goals
    go_wp2_with fail
    go_ret
    exact ⟨rfl, by first | exact F6.out | exact F6.out.drewN _⟩
end Go.Proofs.YtlbjicjinnnboaaGreatDoor
