/- furcateref08.Same: of one code, laid two times. -/
import Derived.Test.YtlbjicjinnnboaaDoorMLw
import Derived.BigQuiet
set_option linter.unusedVariables false
set_option linter.unusedSimpArgs false
namespace Go.Proofs.YtlbjicjinnnboaaDoor
open Go.RowKit
open Pw
theorem eqi (d : Nat) (a : Int) (w : World) : (Op.equalIn (d + 1) 3 (.int .i64 a) (.int .i64 a)).run Tryd.prog w = .ok true w := by
 simp [Op.equalIn, go_sem, Tryd.underlying3]
theorem eqs (d : Nat) (a : ByteArray) (w : World) : (Op.equalIn (d + 1) 9 (.string a) (.string a)).run Tryd.prog w = .ok true w := by
 have h : (a == a) = true := by obtain ⟨l⟩ := a; show (l == l) = true; simp
 simp [Op.equalIn, go_sem, Tryd.underlying9, h]
theorem eqins (d : Nat) (o a b : Int) (s : ByteArray) (w : World) : (Op.equalIn (d + 1 + 1) 39 (.agg #[.int .i64 o, .int .i64 a, .int .i64 b, .string s]) (.agg #[.int .i64 o, .int .i64 a, .int .i64 b, .string s])).run Tryd.prog w = .ok true w := by
 rw [Op.equalIn]
 simp [go_sem, Tryd.underlying39, eqi, eqs, part]
theorem neq_ins (o a b : Int) (s : ByteArray) (w : World) : (binOp BinOp.neq 39 (.agg #[.int .i64 o, .int .i64 a, .int .i64 b, .string s]) (.agg #[.int .i64 o, .int .i64 a, .int .i64 b, .string s])).run Tryd.prog w = .ok (.bool false) w := by
 have e : (Op.equal 39 (.agg #[.int .i64 o, .int .i64 a, .int .i64 b, .string s]) (.agg #[.int .i64 o, .int .i64 a, .int .i64 b, .string s])).run Tryd.prog w = .ok true w := eqins 9998 o a b s w
 simp [binOp, go_sem]
 rw [e]
 rfl
structure Sm (CB n m : Nat) (IA EA : Option Addr) (IC EC : Nat) (c : CodeM) (w : World) : Prop where
 cb : Blk w CB 35 #[.slice IA n IC, .slice EA m EC]
 ins : Own w 39 4 (.slice IA n IC) n (insCells c.ins)
 ent : Own w 3 1 (.slice EA m EC) m (ints c.entry)
section
variable {CB n m IC EC : Nat} {IA EA : Option Addr} {c : CodeM} {w w' : World}
theorem Sm.no (h : Sm CB n m IA EA IC EC c w) (f : Fr nob w w') : Sm CB n m IA EA IC EC c w' := ⟨h.cb.fr f (fun x => x), h.ins.fr f (fun _ _ x => x), h.ent.fr f (fun _ _ x => x)⟩
theorem Sm.box (h : Sm CB n m IA EA IC EC c w) : w.cell? ⟨CB, 0, none⟩ = some (.slice IA n IC) ∧ w.cell? ⟨CB, 1, none⟩ = some (.slice EA m EC) := ⟨(h.cb.cell 0).trans rfl, (h.cb.cell 1).trans rfl⟩
theorem Sm.insr (h : Sm CB n m IA EA IC EC c w) {j : Nat} {x : InsM} (hj : c.ins[j]? = some x) (hn : n = c.ins.length) : ∃ ib, IA = some ⟨ib, 0, none⟩ ∧ w.cell? ⟨ib, j * 4, none⟩ = some (.int .i64 (x.op : Nat)) ∧ w.cell? ⟨ib, j * 4 + 1, none⟩ = some (.int .i64 x.a) ∧ w.cell? ⟨ib, j * 4 + 2, none⟩ = some (.int .i64 (x.b : Nat)) ∧ w.cell? ⟨ib, j * 4 + 3, none⟩ = some (.string (bs x.s)) := by
 have hjl := (List.getElem?_eq_some_iff.1 hj).1
 obtain ⟨b, rfl, hc⟩ := h.ins.some (by omega)
 obtain ⟨g0, g1, g2, g3⟩ := insCells_get hj
 exact ⟨b, rfl, hc _ _ g0, hc _ _ g1, hc _ _ g2, hc _ _ g3⟩
theorem Sm.entr (h : Sm CB n m IA EA IC EC c w) {j e : Nat} (hj : c.entry[j]? = some e) (hm : m = c.entry.length) : ∃ eb, EA = some ⟨eb, 0, none⟩ ∧ w.cell? ⟨eb, j, none⟩ = some (.int .i64 (e : Nat)) := by
 have hjl := (List.getElem?_eq_some_iff.1 hj).1
 obtain ⟨b, rfl, hc⟩ := h.ent.some (by omega)
 exact ⟨b, rfl, hc j _ (by unfold ints; rw [List.getElem?_map, hj]; rfl)⟩
end
set_option maxHeartbeats 4000000 in
set_option maxRecDepth 100000 in
theorem same8_any (w : World) {IA EA IA2 EA2 : Option Addr} {IC EC IC2 EC2 n m : Nat} {c : CodeM} (hn : n = c.ins.length) (hm : m = c.entry.length) (hn3 : n ≤ 1200) (hm3 : m ≤ 6) (hi : Own w 39 4 (.slice IA n IC) n (insCells c.ins)) (he : Own w 3 1 (.slice EA m EC) m (ints c.entry)) (hi2 : Own w 39 4 (.slice IA2 n IC2) n (insCells c.ins)) (he2 : Own w 3 1 (.slice EA2 m EC2) m (ints c.entry)) :
  Calls Tryd.prog 8 #[.agg #[.slice IA n IC, .slice EA m EC], .agg #[.slice IA2 n IC2, .slice EA2 m EC2]] w fun e w' => e = .returned (.bool true) ∧ Fr nob w w' := by
 have F0 := hid (show Fr nob w ((w.alloc (.cells #[.slice IA n IC, .slice EA m EC] 35)).alloc (.cells #[.slice IA2 n IC2, .slice EA2 m EC2] 35)) from ((Fr.refl nob w).alloc _).alloc _)
 have A0 := hid (show Sm w.heap.size n m IA EA IC EC c ((w.alloc (.cells #[.slice IA n IC, .slice EA m EC] 35)).alloc (.cells #[.slice IA2 n IC2, .slice EA2 m EC2] 35)) from ⟨(Blk.new w _ _).alloc _, hi.fr F0.out (fun _ _ x => x), he.fr F0.out (fun _ _ x => x)⟩)
 have hb2 := Blk.new (w.alloc (.cells #[.slice IA n IC, .slice EA m EC] 35)) 35 #[.slice IA2 n IC2, .slice EA2 m EC2]
 rw [World.size_alloc] at hb2
 have B0 := hid (show Sm (w.heap.size + 1) n m IA2 EA2 IC2 EC2 c ((w.alloc (.cells #[.slice IA n IC, .slice EA m EC] 35)).alloc (.cells #[.slice IA2 n IC2, .slice EA2 m EC2] 35)) from ⟨hb2, hi2.fr F0.out (fun _ _ x => x), he2.fr F0.out (fun _ _ x => x)⟩)
 have HN := hid hn
 have HM := hid hm
 have hn4 : (n : Int) ≤ 1200 := by omega
 have hm4 : (m : Int) ≤ 6 := by omega
 have c1 : ((n : Int) != (n : Int)) = false := by simp
 have c2 : ((m : Int) != (m : Int)) = false := by simp
 clear hn hm hn3 hm3 hi he hi2 he2 hb2
 go_enter Tryd.func8, Tryd.ntmps8
 go_upto_region 1 with fail
 generalize (w.alloc (.cells #[.slice IA n IC, .slice EA m EC] 35)).alloc (.cells #[.slice IA2 n IC2, .slice EA2 m EC2] 35) = w1 at *
 generalize w.heap.size + 1 = B at *
 generalize w.heap.size = A at *
 obtain ⟨a0, a1⟩ := A0.out.box
 obtain ⟨b0, b1⟩ := B0.out.box
 go_wp2_with fail
 clear a0 a1 b0 b1 c1 c2
 go_loopw [5] (fun i wr => ∃ j : Nat, j ≤ n ∧ i = .int .i64 j ∧ Hid (Fr nob w1 wr)) (fun i _ => n - (intOf i).toNat)
 case atStart => exact ⟨0, Nat.zero_le _, rfl, hid (Fr.refl _ _)⟩
 case round =>
  obtain ⟨j, hj, rfl, F⟩ := hrel
  have SA := hid (A0.out.no F.out)
  have SB := hid (B0.out.no F.out)
  obtain ⟨a0, a1⟩ := SA.out.box
  obtain ⟨b0, b1⟩ := SB.out.box
  by_cases hlt : j < n
  · obtain ⟨x, hx⟩ : ∃ x, c.ins[j]? = some x := ⟨_, List.getElem?_eq_getElem (by have := HN.out; omega)⟩
    obtain ⟨ia, rfl, y0, y1, y2, y3⟩ := SA.out.insr hx HN.out
    obtain ⟨ib, rfl, z0, z1, z2, z3⟩ := SB.out.insr hx HN.out
    have hlt2 : (j : Int) < (n : Int) := by omega
    have HJ := hid hlt
    obtain ⟨o, a, b, sx⟩ := x
    dsimp only at y0 y1 y2 y3 z0 z1 z2 z3
    generalize bs sx = SX at *
    have hq := neq_ins (o : Nat) a (b : Nat) SX
    clear hx hlt hj SA SB
    go_wp2_with fail
    go_quiet (fail)
    go_wp2_with fail
    go_roundw
    case rel => exact ⟨j + 1, by have := HJ.out; omega, by go_num, by first | exact F | exact hid (F.out.drewN _)⟩
    case measure => simp [intOf]; have := HJ.out; omega
  · have hlt2 : ¬ (j : Int) < (n : Int) := by omega
    clear hlt hj
    go_wp2_with fail
    clear a0 a1 b0 b1 SA SB hlt2
    go_loopw [6] (fun i wr => ∃ j : Nat, j ≤ m ∧ i = .int .i64 j ∧ Hid (Fr nob w1 wr)) (fun i _ => m - (intOf i).toNat)
    case atStart => exact ⟨0, Nat.zero_le _, rfl, F⟩
    case round =>
     clear F
     obtain ⟨q, hq, rfl, F⟩ := hrel
     have SA := hid (A0.out.no F.out)
     have SB := hid (B0.out.no F.out)
     obtain ⟨a0, a1⟩ := SA.out.box
     obtain ⟨b0, b1⟩ := SB.out.box
     by_cases hlt : q < m
     · obtain ⟨x, hx⟩ : ∃ x, c.entry[q]? = some x := ⟨_, List.getElem?_eq_getElem (by have := HM.out; omega)⟩
       obtain ⟨ia, rfl, y0⟩ := SA.out.entr hx HM.out
       obtain ⟨ib, rfl, z0⟩ := SB.out.entr hx HM.out
       have hlt2 : (q : Int) < (m : Int) := by omega
       have HJ := hid hlt
       have c1 : ((x : Int) != (x : Int)) = false := by simp
       clear hx hlt hq SA SB
       go_wp2_with fail
       go_quiet (fail)
       go_wp2_with fail
       go_roundw
       case rel => exact ⟨q + 1, by have := HJ.out; omega, by go_num, by first | exact F | exact hid (F.out.drewN _)⟩
       case measure => simp [intOf]; have := HJ.out; omega
     · have hlt2 : ¬ (q : Int) < (m : Int) := by omega
       clear hlt hq
       go_wp2_with fail
       go_ret
       exact ⟨rfl, F0.out.tr F.out⟩
end Go.Proofs.YtlbjicjinnnboaaDoor
