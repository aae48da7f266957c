/- MO2: MapLit, CoUn, CoExL, CoBin, CoFind, CoCall. -/
import Derived.Test.YtlbjicjinnnboaaDoorMA
import Derived.MapFrom
import Derived.Carry
import Derived.Test.YtlbjicjinnnboaaDoorMOL
import Derived.Test.YtlbjicjinnnboaaDoorMO1
import Derived.Laws.EntriesVeiled
set_option linter.unusedVariables false
set_option linter.unusedSimpArgs false
/- Maps that a function makes itself, whose keys are known. No program is named here. -/
namespace Go.Proofs.YtlbjicjinnnboaaDoor
open Go.RowKit Go.MapKept
section
variable {P : Program} {w : World} {mty kt et : TypeId} {d : TypeDesc} {r clock : Nat} {es : Array MapEntry} {key value z : Value}
def mapTo (w : World) (r : Nat) (es : Array MapEntry) (c : Nat) : World := { w with heap := w.heap.setIfInBounds r (.map es c) }
theorem mapTo_heap (hb : w.heap[r]? = some (.map es clock)) (es' : Array MapEntry) (c : Nat) : (mapTo w r es' c).heap[r]? = some (.map es' c) := (heap_set hb).1
theorem mapTo_fr (w : World) (r : Nat) (es : Array MapEntry) (c : Nat) : Fr (oneb r) w (mapTo w r es c) :=
 ⟨rfl, rfl, rfl, by simp [mapTo], fun k hk hm => by
  unfold mapTo
  simp only [Array.getElem?_setIfInBounds]
  rw [if_neg (fun e => hm e.symm)]⟩
theorem run_insert_new (hm : P.underlying mty = some (.map kt et)) (hd : P.underlying kt = some d) (hb : w.heap[r]? = some (.map es clock)) (hk : IsKey d key) (hf : Instr.findNow d key es.toList 0 = some none) :
  (Instr.mapUpdate mty (.map (some r)) key value).run P w = .ok () (mapTo w r (es.push ⟨key, value, clock⟩) (clock + 1)) := by
 simp [Instr.mapUpdate, run_underlying hm, Go.MapKept.run_getObj_map hb, run_checkKey hd hk, run_findKey hd hf, Go.MapKept.run_setObj_map _ hb, Result.andThen, mapTo]
theorem run_lookup_ok_hit (hm : P.underlying mty = some (.map kt et)) (hd : P.underlying kt = some d) (hb : w.heap[r]? = some (.map es clock)) (hk : IsKey d key) {j : Nat} (hf : Instr.findNow d key es.toList 0 = some (some (j, value))) :
  (Instr.lookup mty (.map (some r)) key true).run P w = .ok (.tuple #[value, .bool true]) w := by
 simp [Instr.lookup, run_underlying hm, Go.MapKept.run_getObj_map hb, run_checkKey hd hk, run_findKey hd hf, Result.andThen]
theorem run_lookup_ok_miss (hm : P.underlying mty = some (.map kt et)) (hd : P.underlying kt = some d) (hb : w.heap[r]? = some (.map es clock)) (hk : IsKey d key) (hf : Instr.findNow d key es.toList 0 = some none) (hz : (zeroValue et).run P w = .ok z w) :
  (Instr.lookup mty (.map (some r)) key true).run P w = .ok (.tuple #[z, .bool false]) w := by
 simp [Instr.lookup, run_underlying hm, Go.MapKept.run_getObj_map hb, run_checkKey hd hk, run_findKey hd hf, Result.andThen, hz]
theorem ins_step (hm : P.underlying mty = some (.map kt et)) (hd : P.underlying kt = some d) (hb : w.heap[r]? = some (.map es clock)) (hk : IsKey d key) (hf : Instr.findNow d key es.toList 0 = some none) (value : Value) :
  ∃ w', (Instr.mapUpdate mty (.map (some r)) key value).run P w = .ok () w' ∧ w'.heap[r]? = some (.map (es.push ⟨key, value, clock⟩) (clock + 1)) ∧ Fr (oneb r) w w' :=
 ⟨_, run_insert_new hm hd hb hk hf, mapTo_heap hb _ _, mapTo_fr _ _ _ _⟩
end
end Go.Proofs.YtlbjicjinnnboaaDoor
/- The program's own coder: expr, of one below. Printed by wip/tools/mkcoexpr.py. -/
namespace Go.Proofs.YtlbjicjinnnboaaDoor
open Go.RowKit
open Pw
theorem u_sin : Tryd.prog.underlying 92 = some (.map 3 3) := by kernel_rfl
theorem u_in3 : Tryd.prog.underlying 3 = some (.int .i64) := by kernel_rfl
theorem map_fr {w w1 w2 w3 w4 w5 : World} {o : Obj} (f1 : Fr (oneb w.heap.size) (w.alloc o) w1) (f2 : Fr (oneb w.heap.size) w1 w2) (f3 : Fr (oneb w.heap.size) w2 w3) (f4 : Fr (oneb w.heap.size) w3 w4) (f5 : Fr (oneb w.heap.size) w4 w5) : Fr nob w w5 := by
 have h : Fr (oneb w.heap.size) (w.alloc o) w5 := (((f1.tr f2).tr f3).tr f4).tr f5
 exact Fr.trans (M1 := nob) ((Fr.refl nob w).alloc o) h (fun _ _ x => x) (fun k hk hm => by have hm : k = w.heap.size := hm; omega)
section
variable {g : PgV}
set_option maxHeartbeats 2000000 in
set_option maxRecDepth 100000 in
theorem coex_index {x at_ u line n : Nat} {nm : List UInt8} {l : List InsM} (hx : g.p.ns[x]? = some ⟨5, line, n, nm, [u]⟩) (IH : CoOk 35 g u at_ l) {a : Int} (ha : max (slotP g.p x) 0 = a) : CoOk 35 g x at_ (l ++ [⟨11, a, 0, []⟩]) := by
 intro cb w L h hL hl
 rw [List.length_append, List.length_singleton] at hl
 have HIH := hid IH
 have HA := hid ha
 have HL3 := hid (show at_ + l.length ≤ 3000 by omega)
 clear IH ha
 obtain ⟨lv, hlv, HN0⟩ := conode_any h hx
 dsimp only at hlv HN0
 obtain ⟨kb, kc, rfl⟩ := kidsGet hlv (by simp)
 have HN := hid HN0
 have HL0 := hid hlv
 have S0 := hid h
 have HLE := hid (And.intro hL hl)
 have hxlt := (List.getElem?_eq_some_iff.1 hx).1
 have SL := hid (fun (w' : World) (h : PgAt g w') => h.slot hxlt)
 have HX := hid hx
 have hx3 : (x : Int) < (g.p.ns.length : Int) := by omega
 have hx4 := h.pg.len
 clear HN0 hlv h hL hx hxlt
 generalize hLL : ([u] : List Nat).length = LL at *
 have HLL := hid hLL
 clear hLL
 go_enter Tryd.func35, Tryd.ntmps35
 go_wp2_with fail
 refine HN.out.mono ?_
 rintro en w1 ⟨rfl, hf⟩
 have S1 := hid (S0.out.no hf)
 have HL1 := hid (HL0.out.fr hf (fun _ _ x => x))
 have F1 := hid (FrT.no (B := cb) (ts := coTs) hf)
 clear hf S0 HL0 HN
 go_wp2_with fail
 have FA := (Fr.refl nob w1).alloc (.cells #[.int .i64 5, .int .i64 line, .int .i64 n, .string (bs nm), .slice (some ⟨kb, 0, none⟩) LL kc] 49)
 have BN2 := hid (Blk.new w1 49 #[.int .i64 5, .int .i64 line, .int .i64 n, .string (bs nm), .slice (some ⟨kb, 0, none⟩) LL kc])
 have S2 := hid (S1.out.no FA)
 have HL2 := hid (HL1.out.fr FA (fun _ _ x => x))
 have F2 := hid (F1.out.tr (FrT.no (B := cb) (ts := coTs) FA))
 clear FA S1 HL1 F1
 generalize w1.alloc (.cells #[.int .i64 5, .int .i64 line, .int .i64 n, .string (bs nm), .slice (some ⟨kb, 0, none⟩) LL kc] 49) = w2 at *
 generalize w1.heap.size = T at *
 have hmm := @run_makeMap Tryd.prog
 have b0 : (w2.alloc (.map #[] 0)).heap[w2.heap.size]? = some (.map #[] 0) := heap_alloc_new w2 _
 obtain ⟨w3, i1, b1, f1⟩ := ins_step u_sin u_in3 b0 (key := .int .i64 6) rfl rfl (.int .i64 10)
 obtain ⟨w4, i2, b2, f2⟩ := ins_step u_sin u_in3 b1 (key := .int .i64 7) rfl rfl (.int .i64 8)
 obtain ⟨w5, i3, b3, f3⟩ := ins_step u_sin u_in3 b2 (key := .int .i64 8) rfl rfl (.int .i64 9)
 obtain ⟨w6, i4, b4, f4⟩ := ins_step u_sin u_in3 b3 (key := .int .i64 20) rfl rfl (.int .i64 13)
 obtain ⟨w7, i5, b5, f5⟩ := ins_step u_sin u_in3 b4 (key := .int .i64 5) rfl rfl (.int .i64 11)
 have FM : Fr nob w2 w7 := map_fr f1 f2 f3 f4 f5
 have lk := run_lookup_ok_hit (P := Tryd.prog) u_sin u_in3 b5 (key := .int .i64 5) rfl (hf := rfl) (value := .int .i64 11)
 have S7 := hid (S2.out.no FM)
 have HL7 := hid (HL2.out.fr FM (fun _ _ x => x))
 have F7 := hid (F2.out.tr (FrT.no (B := cb) (ts := coTs) FM))
 have BN7 := hid (BN2.out.fr FM (fun x => x))
 clear FM f1 f2 f3 f4 f5 b0 b1 b2 b3 b4 b5 S2 HL2 F2 BN2
 obtain ⟨n0, n1, n2, n3, n4, m0, m1, m2, m3, m4, tlt⟩ := BN7.out.fifth
 clear m0 m1 m2 m3 m4 tlt
 obtain ⟨kb', c', e, kc0⟩ := rowGet (l := [u]) (by rw [HLL.out]; exact HL7.out) (j := 0) rfl
 injection e with e1 e2 e3
 injection e1 with e1
 injection e1 with e1
 subst e1
 have hl1 : (0 : Int) < (LL : Int) := by rw [← HLL.out]; simp
 clear e2 e3
 rw [hmm]
 clear hmm
 go_wp2_with fail
 clear i1 i2 i3 i4 i5 lk
 refine (HIH.out cb w7 L S7.out HLE.out.1 HL3.out).mono ?_
 rintro en w8 ⟨rfl, hc, hf⟩
 have S8 := hid hc
 have F8 := hid (F7.out.tr hf)
 obtain ⟨A, c, hb, -, -⟩ := hc.ex
 have c3 : w8.cell? ⟨cb, 3, none⟩ = some (.slice (some ⟨g.sb, 0, none⟩) g.p.ns.length g.sc) := (hb.cell 3).trans rfl
 have sl := SL.out _ hc.pg
 clear hb hc hf n0 n1 n2 n3 n4 kc0
 have mx : max (slotP g.p x) 0 = a := HA.out
 go_wp2_with fail
 refine (coput_any S8.out ⟨11, a, 0, []⟩ rfl rfl rfl rfl (by have := HLE.out.1; have := HL3.out; rw [List.length_append]; omega)).mono ?_
 rintro en w9 ⟨rfl, hc, hf⟩
 have S9 := hid hc
 have F9 := hid (F8.out.tr hf)
 clear hc hf c3 sl mx
 go_wp2_with fail
 exact bodyPost_end (results_none rfl _ _ _) rfl ⟨rfl, by rw [← List.append_assoc]; exact S9.out, F9.out⟩
set_option maxHeartbeats 2000000 in
set_option maxRecDepth 100000 in
theorem coex_len {x at_ u line n : Nat} {nm : List UInt8} {l : List InsM} (hx : g.p.ns[x]? = some ⟨6, line, n, nm, [u]⟩) (IH : CoOk 35 g u at_ l) {a : Int} (ha : max (slotP g.p x) 0 = a) : CoOk 35 g x at_ (l ++ [⟨10, a, 0, []⟩]) := by
 intro cb w L h hL hl
 rw [List.length_append, List.length_singleton] at hl
 have HIH := hid IH
 have HA := hid ha
 have HL3 := hid (show at_ + l.length ≤ 3000 by omega)
 clear IH ha
 obtain ⟨lv, hlv, HN0⟩ := conode_any h hx
 dsimp only at hlv HN0
 obtain ⟨kb, kc, rfl⟩ := kidsGet hlv (by simp)
 have HN := hid HN0
 have HL0 := hid hlv
 have S0 := hid h
 have HLE := hid (And.intro hL hl)
 have hxlt := (List.getElem?_eq_some_iff.1 hx).1
 have SL := hid (fun (w' : World) (h : PgAt g w') => h.slot hxlt)
 have HX := hid hx
 have hx3 : (x : Int) < (g.p.ns.length : Int) := by omega
 have hx4 := h.pg.len
 clear HN0 hlv h hL hx hxlt
 generalize hLL : ([u] : List Nat).length = LL at *
 have HLL := hid hLL
 clear hLL
 go_enter Tryd.func35, Tryd.ntmps35
 go_wp2_with fail
 refine HN.out.mono ?_
 rintro en w1 ⟨rfl, hf⟩
 have S1 := hid (S0.out.no hf)
 have HL1 := hid (HL0.out.fr hf (fun _ _ x => x))
 have F1 := hid (FrT.no (B := cb) (ts := coTs) hf)
 clear hf S0 HL0 HN
 go_wp2_with fail
 have FA := (Fr.refl nob w1).alloc (.cells #[.int .i64 6, .int .i64 line, .int .i64 n, .string (bs nm), .slice (some ⟨kb, 0, none⟩) LL kc] 49)
 have BN2 := hid (Blk.new w1 49 #[.int .i64 6, .int .i64 line, .int .i64 n, .string (bs nm), .slice (some ⟨kb, 0, none⟩) LL kc])
 have S2 := hid (S1.out.no FA)
 have HL2 := hid (HL1.out.fr FA (fun _ _ x => x))
 have F2 := hid (F1.out.tr (FrT.no (B := cb) (ts := coTs) FA))
 clear FA S1 HL1 F1
 generalize w1.alloc (.cells #[.int .i64 6, .int .i64 line, .int .i64 n, .string (bs nm), .slice (some ⟨kb, 0, none⟩) LL kc] 49) = w2 at *
 generalize w1.heap.size = T at *
 have hmm := @run_makeMap Tryd.prog
 have b0 : (w2.alloc (.map #[] 0)).heap[w2.heap.size]? = some (.map #[] 0) := heap_alloc_new w2 _
 obtain ⟨w3, i1, b1, f1⟩ := ins_step u_sin u_in3 b0 (key := .int .i64 6) rfl rfl (.int .i64 10)
 obtain ⟨w4, i2, b2, f2⟩ := ins_step u_sin u_in3 b1 (key := .int .i64 7) rfl rfl (.int .i64 8)
 obtain ⟨w5, i3, b3, f3⟩ := ins_step u_sin u_in3 b2 (key := .int .i64 8) rfl rfl (.int .i64 9)
 obtain ⟨w6, i4, b4, f4⟩ := ins_step u_sin u_in3 b3 (key := .int .i64 20) rfl rfl (.int .i64 13)
 obtain ⟨w7, i5, b5, f5⟩ := ins_step u_sin u_in3 b4 (key := .int .i64 5) rfl rfl (.int .i64 11)
 have FM : Fr nob w2 w7 := map_fr f1 f2 f3 f4 f5
 have lk := run_lookup_ok_hit (P := Tryd.prog) u_sin u_in3 b5 (key := .int .i64 6) rfl (hf := rfl) (value := .int .i64 10)
 have S7 := hid (S2.out.no FM)
 have HL7 := hid (HL2.out.fr FM (fun _ _ x => x))
 have F7 := hid (F2.out.tr (FrT.no (B := cb) (ts := coTs) FM))
 have BN7 := hid (BN2.out.fr FM (fun x => x))
 clear FM f1 f2 f3 f4 f5 b0 b1 b2 b3 b4 b5 S2 HL2 F2 BN2
 obtain ⟨n0, n1, n2, n3, n4, m0, m1, m2, m3, m4, tlt⟩ := BN7.out.fifth
 clear m0 m1 m2 m3 m4 tlt
 obtain ⟨kb', c', e, kc0⟩ := rowGet (l := [u]) (by rw [HLL.out]; exact HL7.out) (j := 0) rfl
 injection e with e1 e2 e3
 injection e1 with e1
 injection e1 with e1
 subst e1
 have hl1 : (0 : Int) < (LL : Int) := by rw [← HLL.out]; simp
 clear e2 e3
 rw [hmm]
 clear hmm
 go_wp2_with fail
 clear i1 i2 i3 i4 i5 lk
 refine (HIH.out cb w7 L S7.out HLE.out.1 HL3.out).mono ?_
 rintro en w8 ⟨rfl, hc, hf⟩
 have S8 := hid hc
 have F8 := hid (F7.out.tr hf)
 obtain ⟨A, c, hb, -, -⟩ := hc.ex
 have c3 : w8.cell? ⟨cb, 3, none⟩ = some (.slice (some ⟨g.sb, 0, none⟩) g.p.ns.length g.sc) := (hb.cell 3).trans rfl
 have sl := SL.out _ hc.pg
 clear hb hc hf n0 n1 n2 n3 n4 kc0
 have mx : max (slotP g.p x) 0 = a := HA.out
 go_wp2_with fail
 refine (coput_any S8.out ⟨10, a, 0, []⟩ rfl rfl rfl rfl (by have := HLE.out.1; have := HL3.out; rw [List.length_append]; omega)).mono ?_
 rintro en w9 ⟨rfl, hc, hf⟩
 have S9 := hid hc
 have F9 := hid (F8.out.tr hf)
 clear hc hf c3 sl mx
 go_wp2_with fail
 exact bodyPost_end (results_none rfl _ _ _) rfl ⟨rfl, by rw [← List.append_assoc]; exact S9.out, F9.out⟩
set_option maxHeartbeats 2000000 in
set_option maxRecDepth 100000 in
theorem coex_neg {x at_ u line n : Nat} {nm : List UInt8} {l : List InsM} (hx : g.p.ns[x]? = some ⟨7, line, n, nm, [u]⟩) (IH : CoOk 35 g u at_ l) {a : Int} (ha : max (slotP g.p x) 0 = a) : CoOk 35 g x at_ (l ++ [⟨8, a, 0, []⟩]) := by
 intro cb w L h hL hl
 rw [List.length_append, List.length_singleton] at hl
 have HIH := hid IH
 have HA := hid ha
 have HL3 := hid (show at_ + l.length ≤ 3000 by omega)
 clear IH ha
 obtain ⟨lv, hlv, HN0⟩ := conode_any h hx
 dsimp only at hlv HN0
 obtain ⟨kb, kc, rfl⟩ := kidsGet hlv (by simp)
 have HN := hid HN0
 have HL0 := hid hlv
 have S0 := hid h
 have HLE := hid (And.intro hL hl)
 have hxlt := (List.getElem?_eq_some_iff.1 hx).1
 have SL := hid (fun (w' : World) (h : PgAt g w') => h.slot hxlt)
 have HX := hid hx
 have hx3 : (x : Int) < (g.p.ns.length : Int) := by omega
 have hx4 := h.pg.len
 clear HN0 hlv h hL hx hxlt
 generalize hLL : ([u] : List Nat).length = LL at *
 have HLL := hid hLL
 clear hLL
 go_enter Tryd.func35, Tryd.ntmps35
 go_wp2_with fail
 refine HN.out.mono ?_
 rintro en w1 ⟨rfl, hf⟩
 have S1 := hid (S0.out.no hf)
 have HL1 := hid (HL0.out.fr hf (fun _ _ x => x))
 have F1 := hid (FrT.no (B := cb) (ts := coTs) hf)
 clear hf S0 HL0 HN
 go_wp2_with fail
 have FA := (Fr.refl nob w1).alloc (.cells #[.int .i64 7, .int .i64 line, .int .i64 n, .string (bs nm), .slice (some ⟨kb, 0, none⟩) LL kc] 49)
 have BN2 := hid (Blk.new w1 49 #[.int .i64 7, .int .i64 line, .int .i64 n, .string (bs nm), .slice (some ⟨kb, 0, none⟩) LL kc])
 have S2 := hid (S1.out.no FA)
 have HL2 := hid (HL1.out.fr FA (fun _ _ x => x))
 have F2 := hid (F1.out.tr (FrT.no (B := cb) (ts := coTs) FA))
 clear FA S1 HL1 F1
 generalize w1.alloc (.cells #[.int .i64 7, .int .i64 line, .int .i64 n, .string (bs nm), .slice (some ⟨kb, 0, none⟩) LL kc] 49) = w2 at *
 generalize w1.heap.size = T at *
 have hmm := @run_makeMap Tryd.prog
 have b0 : (w2.alloc (.map #[] 0)).heap[w2.heap.size]? = some (.map #[] 0) := heap_alloc_new w2 _
 obtain ⟨w3, i1, b1, f1⟩ := ins_step u_sin u_in3 b0 (key := .int .i64 6) rfl rfl (.int .i64 10)
 obtain ⟨w4, i2, b2, f2⟩ := ins_step u_sin u_in3 b1 (key := .int .i64 7) rfl rfl (.int .i64 8)
 obtain ⟨w5, i3, b3, f3⟩ := ins_step u_sin u_in3 b2 (key := .int .i64 8) rfl rfl (.int .i64 9)
 obtain ⟨w6, i4, b4, f4⟩ := ins_step u_sin u_in3 b3 (key := .int .i64 20) rfl rfl (.int .i64 13)
 obtain ⟨w7, i5, b5, f5⟩ := ins_step u_sin u_in3 b4 (key := .int .i64 5) rfl rfl (.int .i64 11)
 have FM : Fr nob w2 w7 := map_fr f1 f2 f3 f4 f5
 have lk := run_lookup_ok_hit (P := Tryd.prog) u_sin u_in3 b5 (key := .int .i64 7) rfl (hf := rfl) (value := .int .i64 8)
 have S7 := hid (S2.out.no FM)
 have HL7 := hid (HL2.out.fr FM (fun _ _ x => x))
 have F7 := hid (F2.out.tr (FrT.no (B := cb) (ts := coTs) FM))
 have BN7 := hid (BN2.out.fr FM (fun x => x))
 clear FM f1 f2 f3 f4 f5 b0 b1 b2 b3 b4 b5 S2 HL2 F2 BN2
 obtain ⟨n0, n1, n2, n3, n4, m0, m1, m2, m3, m4, tlt⟩ := BN7.out.fifth
 clear m0 m1 m2 m3 m4 tlt
 obtain ⟨kb', c', e, kc0⟩ := rowGet (l := [u]) (by rw [HLL.out]; exact HL7.out) (j := 0) rfl
 injection e with e1 e2 e3
 injection e1 with e1
 injection e1 with e1
 subst e1
 have hl1 : (0 : Int) < (LL : Int) := by rw [← HLL.out]; simp
 clear e2 e3
 rw [hmm]
 clear hmm
 go_wp2_with fail
 clear i1 i2 i3 i4 i5 lk
 refine (HIH.out cb w7 L S7.out HLE.out.1 HL3.out).mono ?_
 rintro en w8 ⟨rfl, hc, hf⟩
 have S8 := hid hc
 have F8 := hid (F7.out.tr hf)
 obtain ⟨A, c, hb, -, -⟩ := hc.ex
 have c3 : w8.cell? ⟨cb, 3, none⟩ = some (.slice (some ⟨g.sb, 0, none⟩) g.p.ns.length g.sc) := (hb.cell 3).trans rfl
 have sl := SL.out _ hc.pg
 clear hb hc hf n0 n1 n2 n3 n4 kc0
 have mx : max (slotP g.p x) 0 = a := HA.out
 go_wp2_with fail
 refine (coput_any S8.out ⟨8, a, 0, []⟩ rfl rfl rfl rfl (by have := HLE.out.1; have := HL3.out; rw [List.length_append]; omega)).mono ?_
 rintro en w9 ⟨rfl, hc, hf⟩
 have S9 := hid hc
 have F9 := hid (F8.out.tr hf)
 clear hc hf c3 sl mx
 go_wp2_with fail
 exact bodyPost_end (results_none rfl _ _ _) rfl ⟨rfl, by rw [← List.append_assoc]; exact S9.out, F9.out⟩
set_option maxHeartbeats 2000000 in
set_option maxRecDepth 100000 in
theorem coex_not {x at_ u line n : Nat} {nm : List UInt8} {l : List InsM} (hx : g.p.ns[x]? = some ⟨8, line, n, nm, [u]⟩) (IH : CoOk 35 g u at_ l) {a : Int} (ha : max (slotP g.p x) 0 = a) : CoOk 35 g x at_ (l ++ [⟨9, a, 0, []⟩]) := by
 intro cb w L h hL hl
 rw [List.length_append, List.length_singleton] at hl
 have HIH := hid IH
 have HA := hid ha
 have HL3 := hid (show at_ + l.length ≤ 3000 by omega)
 clear IH ha
 obtain ⟨lv, hlv, HN0⟩ := conode_any h hx
 dsimp only at hlv HN0
 obtain ⟨kb, kc, rfl⟩ := kidsGet hlv (by simp)
 have HN := hid HN0
 have HL0 := hid hlv
 have S0 := hid h
 have HLE := hid (And.intro hL hl)
 have hxlt := (List.getElem?_eq_some_iff.1 hx).1
 have SL := hid (fun (w' : World) (h : PgAt g w') => h.slot hxlt)
 have HX := hid hx
 have hx3 : (x : Int) < (g.p.ns.length : Int) := by omega
 have hx4 := h.pg.len
 clear HN0 hlv h hL hx hxlt
 generalize hLL : ([u] : List Nat).length = LL at *
 have HLL := hid hLL
 clear hLL
 go_enter Tryd.func35, Tryd.ntmps35
 go_wp2_with fail
 refine HN.out.mono ?_
 rintro en w1 ⟨rfl, hf⟩
 have S1 := hid (S0.out.no hf)
 have HL1 := hid (HL0.out.fr hf (fun _ _ x => x))
 have F1 := hid (FrT.no (B := cb) (ts := coTs) hf)
 clear hf S0 HL0 HN
 go_wp2_with fail
 have FA := (Fr.refl nob w1).alloc (.cells #[.int .i64 8, .int .i64 line, .int .i64 n, .string (bs nm), .slice (some ⟨kb, 0, none⟩) LL kc] 49)
 have BN2 := hid (Blk.new w1 49 #[.int .i64 8, .int .i64 line, .int .i64 n, .string (bs nm), .slice (some ⟨kb, 0, none⟩) LL kc])
 have S2 := hid (S1.out.no FA)
 have HL2 := hid (HL1.out.fr FA (fun _ _ x => x))
 have F2 := hid (F1.out.tr (FrT.no (B := cb) (ts := coTs) FA))
 clear FA S1 HL1 F1
 generalize w1.alloc (.cells #[.int .i64 8, .int .i64 line, .int .i64 n, .string (bs nm), .slice (some ⟨kb, 0, none⟩) LL kc] 49) = w2 at *
 generalize w1.heap.size = T at *
 have hmm := @run_makeMap Tryd.prog
 have b0 : (w2.alloc (.map #[] 0)).heap[w2.heap.size]? = some (.map #[] 0) := heap_alloc_new w2 _
 obtain ⟨w3, i1, b1, f1⟩ := ins_step u_sin u_in3 b0 (key := .int .i64 6) rfl rfl (.int .i64 10)
 obtain ⟨w4, i2, b2, f2⟩ := ins_step u_sin u_in3 b1 (key := .int .i64 7) rfl rfl (.int .i64 8)
 obtain ⟨w5, i3, b3, f3⟩ := ins_step u_sin u_in3 b2 (key := .int .i64 8) rfl rfl (.int .i64 9)
 obtain ⟨w6, i4, b4, f4⟩ := ins_step u_sin u_in3 b3 (key := .int .i64 20) rfl rfl (.int .i64 13)
 obtain ⟨w7, i5, b5, f5⟩ := ins_step u_sin u_in3 b4 (key := .int .i64 5) rfl rfl (.int .i64 11)
 have FM : Fr nob w2 w7 := map_fr f1 f2 f3 f4 f5
 have lk := run_lookup_ok_hit (P := Tryd.prog) u_sin u_in3 b5 (key := .int .i64 8) rfl (hf := rfl) (value := .int .i64 9)
 have S7 := hid (S2.out.no FM)
 have HL7 := hid (HL2.out.fr FM (fun _ _ x => x))
 have F7 := hid (F2.out.tr (FrT.no (B := cb) (ts := coTs) FM))
 have BN7 := hid (BN2.out.fr FM (fun x => x))
 clear FM f1 f2 f3 f4 f5 b0 b1 b2 b3 b4 b5 S2 HL2 F2 BN2
 obtain ⟨n0, n1, n2, n3, n4, m0, m1, m2, m3, m4, tlt⟩ := BN7.out.fifth
 clear m0 m1 m2 m3 m4 tlt
 obtain ⟨kb', c', e, kc0⟩ := rowGet (l := [u]) (by rw [HLL.out]; exact HL7.out) (j := 0) rfl
 injection e with e1 e2 e3
 injection e1 with e1
 injection e1 with e1
 subst e1
 have hl1 : (0 : Int) < (LL : Int) := by rw [← HLL.out]; simp
 clear e2 e3
 rw [hmm]
 clear hmm
 go_wp2_with fail
 clear i1 i2 i3 i4 i5 lk
 refine (HIH.out cb w7 L S7.out HLE.out.1 HL3.out).mono ?_
 rintro en w8 ⟨rfl, hc, hf⟩
 have S8 := hid hc
 have F8 := hid (F7.out.tr hf)
 obtain ⟨A, c, hb, -, -⟩ := hc.ex
 have c3 : w8.cell? ⟨cb, 3, none⟩ = some (.slice (some ⟨g.sb, 0, none⟩) g.p.ns.length g.sc) := (hb.cell 3).trans rfl
 have sl := SL.out _ hc.pg
 clear hb hc hf n0 n1 n2 n3 n4 kc0
 have mx : max (slotP g.p x) 0 = a := HA.out
 go_wp2_with fail
 refine (coput_any S8.out ⟨9, a, 0, []⟩ rfl rfl rfl rfl (by have := HLE.out.1; have := HL3.out; rw [List.length_append]; omega)).mono ?_
 rintro en w9 ⟨rfl, hc, hf⟩
 have S9 := hid hc
 have F9 := hid (F8.out.tr hf)
 clear hc hf c3 sl mx
 go_wp2_with fail
 exact bodyPost_end (results_none rfl _ _ _) rfl ⟨rfl, by rw [← List.append_assoc]; exact S9.out, F9.out⟩
set_option maxHeartbeats 2000000 in
set_option maxRecDepth 100000 in
theorem coex_new {x at_ u line n : Nat} {nm : List UInt8} {l : List InsM} (hx : g.p.ns[x]? = some ⟨20, line, n, nm, [u]⟩) (IH : CoOk 35 g u at_ l) {a : Int} (ha : max (slotP g.p x) 0 = a) : CoOk 35 g x at_ (l ++ [⟨13, a, 0, []⟩]) := by
 intro cb w L h hL hl
 rw [List.length_append, List.length_singleton] at hl
 have HIH := hid IH
 have HA := hid ha
 have HL3 := hid (show at_ + l.length ≤ 3000 by omega)
 clear IH ha
 obtain ⟨lv, hlv, HN0⟩ := conode_any h hx
 dsimp only at hlv HN0
 obtain ⟨kb, kc, rfl⟩ := kidsGet hlv (by simp)
 have HN := hid HN0
 have HL0 := hid hlv
 have S0 := hid h
 have HLE := hid (And.intro hL hl)
 have hxlt := (List.getElem?_eq_some_iff.1 hx).1
 have SL := hid (fun (w' : World) (h : PgAt g w') => h.slot hxlt)
 have HX := hid hx
 have hx3 : (x : Int) < (g.p.ns.length : Int) := by omega
 have hx4 := h.pg.len
 clear HN0 hlv h hL hx hxlt
 generalize hLL : ([u] : List Nat).length = LL at *
 have HLL := hid hLL
 clear hLL
 go_enter Tryd.func35, Tryd.ntmps35
 go_wp2_with fail
 refine HN.out.mono ?_
 rintro en w1 ⟨rfl, hf⟩
 have S1 := hid (S0.out.no hf)
 have HL1 := hid (HL0.out.fr hf (fun _ _ x => x))
 have F1 := hid (FrT.no (B := cb) (ts := coTs) hf)
 clear hf S0 HL0 HN
 go_wp2_with fail
 have FA := (Fr.refl nob w1).alloc (.cells #[.int .i64 20, .int .i64 line, .int .i64 n, .string (bs nm), .slice (some ⟨kb, 0, none⟩) LL kc] 49)
 have BN2 := hid (Blk.new w1 49 #[.int .i64 20, .int .i64 line, .int .i64 n, .string (bs nm), .slice (some ⟨kb, 0, none⟩) LL kc])
 have S2 := hid (S1.out.no FA)
 have HL2 := hid (HL1.out.fr FA (fun _ _ x => x))
 have F2 := hid (F1.out.tr (FrT.no (B := cb) (ts := coTs) FA))
 clear FA S1 HL1 F1
 generalize w1.alloc (.cells #[.int .i64 20, .int .i64 line, .int .i64 n, .string (bs nm), .slice (some ⟨kb, 0, none⟩) LL kc] 49) = w2 at *
 generalize w1.heap.size = T at *
 have hmm := @run_makeMap Tryd.prog
 have b0 : (w2.alloc (.map #[] 0)).heap[w2.heap.size]? = some (.map #[] 0) := heap_alloc_new w2 _
 obtain ⟨w3, i1, b1, f1⟩ := ins_step u_sin u_in3 b0 (key := .int .i64 6) rfl rfl (.int .i64 10)
 obtain ⟨w4, i2, b2, f2⟩ := ins_step u_sin u_in3 b1 (key := .int .i64 7) rfl rfl (.int .i64 8)
 obtain ⟨w5, i3, b3, f3⟩ := ins_step u_sin u_in3 b2 (key := .int .i64 8) rfl rfl (.int .i64 9)
 obtain ⟨w6, i4, b4, f4⟩ := ins_step u_sin u_in3 b3 (key := .int .i64 20) rfl rfl (.int .i64 13)
 obtain ⟨w7, i5, b5, f5⟩ := ins_step u_sin u_in3 b4 (key := .int .i64 5) rfl rfl (.int .i64 11)
 have FM : Fr nob w2 w7 := map_fr f1 f2 f3 f4 f5
 have lk := run_lookup_ok_hit (P := Tryd.prog) u_sin u_in3 b5 (key := .int .i64 20) rfl (hf := rfl) (value := .int .i64 13)
 have S7 := hid (S2.out.no FM)
 have HL7 := hid (HL2.out.fr FM (fun _ _ x => x))
 have F7 := hid (F2.out.tr (FrT.no (B := cb) (ts := coTs) FM))
 have BN7 := hid (BN2.out.fr FM (fun x => x))
 clear FM f1 f2 f3 f4 f5 b0 b1 b2 b3 b4 b5 S2 HL2 F2 BN2
 obtain ⟨n0, n1, n2, n3, n4, m0, m1, m2, m3, m4, tlt⟩ := BN7.out.fifth
 clear m0 m1 m2 m3 m4 tlt
 obtain ⟨kb', c', e, kc0⟩ := rowGet (l := [u]) (by rw [HLL.out]; exact HL7.out) (j := 0) rfl
 injection e with e1 e2 e3
 injection e1 with e1
 injection e1 with e1
 subst e1
 have hl1 : (0 : Int) < (LL : Int) := by rw [← HLL.out]; simp
 clear e2 e3
 rw [hmm]
 clear hmm
 go_wp2_with fail
 clear i1 i2 i3 i4 i5 lk
 refine (HIH.out cb w7 L S7.out HLE.out.1 HL3.out).mono ?_
 rintro en w8 ⟨rfl, hc, hf⟩
 have S8 := hid hc
 have F8 := hid (F7.out.tr hf)
 obtain ⟨A, c, hb, -, -⟩ := hc.ex
 have c3 : w8.cell? ⟨cb, 3, none⟩ = some (.slice (some ⟨g.sb, 0, none⟩) g.p.ns.length g.sc) := (hb.cell 3).trans rfl
 have sl := SL.out _ hc.pg
 clear hb hc hf n0 n1 n2 n3 n4 kc0
 have mx : max (slotP g.p x) 0 = a := HA.out
 go_wp2_with fail
 refine (coput_any S8.out ⟨13, a, 0, []⟩ rfl rfl rfl rfl (by have := HLE.out.1; have := HL3.out; rw [List.length_append]; omega)).mono ?_
 rintro en w9 ⟨rfl, hc, hf⟩
 have S9 := hid hc
 have F9 := hid (F8.out.tr hf)
 clear hc hf c3 sl mx
 go_wp2_with fail
 exact bodyPost_end (results_none rfl _ _ _) rfl ⟨rfl, by rw [← List.append_assoc]; exact S9.out, F9.out⟩
end
section
variable {g : PgV}
set_option maxHeartbeats 2000000 in
set_option maxRecDepth 100000 in
theorem coex_int {x at_ line n : Nat} {nm : List UInt8} (hx : g.p.ns[x]? = some ⟨1, line, n, nm, []⟩) : CoOk 35 g x at_ [⟨2, (n : Nat), 0, []⟩] := by
 intro cb w L h hL hl
 obtain ⟨lv, hlv, HN0⟩ := conode_any h hx
 dsimp only at hlv HN0
 obtain ⟨KA, KC, rfl, -, -⟩ := hlv.cap
 have HN := hid HN0
 have HL0 := hid hlv
 have S0 := hid h
 have HLE := hid (And.intro hL hl)
 have hxlt := (List.getElem?_eq_some_iff.1 hx).1
 have SL := hid (fun (w' : World) (h : PgAt g w') => h.slot hxlt)
 have HX := hid hx
 have hx3 : (x : Int) < (g.p.ns.length : Int) := by omega
 have hx4 := h.pg.len
 clear HN0 hlv h hL hx hxlt
 generalize hLL : ([] : List Nat).length = LL at *
 have HLL := hid hLL
 clear hLL
 go_enter Tryd.func35, Tryd.ntmps35
 go_wp2_with fail
 refine HN.out.mono ?_
 rintro en w1 ⟨rfl, hf⟩
 have S1 := hid (S0.out.no hf)
 have HL1 := hid (HL0.out.fr hf (fun _ _ x => x))
 have F1 := hid (FrT.no (B := cb) (ts := coTs) hf)
 clear hf S0 HL0 HN
 go_wp2_with fail
 have FA := (Fr.refl nob w1).alloc (.cells #[.int .i64 1, .int .i64 line, .int .i64 n, .string (bs nm), .slice KA LL KC] 49)
 have BN2 := hid (Blk.new w1 49 #[.int .i64 1, .int .i64 line, .int .i64 n, .string (bs nm), .slice KA LL KC])
 have S2 := hid (S1.out.no FA)
 have HL2 := hid (HL1.out.fr FA (fun _ _ x => x))
 have F2 := hid (F1.out.tr (FrT.no (B := cb) (ts := coTs) FA))
 clear FA S1 HL1 F1
 generalize w1.alloc (.cells #[.int .i64 1, .int .i64 line, .int .i64 n, .string (bs nm), .slice KA LL KC] 49) = w2 at *
 generalize w1.heap.size = T at *
 have hmm := @run_makeMap Tryd.prog
 have b0 : (w2.alloc (.map #[] 0)).heap[w2.heap.size]? = some (.map #[] 0) := heap_alloc_new w2 _
 obtain ⟨w3, i1, b1, f1⟩ := ins_step u_sin u_in3 b0 (key := .int .i64 6) rfl rfl (.int .i64 10)
 obtain ⟨w4, i2, b2, f2⟩ := ins_step u_sin u_in3 b1 (key := .int .i64 7) rfl rfl (.int .i64 8)
 obtain ⟨w5, i3, b3, f3⟩ := ins_step u_sin u_in3 b2 (key := .int .i64 8) rfl rfl (.int .i64 9)
 obtain ⟨w6, i4, b4, f4⟩ := ins_step u_sin u_in3 b3 (key := .int .i64 20) rfl rfl (.int .i64 13)
 obtain ⟨w7, i5, b5, f5⟩ := ins_step u_sin u_in3 b4 (key := .int .i64 5) rfl rfl (.int .i64 11)
 have FM : Fr nob w2 w7 := map_fr f1 f2 f3 f4 f5
 have lk := run_lookup_ok_miss (P := Tryd.prog) u_sin u_in3 b5 (key := .int .i64 1) rfl rfl (z := .int .i64 0) (by kernel_rfl)
 have S7 := hid (S2.out.no FM)
 have HL7 := hid (HL2.out.fr FM (fun _ _ x => x))
 have F7 := hid (F2.out.tr (FrT.no (B := cb) (ts := coTs) FM))
 have BN7 := hid (BN2.out.fr FM (fun x => x))
 clear FM f1 f2 f3 f4 f5 b0 b1 b2 b3 b4 b5 S2 HL2 F2 BN2
 obtain ⟨n0, n1, n2, n3, n4, m0, m1, m2, m3, m4, tlt⟩ := BN7.out.fifth
 clear m0 m1 m2 m3 m4 tlt
 rw [hmm]
 clear hmm
 go_wp2_with fail
 clear i1 i2 i3 i4 i5 lk
 refine (coleaf_int S7.out HX.out (by have h0 : LL = 0 := HLL.out.symm; have := HL7.out; rw [h0] at this ⊢; exact this) (by have := HLE.out.1; have := HLE.out.2; rw [List.length_singleton] at this; omega)).mono ?_
 rintro en w8 ⟨rfl, hc, hf⟩
 have S8 := hid hc
 have F8 := hid (F7.out.tr hf)
 clear hc hf n0 n1 n2 n3 n4
 go_wp2_with fail
 exact bodyPost_end (results_none rfl _ _ _) rfl ⟨rfl, S8.out, F8.out⟩
set_option maxHeartbeats 2000000 in
set_option maxRecDepth 100000 in
theorem coex_bool {x at_ line n : Nat} {nm : List UInt8} (hx : g.p.ns[x]? = some ⟨2, line, n, nm, []⟩) : CoOk 35 g x at_ [⟨3, (n : Nat), 0, []⟩] := by
 intro cb w L h hL hl
 obtain ⟨lv, hlv, HN0⟩ := conode_any h hx
 dsimp only at hlv HN0
 obtain ⟨KA, KC, rfl, -, -⟩ := hlv.cap
 have HN := hid HN0
 have HL0 := hid hlv
 have S0 := hid h
 have HLE := hid (And.intro hL hl)
 have hxlt := (List.getElem?_eq_some_iff.1 hx).1
 have SL := hid (fun (w' : World) (h : PgAt g w') => h.slot hxlt)
 have HX := hid hx
 have hx3 : (x : Int) < (g.p.ns.length : Int) := by omega
 have hx4 := h.pg.len
 clear HN0 hlv h hL hx hxlt
 generalize hLL : ([] : List Nat).length = LL at *
 have HLL := hid hLL
 clear hLL
 go_enter Tryd.func35, Tryd.ntmps35
 go_wp2_with fail
 refine HN.out.mono ?_
 rintro en w1 ⟨rfl, hf⟩
 have S1 := hid (S0.out.no hf)
 have HL1 := hid (HL0.out.fr hf (fun _ _ x => x))
 have F1 := hid (FrT.no (B := cb) (ts := coTs) hf)
 clear hf S0 HL0 HN
 go_wp2_with fail
 have FA := (Fr.refl nob w1).alloc (.cells #[.int .i64 2, .int .i64 line, .int .i64 n, .string (bs nm), .slice KA LL KC] 49)
 have BN2 := hid (Blk.new w1 49 #[.int .i64 2, .int .i64 line, .int .i64 n, .string (bs nm), .slice KA LL KC])
 have S2 := hid (S1.out.no FA)
 have HL2 := hid (HL1.out.fr FA (fun _ _ x => x))
 have F2 := hid (F1.out.tr (FrT.no (B := cb) (ts := coTs) FA))
 clear FA S1 HL1 F1
 generalize w1.alloc (.cells #[.int .i64 2, .int .i64 line, .int .i64 n, .string (bs nm), .slice KA LL KC] 49) = w2 at *
 generalize w1.heap.size = T at *
 have hmm := @run_makeMap Tryd.prog
 have b0 : (w2.alloc (.map #[] 0)).heap[w2.heap.size]? = some (.map #[] 0) := heap_alloc_new w2 _
 obtain ⟨w3, i1, b1, f1⟩ := ins_step u_sin u_in3 b0 (key := .int .i64 6) rfl rfl (.int .i64 10)
 obtain ⟨w4, i2, b2, f2⟩ := ins_step u_sin u_in3 b1 (key := .int .i64 7) rfl rfl (.int .i64 8)
 obtain ⟨w5, i3, b3, f3⟩ := ins_step u_sin u_in3 b2 (key := .int .i64 8) rfl rfl (.int .i64 9)
 obtain ⟨w6, i4, b4, f4⟩ := ins_step u_sin u_in3 b3 (key := .int .i64 20) rfl rfl (.int .i64 13)
 obtain ⟨w7, i5, b5, f5⟩ := ins_step u_sin u_in3 b4 (key := .int .i64 5) rfl rfl (.int .i64 11)
 have FM : Fr nob w2 w7 := map_fr f1 f2 f3 f4 f5
 have lk := run_lookup_ok_miss (P := Tryd.prog) u_sin u_in3 b5 (key := .int .i64 2) rfl rfl (z := .int .i64 0) (by kernel_rfl)
 have S7 := hid (S2.out.no FM)
 have HL7 := hid (HL2.out.fr FM (fun _ _ x => x))
 have F7 := hid (F2.out.tr (FrT.no (B := cb) (ts := coTs) FM))
 have BN7 := hid (BN2.out.fr FM (fun x => x))
 clear FM f1 f2 f3 f4 f5 b0 b1 b2 b3 b4 b5 S2 HL2 F2 BN2
 obtain ⟨n0, n1, n2, n3, n4, m0, m1, m2, m3, m4, tlt⟩ := BN7.out.fifth
 clear m0 m1 m2 m3 m4 tlt
 rw [hmm]
 clear hmm
 go_wp2_with fail
 clear i1 i2 i3 i4 i5 lk
 refine (coleaf_bool S7.out HX.out (by have h0 : LL = 0 := HLL.out.symm; have := HL7.out; rw [h0] at this ⊢; exact this) (by have := HLE.out.1; have := HLE.out.2; rw [List.length_singleton] at this; omega)).mono ?_
 rintro en w8 ⟨rfl, hc, hf⟩
 have S8 := hid hc
 have F8 := hid (F7.out.tr hf)
 clear hc hf n0 n1 n2 n3 n4
 go_wp2_with fail
 exact bodyPost_end (results_none rfl _ _ _) rfl ⟨rfl, S8.out, F8.out⟩
set_option maxHeartbeats 2000000 in
set_option maxRecDepth 100000 in
theorem coex_text {x at_ line n : Nat} {nm : List UInt8} (hx : g.p.ns[x]? = some ⟨3, line, n, nm, []⟩) : CoOk 35 g x at_ [⟨4, 0, 0, nm⟩] := by
 intro cb w L h hL hl
 obtain ⟨lv, hlv, HN0⟩ := conode_any h hx
 dsimp only at hlv HN0
 obtain ⟨KA, KC, rfl, -, -⟩ := hlv.cap
 have HN := hid HN0
 have HL0 := hid hlv
 have S0 := hid h
 have HLE := hid (And.intro hL hl)
 have hxlt := (List.getElem?_eq_some_iff.1 hx).1
 have SL := hid (fun (w' : World) (h : PgAt g w') => h.slot hxlt)
 have HX := hid hx
 have hx3 : (x : Int) < (g.p.ns.length : Int) := by omega
 have hx4 := h.pg.len
 clear HN0 hlv h hL hx hxlt
 generalize hLL : ([] : List Nat).length = LL at *
 have HLL := hid hLL
 clear hLL
 go_enter Tryd.func35, Tryd.ntmps35
 go_wp2_with fail
 refine HN.out.mono ?_
 rintro en w1 ⟨rfl, hf⟩
 have S1 := hid (S0.out.no hf)
 have HL1 := hid (HL0.out.fr hf (fun _ _ x => x))
 have F1 := hid (FrT.no (B := cb) (ts := coTs) hf)
 clear hf S0 HL0 HN
 go_wp2_with fail
 have FA := (Fr.refl nob w1).alloc (.cells #[.int .i64 3, .int .i64 line, .int .i64 n, .string (bs nm), .slice KA LL KC] 49)
 have BN2 := hid (Blk.new w1 49 #[.int .i64 3, .int .i64 line, .int .i64 n, .string (bs nm), .slice KA LL KC])
 have S2 := hid (S1.out.no FA)
 have HL2 := hid (HL1.out.fr FA (fun _ _ x => x))
 have F2 := hid (F1.out.tr (FrT.no (B := cb) (ts := coTs) FA))
 clear FA S1 HL1 F1
 generalize w1.alloc (.cells #[.int .i64 3, .int .i64 line, .int .i64 n, .string (bs nm), .slice KA LL KC] 49) = w2 at *
 generalize w1.heap.size = T at *
 have hmm := @run_makeMap Tryd.prog
 have b0 : (w2.alloc (.map #[] 0)).heap[w2.heap.size]? = some (.map #[] 0) := heap_alloc_new w2 _
 obtain ⟨w3, i1, b1, f1⟩ := ins_step u_sin u_in3 b0 (key := .int .i64 6) rfl rfl (.int .i64 10)
 obtain ⟨w4, i2, b2, f2⟩ := ins_step u_sin u_in3 b1 (key := .int .i64 7) rfl rfl (.int .i64 8)
 obtain ⟨w5, i3, b3, f3⟩ := ins_step u_sin u_in3 b2 (key := .int .i64 8) rfl rfl (.int .i64 9)
 obtain ⟨w6, i4, b4, f4⟩ := ins_step u_sin u_in3 b3 (key := .int .i64 20) rfl rfl (.int .i64 13)
 obtain ⟨w7, i5, b5, f5⟩ := ins_step u_sin u_in3 b4 (key := .int .i64 5) rfl rfl (.int .i64 11)
 have FM : Fr nob w2 w7 := map_fr f1 f2 f3 f4 f5
 have lk := run_lookup_ok_miss (P := Tryd.prog) u_sin u_in3 b5 (key := .int .i64 3) rfl rfl (z := .int .i64 0) (by kernel_rfl)
 have S7 := hid (S2.out.no FM)
 have HL7 := hid (HL2.out.fr FM (fun _ _ x => x))
 have F7 := hid (F2.out.tr (FrT.no (B := cb) (ts := coTs) FM))
 have BN7 := hid (BN2.out.fr FM (fun x => x))
 clear FM f1 f2 f3 f4 f5 b0 b1 b2 b3 b4 b5 S2 HL2 F2 BN2
 obtain ⟨n0, n1, n2, n3, n4, m0, m1, m2, m3, m4, tlt⟩ := BN7.out.fifth
 clear m0 m1 m2 m3 m4 tlt
 rw [hmm]
 clear hmm
 go_wp2_with fail
 clear i1 i2 i3 i4 i5 lk
 refine (coleaf_text S7.out HX.out (by have h0 : LL = 0 := HLL.out.symm; have := HL7.out; rw [h0] at this ⊢; exact this) (by have := HLE.out.1; have := HLE.out.2; rw [List.length_singleton] at this; omega)).mono ?_
 rintro en w8 ⟨rfl, hc, hf⟩
 have S8 := hid hc
 have F8 := hid (F7.out.tr hf)
 clear hc hf n0 n1 n2 n3 n4
 go_wp2_with fail
 exact bodyPost_end (results_none rfl _ _ _) rfl ⟨rfl, S8.out, F8.out⟩
set_option maxHeartbeats 2000000 in
set_option maxRecDepth 100000 in
theorem coex_var {x at_ line n : Nat} {nm : List UInt8} (hx : g.p.ns[x]? = some ⟨4, line, n, nm, []⟩) : CoOk 35 g x at_ [⟨5, slotP g.p x, typeP g.p x, []⟩] := by
 intro cb w L h hL hl
 obtain ⟨lv, hlv, HN0⟩ := conode_any h hx
 dsimp only at hlv HN0
 obtain ⟨KA, KC, rfl, -, -⟩ := hlv.cap
 have HN := hid HN0
 have HL0 := hid hlv
 have S0 := hid h
 have HLE := hid (And.intro hL hl)
 have hxlt := (List.getElem?_eq_some_iff.1 hx).1
 have SL := hid (fun (w' : World) (h : PgAt g w') => h.slot hxlt)
 have HX := hid hx
 have hx3 : (x : Int) < (g.p.ns.length : Int) := by omega
 have hx4 := h.pg.len
 clear HN0 hlv h hL hx hxlt
 generalize hLL : ([] : List Nat).length = LL at *
 have HLL := hid hLL
 clear hLL
 go_enter Tryd.func35, Tryd.ntmps35
 go_wp2_with fail
 refine HN.out.mono ?_
 rintro en w1 ⟨rfl, hf⟩
 have S1 := hid (S0.out.no hf)
 have HL1 := hid (HL0.out.fr hf (fun _ _ x => x))
 have F1 := hid (FrT.no (B := cb) (ts := coTs) hf)
 clear hf S0 HL0 HN
 go_wp2_with fail
 have FA := (Fr.refl nob w1).alloc (.cells #[.int .i64 4, .int .i64 line, .int .i64 n, .string (bs nm), .slice KA LL KC] 49)
 have BN2 := hid (Blk.new w1 49 #[.int .i64 4, .int .i64 line, .int .i64 n, .string (bs nm), .slice KA LL KC])
 have S2 := hid (S1.out.no FA)
 have HL2 := hid (HL1.out.fr FA (fun _ _ x => x))
 have F2 := hid (F1.out.tr (FrT.no (B := cb) (ts := coTs) FA))
 clear FA S1 HL1 F1
 generalize w1.alloc (.cells #[.int .i64 4, .int .i64 line, .int .i64 n, .string (bs nm), .slice KA LL KC] 49) = w2 at *
 generalize w1.heap.size = T at *
 have hmm := @run_makeMap Tryd.prog
 have b0 : (w2.alloc (.map #[] 0)).heap[w2.heap.size]? = some (.map #[] 0) := heap_alloc_new w2 _
 obtain ⟨w3, i1, b1, f1⟩ := ins_step u_sin u_in3 b0 (key := .int .i64 6) rfl rfl (.int .i64 10)
 obtain ⟨w4, i2, b2, f2⟩ := ins_step u_sin u_in3 b1 (key := .int .i64 7) rfl rfl (.int .i64 8)
 obtain ⟨w5, i3, b3, f3⟩ := ins_step u_sin u_in3 b2 (key := .int .i64 8) rfl rfl (.int .i64 9)
 obtain ⟨w6, i4, b4, f4⟩ := ins_step u_sin u_in3 b3 (key := .int .i64 20) rfl rfl (.int .i64 13)
 obtain ⟨w7, i5, b5, f5⟩ := ins_step u_sin u_in3 b4 (key := .int .i64 5) rfl rfl (.int .i64 11)
 have FM : Fr nob w2 w7 := map_fr f1 f2 f3 f4 f5
 have lk := run_lookup_ok_miss (P := Tryd.prog) u_sin u_in3 b5 (key := .int .i64 4) rfl rfl (z := .int .i64 0) (by kernel_rfl)
 have S7 := hid (S2.out.no FM)
 have HL7 := hid (HL2.out.fr FM (fun _ _ x => x))
 have F7 := hid (F2.out.tr (FrT.no (B := cb) (ts := coTs) FM))
 have BN7 := hid (BN2.out.fr FM (fun x => x))
 clear FM f1 f2 f3 f4 f5 b0 b1 b2 b3 b4 b5 S2 HL2 F2 BN2
 obtain ⟨n0, n1, n2, n3, n4, m0, m1, m2, m3, m4, tlt⟩ := BN7.out.fifth
 clear m0 m1 m2 m3 m4 tlt
 rw [hmm]
 clear hmm
 go_wp2_with fail
 clear i1 i2 i3 i4 i5 lk
 refine (coleaf_var S7.out HX.out (by have h0 : LL = 0 := HLL.out.symm; have := HL7.out; rw [h0] at this ⊢; exact this) (by have := HLE.out.1; have := HLE.out.2; rw [List.length_singleton] at this; omega)).mono ?_
 rintro en w8 ⟨rfl, hc, hf⟩
 have S8 := hid hc
 have F8 := hid (F7.out.tr hf)
 clear hc hf n0 n1 n2 n3 n4
 go_wp2_with fail
 exact bodyPost_end (results_none rfl _ _ _) rfl ⟨rfl, S8.out, F8.out⟩
set_option maxHeartbeats 2000000 in
set_option maxRecDepth 100000 in
theorem coex_input {x at_ line n : Nat} {nm : List UInt8} (hx : g.p.ns[x]? = some ⟨19, line, n, nm, []⟩) : CoOk 35 g x at_ [⟨14, 0, 0, []⟩] := by
 intro cb w L h hL hl
 obtain ⟨lv, hlv, HN0⟩ := conode_any h hx
 dsimp only at hlv HN0
 obtain ⟨KA, KC, rfl, -, -⟩ := hlv.cap
 have HN := hid HN0
 have HL0 := hid hlv
 have S0 := hid h
 have HLE := hid (And.intro hL hl)
 have hxlt := (List.getElem?_eq_some_iff.1 hx).1
 have SL := hid (fun (w' : World) (h : PgAt g w') => h.slot hxlt)
 have HX := hid hx
 have hx3 : (x : Int) < (g.p.ns.length : Int) := by omega
 have hx4 := h.pg.len
 clear HN0 hlv h hL hx hxlt
 generalize hLL : ([] : List Nat).length = LL at *
 have HLL := hid hLL
 clear hLL
 go_enter Tryd.func35, Tryd.ntmps35
 go_wp2_with fail
 refine HN.out.mono ?_
 rintro en w1 ⟨rfl, hf⟩
 have S1 := hid (S0.out.no hf)
 have HL1 := hid (HL0.out.fr hf (fun _ _ x => x))
 have F1 := hid (FrT.no (B := cb) (ts := coTs) hf)
 clear hf S0 HL0 HN
 go_wp2_with fail
 have FA := (Fr.refl nob w1).alloc (.cells #[.int .i64 19, .int .i64 line, .int .i64 n, .string (bs nm), .slice KA LL KC] 49)
 have BN2 := hid (Blk.new w1 49 #[.int .i64 19, .int .i64 line, .int .i64 n, .string (bs nm), .slice KA LL KC])
 have S2 := hid (S1.out.no FA)
 have HL2 := hid (HL1.out.fr FA (fun _ _ x => x))
 have F2 := hid (F1.out.tr (FrT.no (B := cb) (ts := coTs) FA))
 clear FA S1 HL1 F1
 generalize w1.alloc (.cells #[.int .i64 19, .int .i64 line, .int .i64 n, .string (bs nm), .slice KA LL KC] 49) = w2 at *
 generalize w1.heap.size = T at *
 have hmm := @run_makeMap Tryd.prog
 have b0 : (w2.alloc (.map #[] 0)).heap[w2.heap.size]? = some (.map #[] 0) := heap_alloc_new w2 _
 obtain ⟨w3, i1, b1, f1⟩ := ins_step u_sin u_in3 b0 (key := .int .i64 6) rfl rfl (.int .i64 10)
 obtain ⟨w4, i2, b2, f2⟩ := ins_step u_sin u_in3 b1 (key := .int .i64 7) rfl rfl (.int .i64 8)
 obtain ⟨w5, i3, b3, f3⟩ := ins_step u_sin u_in3 b2 (key := .int .i64 8) rfl rfl (.int .i64 9)
 obtain ⟨w6, i4, b4, f4⟩ := ins_step u_sin u_in3 b3 (key := .int .i64 20) rfl rfl (.int .i64 13)
 obtain ⟨w7, i5, b5, f5⟩ := ins_step u_sin u_in3 b4 (key := .int .i64 5) rfl rfl (.int .i64 11)
 have FM : Fr nob w2 w7 := map_fr f1 f2 f3 f4 f5
 have lk := run_lookup_ok_miss (P := Tryd.prog) u_sin u_in3 b5 (key := .int .i64 19) rfl rfl (z := .int .i64 0) (by kernel_rfl)
 have S7 := hid (S2.out.no FM)
 have HL7 := hid (HL2.out.fr FM (fun _ _ x => x))
 have F7 := hid (F2.out.tr (FrT.no (B := cb) (ts := coTs) FM))
 have BN7 := hid (BN2.out.fr FM (fun x => x))
 clear FM f1 f2 f3 f4 f5 b0 b1 b2 b3 b4 b5 S2 HL2 F2 BN2
 obtain ⟨n0, n1, n2, n3, n4, m0, m1, m2, m3, m4, tlt⟩ := BN7.out.fifth
 clear m0 m1 m2 m3 m4 tlt
 rw [hmm]
 clear hmm
 go_wp2_with fail
 clear i1 i2 i3 i4 i5 lk
 refine (coleaf_input S7.out HX.out (by have h0 : LL = 0 := HLL.out.symm; have := HL7.out; rw [h0] at this ⊢; exact this) (by have := HLE.out.1; have := HLE.out.2; rw [List.length_singleton] at this; omega)).mono ?_
 rintro en w8 ⟨rfl, hc, hf⟩
 have S8 := hid hc
 have F8 := hid (F7.out.tr hf)
 clear hc hf n0 n1 n2 n3 n4
 go_wp2_with fail
 exact bodyPost_end (results_none rfl _ _ _) rfl ⟨rfl, S8.out, F8.out⟩
set_option maxHeartbeats 2000000 in
set_option maxRecDepth 100000 in
theorem coex_bin {x at_ line n : Nat} {nm : List UInt8} {ks : List Nat} {l : List InsM} (hx : g.p.ns[x]? = some ⟨9, line, n, nm, ks⟩) (HC : ∀ (cb : Nat) (w : World) (L : List InsM) (kv : Value), Co g cb w L → Own w 3 1 kv (ks : List Nat).length (ints ks) → L.length = at_ → at_ + l.length ≤ 3000 → Calls Tryd.prog 51 #[.pointer (some ⟨cb, 0, none⟩), .agg #[.int .i64 9, .int .i64 line, .int .i64 n, .string (bs nm), kv]] w fun en w' => en = .returned (.tuple #[]) ∧ Co g cb w' (L ++ l) ∧ FrT cb coTs w w') : CoOk 35 g x at_ l := by
 intro cb w L h hL hl
 have HCC := hid HC
 clear HC
 obtain ⟨lv, hlv, HN0⟩ := conode_any h hx
 dsimp only at hlv HN0
 obtain ⟨KA, KC, rfl, -, -⟩ := hlv.cap
 have HN := hid HN0
 have HL0 := hid hlv
 have S0 := hid h
 have HLE := hid (And.intro hL hl)
 have hxlt := (List.getElem?_eq_some_iff.1 hx).1
 have SL := hid (fun (w' : World) (h : PgAt g w') => h.slot hxlt)
 have HX := hid hx
 have hx3 : (x : Int) < (g.p.ns.length : Int) := by omega
 have hx4 := h.pg.len
 clear HN0 hlv h hL hx hxlt
 generalize hLL : (ks : List Nat).length = LL at *
 have HLL := hid hLL
 clear hLL
 go_enter Tryd.func35, Tryd.ntmps35
 go_wp2_with fail
 refine HN.out.mono ?_
 rintro en w1 ⟨rfl, hf⟩
 have S1 := hid (S0.out.no hf)
 have HL1 := hid (HL0.out.fr hf (fun _ _ x => x))
 have F1 := hid (FrT.no (B := cb) (ts := coTs) hf)
 clear hf S0 HL0 HN
 go_wp2_with fail
 have FA := (Fr.refl nob w1).alloc (.cells #[.int .i64 9, .int .i64 line, .int .i64 n, .string (bs nm), .slice KA LL KC] 49)
 have BN2 := hid (Blk.new w1 49 #[.int .i64 9, .int .i64 line, .int .i64 n, .string (bs nm), .slice KA LL KC])
 have S2 := hid (S1.out.no FA)
 have HL2 := hid (HL1.out.fr FA (fun _ _ x => x))
 have F2 := hid (F1.out.tr (FrT.no (B := cb) (ts := coTs) FA))
 clear FA S1 HL1 F1
 generalize w1.alloc (.cells #[.int .i64 9, .int .i64 line, .int .i64 n, .string (bs nm), .slice KA LL KC] 49) = w2 at *
 generalize w1.heap.size = T at *
 have hmm := @run_makeMap Tryd.prog
 have b0 : (w2.alloc (.map #[] 0)).heap[w2.heap.size]? = some (.map #[] 0) := heap_alloc_new w2 _
 obtain ⟨w3, i1, b1, f1⟩ := ins_step u_sin u_in3 b0 (key := .int .i64 6) rfl rfl (.int .i64 10)
 obtain ⟨w4, i2, b2, f2⟩ := ins_step u_sin u_in3 b1 (key := .int .i64 7) rfl rfl (.int .i64 8)
 obtain ⟨w5, i3, b3, f3⟩ := ins_step u_sin u_in3 b2 (key := .int .i64 8) rfl rfl (.int .i64 9)
 obtain ⟨w6, i4, b4, f4⟩ := ins_step u_sin u_in3 b3 (key := .int .i64 20) rfl rfl (.int .i64 13)
 obtain ⟨w7, i5, b5, f5⟩ := ins_step u_sin u_in3 b4 (key := .int .i64 5) rfl rfl (.int .i64 11)
 have FM : Fr nob w2 w7 := map_fr f1 f2 f3 f4 f5
 have lk := run_lookup_ok_miss (P := Tryd.prog) u_sin u_in3 b5 (key := .int .i64 9) rfl rfl (z := .int .i64 0) (by kernel_rfl)
 have S7 := hid (S2.out.no FM)
 have HL7 := hid (HL2.out.fr FM (fun _ _ x => x))
 have F7 := hid (F2.out.tr (FrT.no (B := cb) (ts := coTs) FM))
 have BN7 := hid (BN2.out.fr FM (fun x => x))
 clear FM f1 f2 f3 f4 f5 b0 b1 b2 b3 b4 b5 S2 HL2 F2 BN2
 obtain ⟨n0, n1, n2, n3, n4, m0, m1, m2, m3, m4, tlt⟩ := BN7.out.fifth
 clear m0 m1 m2 m3 m4 tlt
 rw [hmm]
 clear hmm
 go_wp2_with fail
 clear i1 i2 i3 i4 i5 lk
 refine (HCC.out cb w7 L _ S7.out HL7.out HLE.out.1 HLE.out.2).mono ?_
 rintro en w8 ⟨rfl, hc, hf⟩
 have S8 := hid hc
 have F8 := hid (F7.out.tr hf)
 clear hc hf n0 n1 n2 n3 n4
 go_wp2_with fail
 exact bodyPost_end (results_none rfl _ _ _) rfl ⟨rfl, S8.out, F8.out⟩
set_option maxHeartbeats 2000000 in
set_option maxRecDepth 100000 in
theorem coex_call {x at_ line n : Nat} {nm : List UInt8} {ks : List Nat} {l : List InsM} (hx : g.p.ns[x]? = some ⟨21, line, n, nm, ks⟩) (HC : ∀ (cb : Nat) (w : World) (L : List InsM) (kv : Value), Co g cb w L → Own w 3 1 kv (ks : List Nat).length (ints ks) → L.length = at_ → at_ + l.length ≤ 3000 → Calls Tryd.prog 52 #[.pointer (some ⟨cb, 0, none⟩), .agg #[.int .i64 21, .int .i64 line, .int .i64 n, .string (bs nm), kv]] w fun en w' => en = .returned (.tuple #[]) ∧ Co g cb w' (L ++ l) ∧ FrT cb coTs w w') : CoOk 35 g x at_ l := by
 intro cb w L h hL hl
 have HCC := hid HC
 clear HC
 obtain ⟨lv, hlv, HN0⟩ := conode_any h hx
 dsimp only at hlv HN0
 obtain ⟨KA, KC, rfl, -, -⟩ := hlv.cap
 have HN := hid HN0
 have HL0 := hid hlv
 have S0 := hid h
 have HLE := hid (And.intro hL hl)
 have hxlt := (List.getElem?_eq_some_iff.1 hx).1
 have SL := hid (fun (w' : World) (h : PgAt g w') => h.slot hxlt)
 have HX := hid hx
 have hx3 : (x : Int) < (g.p.ns.length : Int) := by omega
 have hx4 := h.pg.len
 clear HN0 hlv h hL hx hxlt
 generalize hLL : (ks : List Nat).length = LL at *
 have HLL := hid hLL
 clear hLL
 go_enter Tryd.func35, Tryd.ntmps35
 go_wp2_with fail
 refine HN.out.mono ?_
 rintro en w1 ⟨rfl, hf⟩
 have S1 := hid (S0.out.no hf)
 have HL1 := hid (HL0.out.fr hf (fun _ _ x => x))
 have F1 := hid (FrT.no (B := cb) (ts := coTs) hf)
 clear hf S0 HL0 HN
 go_wp2_with fail
 have FA := (Fr.refl nob w1).alloc (.cells #[.int .i64 21, .int .i64 line, .int .i64 n, .string (bs nm), .slice KA LL KC] 49)
 have BN2 := hid (Blk.new w1 49 #[.int .i64 21, .int .i64 line, .int .i64 n, .string (bs nm), .slice KA LL KC])
 have S2 := hid (S1.out.no FA)
 have HL2 := hid (HL1.out.fr FA (fun _ _ x => x))
 have F2 := hid (F1.out.tr (FrT.no (B := cb) (ts := coTs) FA))
 clear FA S1 HL1 F1
 generalize w1.alloc (.cells #[.int .i64 21, .int .i64 line, .int .i64 n, .string (bs nm), .slice KA LL KC] 49) = w2 at *
 generalize w1.heap.size = T at *
 have hmm := @run_makeMap Tryd.prog
 have b0 : (w2.alloc (.map #[] 0)).heap[w2.heap.size]? = some (.map #[] 0) := heap_alloc_new w2 _
 obtain ⟨w3, i1, b1, f1⟩ := ins_step u_sin u_in3 b0 (key := .int .i64 6) rfl rfl (.int .i64 10)
 obtain ⟨w4, i2, b2, f2⟩ := ins_step u_sin u_in3 b1 (key := .int .i64 7) rfl rfl (.int .i64 8)
 obtain ⟨w5, i3, b3, f3⟩ := ins_step u_sin u_in3 b2 (key := .int .i64 8) rfl rfl (.int .i64 9)
 obtain ⟨w6, i4, b4, f4⟩ := ins_step u_sin u_in3 b3 (key := .int .i64 20) rfl rfl (.int .i64 13)
 obtain ⟨w7, i5, b5, f5⟩ := ins_step u_sin u_in3 b4 (key := .int .i64 5) rfl rfl (.int .i64 11)
 have FM : Fr nob w2 w7 := map_fr f1 f2 f3 f4 f5
 have lk := run_lookup_ok_miss (P := Tryd.prog) u_sin u_in3 b5 (key := .int .i64 21) rfl rfl (z := .int .i64 0) (by kernel_rfl)
 have S7 := hid (S2.out.no FM)
 have HL7 := hid (HL2.out.fr FM (fun _ _ x => x))
 have F7 := hid (F2.out.tr (FrT.no (B := cb) (ts := coTs) FM))
 have BN7 := hid (BN2.out.fr FM (fun x => x))
 clear FM f1 f2 f3 f4 f5 b0 b1 b2 b3 b4 b5 S2 HL2 F2 BN2
 obtain ⟨n0, n1, n2, n3, n4, m0, m1, m2, m3, m4, tlt⟩ := BN7.out.fifth
 clear m0 m1 m2 m3 m4 tlt
 rw [hmm]
 clear hmm
 go_wp2_with fail
 clear i1 i2 i3 i4 i5 lk
 refine (HCC.out cb w7 L _ S7.out HL7.out HLE.out.1 HLE.out.2).mono ?_
 rintro en w8 ⟨rfl, hc, hf⟩
 have S8 := hid hc
 have F8 := hid (F7.out.tr hf)
 clear hc hf n0 n1 n2 n3 n4
 go_wp2_with fail
 exact bodyPost_end (results_none rfl _ _ _) rfl ⟨rfl, S8.out, F8.out⟩
end
theorem u_ear : Tryd.prog.underlying 98 = some (.map 9 3) := by kernel_rfl
theorem u_st3 : Tryd.prog.underlying 9 = some .string := by kernel_rfl
theorem map_fr2 {w w1 w2 : World} {o : Obj} (f1 : Fr (oneb w.heap.size) (w.alloc o) w1) (f2 : Fr (oneb w.heap.size) w1 w2) : Fr nob w w2 := by
 have h : Fr (oneb w.heap.size) (w.alloc o) w2 := f1.tr f2
 exact Fr.trans (M1 := nob) ((Fr.refl nob w).alloc o) h (fun _ _ x => x) (fun k hk hm => by have hm : k = w.heap.size := hm; omega)
def earEs : Array MapEntry := #[⟨.string ⟨#[38, 38]⟩, .int .i64 18, 0⟩, ⟨.string ⟨#[124, 124]⟩, .int .i64 19, 1⟩]
theorem ear_miss {nm : List UInt8} (hy : nm ∈ allSigns) (h1 : nm ≠ [38, 38]) (h2 : nm ≠ [124, 124]) : Instr.findNow .string (.string (bs nm)) earEs.toList 0 = some none := by
 simp only [allSigns, List.mem_cons, List.not_mem_nil, or_false] at hy
 rcases hy with h | h | h | h | h | h | h | h | h | h | h <;> subst h <;> first | (exact absurd rfl h1) | (exact absurd rfl h2) | rfl
theorem here_mid (l m : List InsM) (i : InsM) : hereL (l ++ [i] ++ m) l.length = l ++ [{ i with a := ((l ++ [i] ++ m).length : Nat) }] ++ m := by
 have hx : (l ++ [i] ++ m)[l.length]? = some i := by
  rw [List.append_assoc, List.getElem?_append_right (Nat.le_refl _), Nat.sub_self]; rfl
 unfold hereL
 rw [hx]
 dsimp only
 generalize hn : (l ++ [i] ++ m).length = n
 rw [List.append_assoc, List.set_append_right _ _ (Nat.le_refl _), Nat.sub_self, List.append_assoc]; rfl
section
variable {g : PgV}
set_option maxHeartbeats 1600000 in
set_option maxRecDepth 100000 in
theorem cobin_any {x at_ u v line n : Nat} {nm : List UInt8} {l m : List InsM} {cb : Nat} {w : World} {L : List InsM} {kv : Value} (h : Co g cb w L) (hk : Own w 3 1 kv ([u, v] : List Nat).length (ints [u, v])) (hy : nm ∈ allSigns) (h1 : nm ≠ [38, 38]) (h2 : nm ≠ [124, 124]) (IHu : CoOk 35 g u at_ l) (IHv : CoOk 35 g v (at_ + l.length) m) (hL : L.length = at_) (hl : at_ + (l ++ m ++ [⟨7, 0, 0, nm⟩] : List InsM).length ≤ 3000) :
  Calls Tryd.prog 51 #[.pointer (some ⟨cb, 0, none⟩), .agg #[.int .i64 9, .int .i64 line, .int .i64 n, .string (bs nm), kv]] w fun en w' => en = .returned (.tuple #[]) ∧ Co g cb w' (L ++ (l ++ m ++ [⟨7, 0, 0, nm⟩] : List InsM)) ∧ FrT cb coTs w w' := by
 obtain ⟨KA, KC, rfl, -, -⟩ := hk.cap
 rw [List.length_append, List.length_append, List.length_singleton] at hl
 have S0 := hid h
 have HK0 := hid hk
 have HU := hid IHu
 have HV := hid IHv
 have HLE := hid (And.intro hL hl)
 have hl2 : ((([u, v] : List Nat).length : Nat) : Int) = 2 := rfl
 clear h hk IHu IHv hL hl hl2
 generalize hLL : ([u, v] : List Nat).length = LL at *
 have HLL := hid hLL
 clear hLL
 have B0 := hid (Blk.new w 49 #[.int .i64 9, .int .i64 line, .int .i64 n, .string (bs nm), .slice KA LL KC])
 have F0 := hid (show Fr nob w (w.alloc (.cells #[.int .i64 9, .int .i64 line, .int .i64 n, .string (bs nm), .slice KA LL KC] 49)) from (Fr.refl _ w).alloc _)
 have N4 := (B0.out.cell 4).trans rfl
 have HKA := hid (HK0.out.fr F0.out (fun _ _ x => x))
 obtain ⟨kb, c', e, k0⟩ := rowGet (l := [u, v]) (by rw [HLL.out]; exact HKA.out) (j := 0) rfl
 injection e with e1 e2 e3
 subst e1
 clear e2 e3 N4
 have l0 : (0 : Int) < (LL : Int) := by rw [← HLL.out]; simp
 have l1 : (1 : Int) < (LL : Int) := by rw [← HLL.out]; simp
 go_enter Tryd.func51, Tryd.ntmps51
 go_wp2_with fail
 refine (HU.out cb _ L (S0.out.no F0.out) HLE.out.1 (by have := HLE.out.2; omega)).mono ?_
 rintro en w1 ⟨rfl, hc, hf⟩
 have S1 := hid hc
 have F1 := hid ((FrT.no (B := cb) (ts := coTs) F0.out).tr hf)
 have B1 := hid (hf.blk B0.out (by decide))
 have HK1 := hid (hf.own HKA.out (by decide))
 clear hc hf k0 S0 HK0 B0 F0 HKA
 generalize w.heap.size = T at *
 go_wp2_with fail
 have hmm := @run_makeMap Tryd.prog
 have b0 : (w1.alloc (.map #[] 0)).heap[w1.heap.size]? = some (.map #[] 0) := heap_alloc_new w1 _
 obtain ⟨w3, i1, b1, f1⟩ := ins_step u_ear u_st3 b0 (key := .string ⟨#[38, 38]⟩) trivial rfl (.int .i64 18)
 obtain ⟨w4, i2, b2, f2⟩ := ins_step u_ear u_st3 b1 (key := .string ⟨#[124, 124]⟩) trivial rfl (.int .i64 19)
 have FM : Fr nob w1 w4 := map_fr2 f1 f2
 have lk := run_lookup_ok_miss (P := Tryd.prog) u_ear u_st3 b2 (key := .string (bs nm)) trivial (ear_miss hy h1 h2) (z := .int .i64 0) (by kernel_rfl)
 clear hy h1 h2
 have S4 := hid (S1.out.no FM)
 have F4 := hid (F1.out.tr (FrT.no (B := cb) (ts := coTs) FM))
 have B4 := hid (B1.out.fr FM (fun x => x))
 have HK4 := hid (HK1.out.fr FM (fun _ _ x => x))
 clear FM f1 f2 b0 b1 b2 S1 F1 B1 HK1
 obtain ⟨n0, n1, n2, n3, n4, m0, m1, m2, m3, m4, tlt⟩ := B4.out.fifth
 obtain ⟨kb', c', e, k1⟩ := rowGet (l := [u, v]) (by rw [HLL.out]; exact HK4.out) (j := 1) rfl
 injection e with e1 e2 e3
 injection e1 with e1
 injection e1 with e1
 subst e1
 clear e2 e3 m0 m1 m2 m3 m4 tlt
 rw [hmm]
 clear hmm
 go_wp2_with fail
 clear i1 i2 lk
 refine (HV.out cb _ (L ++ l) S4.out (by rw [List.length_append, HLE.out.1]) (by have := HLE.out.2; omega)).mono ?_
 rintro en w5 ⟨rfl, hc, hf⟩
 have S5 := hid hc
 have F5 := hid (F4.out.tr hf)
 have B5 := hid (hf.blk B4.out (by decide))
 clear hc hf n0 n1 n2 n3 n4 k1 S4 F4 B4 HK4
 obtain ⟨A, c, hb, hown, hnew⟩ := S5.out.ex
 have HE := hid (show ([.int .i64 7, .int .i64 0, .int .i64 0, .string (bs nm)] : List Value) = insCells [⟨7, 0, 0, nm⟩] from rfl)
 have HVV := hid ((hown.alloc (.cells ([.int .i64 7, .int .i64 0, .int .i64 0, .string (bs nm)] : List Value).toArray 39)).fr ((Fr.refl nob _).drew) (fun _ _ x => x))
 have HR := hid (Rd.ofBlk (n := 1) (size := 4) (cs := [.int .i64 7, .int .i64 0, .int .i64 0, .string (bs nm)]) ((Blk.new w5 39 ([.int .i64 7, .int .i64 0, .int .i64 0, .string (bs nm)] : List Value).toArray).fr ((Fr.refl nob _).drew) (fun x => x)) rfl (by decide))
 have HARM := hid (coArm S5.out hb rfl HE.out (w1 := (w5.alloc (.cells ([.int .i64 7, .int .i64 0, .int .i64 0, .string (bs nm)] : List Value).toArray 39)).drew) (((Fr.refl nob w5).alloc _).drew))
 have c6 : w5.cell? ⟨cb, 6, none⟩ = some (.slice A (L ++ l ++ m).length c) := (hb.cell 6).trans rfl
 have n3 : w5.cell? ⟨T, 3, none⟩ = some (.string (bs nm)) := (B5.out.cell 3).trans rfl
 have clt := hb.lt
 have tlt := B5.out.lt
 have cn : ¬ cb = w5.heap.size := by omega
 have tn : ¬ T = w5.heap.size := by omega
 have hlm : ((L ++ l ++ m).length : Nat) ≤ 3000 := by have := HLE.out.1; have := HLE.out.2; rw [List.length_append, List.length_append]; omega
 clear hb hown hnew
 generalize hll : (L ++ l ++ m).length = ll at *
 clear hll HE
 go_wp2_with fail
 go_region_law (first | (refine step_append (v := .slice A ll c) (n := ll) (m := 1) (xs := insCells (L ++ l ++ m)) (news := [.int .i64 7, .int .i64 0, .int .i64 0, .string (bs nm)]) (by rfl) _ _ (by rfl) TyIns (by rfl) (by rfl) HVV.out HR.out (by simp [Value.oneCell']) (by omega) (by unfold maxLen; omega) ?_; intro A6 c6' w6 ho6 hf6 hv6; have X := HARM.out A6 c6' w6 ho6 hf6 hv6; obtain ⟨f7, c7', gl6, AV⟩ := X; clear ho6 hf6 hv6))
 all_goals
  clear c6 n3 clt tlt cn tn f7 c7' gl6 HARM HVV HR
  generalize w6.setCell ⟨cb, 6, none⟩ (.slice A6 (ll + 1) c6') = w9 at *
  go_wp2_with fail
  exact bodyPost_ret (results_none rfl _ _ _) rfl ⟨rfl, by rw [← List.append_assoc, ← List.append_assoc]; first | exact AV.out.1 | exact AV.out.1.no ((Fr.refl nob _).drew), by first | exact F5.out.tr AV.out.2 | exact F5.out.tr (AV.out.2.tr (FrT.no ((Fr.refl nob _).drew)))⟩
set_option maxHeartbeats 1600000 in
set_option maxRecDepth 100000 in
theorem coand_any {x at_ u v line n : Nat} {l m : List InsM} {cb : Nat} {w : World} {L : List InsM} {kv : Value} (h : Co g cb w L) (hk : Own w 3 1 kv ([u, v] : List Nat).length (ints [u, v])) (IHu : CoOk 35 g u at_ l) (IHv : CoOk 35 g v (at_ + l.length + 1) m) (hL : L.length = at_) (hl : at_ + (l ++ [⟨18, ((at_ + l.length + 1 + m.length : Nat) : Int), 0, []⟩] ++ m : List InsM).length ≤ 3000) :
  Calls Tryd.prog 51 #[.pointer (some ⟨cb, 0, none⟩), .agg #[.int .i64 9, .int .i64 line, .int .i64 n, .string (bs [38, 38]), kv]] w fun en w' => en = .returned (.tuple #[]) ∧ Co g cb w' (L ++ (l ++ [⟨18, ((at_ + l.length + 1 + m.length : Nat) : Int), 0, []⟩] ++ m : List InsM)) ∧ FrT cb coTs w w' := by
 obtain ⟨KA, KC, rfl, -, -⟩ := hk.cap
 rw [List.length_append, List.length_append, List.length_singleton] at hl
 have S0 := hid h
 have HK0 := hid hk
 have HU := hid IHu
 have HV := hid IHv
 have HLE := hid (And.intro hL hl)
 have hl2 : ((([u, v] : List Nat).length : Nat) : Int) = 2 := rfl
 clear h hk IHu IHv hL hl hl2
 generalize hLL : ([u, v] : List Nat).length = LL at *
 have HLL := hid hLL
 clear hLL
 have B0 := hid (Blk.new w 49 #[.int .i64 9, .int .i64 line, .int .i64 n, .string (bs [38, 38]), .slice KA LL KC])
 have F0 := hid (show Fr nob w (w.alloc (.cells #[.int .i64 9, .int .i64 line, .int .i64 n, .string (bs [38, 38]), .slice KA LL KC] 49)) from (Fr.refl _ w).alloc _)
 have N4 := (B0.out.cell 4).trans rfl
 have HKA := hid (HK0.out.fr F0.out (fun _ _ x => x))
 obtain ⟨kb, c', e, k0⟩ := rowGet (l := [u, v]) (by rw [HLL.out]; exact HKA.out) (j := 0) rfl
 injection e with e1 e2 e3
 subst e1
 clear e2 e3 N4
 have l0 : (0 : Int) < (LL : Int) := by rw [← HLL.out]; simp
 have l1 : (1 : Int) < (LL : Int) := by rw [← HLL.out]; simp
 go_enter Tryd.func51, Tryd.ntmps51
 go_wp2_with fail
 refine (HU.out cb _ L (S0.out.no F0.out) HLE.out.1 (by have := HLE.out.2; omega)).mono ?_
 rintro en w1 ⟨rfl, hc, hf⟩
 have S1 := hid hc
 have F1 := hid ((FrT.no (B := cb) (ts := coTs) F0.out).tr hf)
 have B1 := hid (hf.blk B0.out (by decide))
 have HK1 := hid (hf.own HKA.out (by decide))
 clear hc hf k0 S0 HK0 B0 F0 HKA
 generalize w.heap.size = T at *
 go_wp2_with fail
 have hmm := @run_makeMap Tryd.prog
 have b0 : (w1.alloc (.map #[] 0)).heap[w1.heap.size]? = some (.map #[] 0) := heap_alloc_new w1 _
 obtain ⟨w3, i1, b1, f1⟩ := ins_step u_ear u_st3 b0 (key := .string ⟨#[38, 38]⟩) trivial rfl (.int .i64 18)
 obtain ⟨w4, i2, b2, f2⟩ := ins_step u_ear u_st3 b1 (key := .string ⟨#[124, 124]⟩) trivial rfl (.int .i64 19)
 have FM : Fr nob w1 w4 := map_fr2 f1 f2
 have lk := run_lookup_ok_hit (P := Tryd.prog) u_ear u_st3 b2 (key := .string (bs [38, 38])) trivial (j := 0) (hf := by kernel_rfl) (value := .int .i64 18)
 have S4 := hid (S1.out.no FM)
 have F4 := hid (F1.out.tr (FrT.no (B := cb) (ts := coTs) FM))
 have B4 := hid (B1.out.fr FM (fun x => x))
 have HK4 := hid (HK1.out.fr FM (fun _ _ x => x))
 clear FM f1 f2 b0 b1 b2 S1 F1 B1 HK1
 obtain ⟨n0, n1, n2, n3, n4, m0, m1, m2, m3, m4, tlt⟩ := B4.out.fifth
 obtain ⟨kb', c', e, k1⟩ := rowGet (l := [u, v]) (by rw [HLL.out]; exact HK4.out) (j := 1) rfl
 injection e with e1 e2 e3
 injection e1 with e1
 injection e1 with e1
 subst e1
 clear e2 e3 m0 m1 m2 m3 m4 tlt
 rw [hmm]
 clear hmm
 go_wp2_with fail
 clear i1 i2 lk
 obtain ⟨N, hN⟩ : ∃ N, (L ++ l).length = N := ⟨_, rfl⟩
 have HN := hid hN
 refine (coputN_any S4.out hN ⟨18, 0, 0, []⟩ rfl rfl rfl rfl (by have := HLE.out.1; have := HLE.out.2; rw [List.length_append]; omega)).mono ?_
 rintro en w5 ⟨rfl, hc, hf⟩
 have S5 := hid hc
 have F5 := hid (F4.out.tr hf)
 have B5 := hid (hf.blk B4.out (by decide))
 have HK5 := hid (hf.own HK4.out (by decide))
 clear hc hf n0 n1 n2 n3 n4 k1 S4 F4 B4 HK4 hN
 obtain ⟨n0, n1, n2, n3, n4, m0, m1, m2, m3, m4, tlt⟩ := B5.out.fifth
 obtain ⟨kb', c', e, k1⟩ := rowGet (l := [u, v]) (by rw [HLL.out]; exact HK5.out) (j := 1) rfl
 injection e with e1 e2 e3
 injection e1 with e1
 injection e1 with e1
 subst e1
 clear e2 e3 m0 m1 m2 m3 m4 tlt
 go_wp2_with fail
 refine (HV.out cb _ (L ++ l ++ [⟨18, 0, 0, []⟩]) S5.out (by rw [List.length_append, List.length_append, HLE.out.1]; rfl) (by have := HLE.out.2; omega)).mono ?_
 rintro en w6 ⟨rfl, hc, hf⟩
 have S6 := hid hc
 have F6 := hid (F5.out.tr hf)
 clear hc hf n0 n1 n2 n3 n4 k1 S5 F5 B5 HK5
 go_wp2_with fail
 refine (cohere_any S6.out (j := N) (by rw [← HN.out]; simp only [List.length_append, List.length_singleton]; omega) (by have := HLE.out.1; have := HLE.out.2; simp only [List.length_append, List.length_singleton]; omega)).mono ?_
 rintro en w7 ⟨rfl, hc, hf⟩
 rw [← HN.out] at hc
 have HX := hid (here_mid (L ++ l) m ⟨18, 0, 0, []⟩)
 have S7 := hid hc
 have F7 := hid (F6.out.tr hf)
 clear hc hf S6 F6
 go_wp2_with fail
 refine bodyPost_end (results_none rfl _ _ _) rfl ⟨rfl, ?_, F7.out⟩
 have h9 := S7.out
 rw [HX.out] at h9
 have e9 : ((L ++ l ++ [(⟨18, 0, 0, []⟩ : InsM)] ++ m).length : Int) = ((at_ + l.length + 1 + m.length : Nat) : Int) := by
  have := HLE.out.1
  simp only [List.length_append, List.length_singleton]; omega
 rw [e9] at h9
 simpa only [List.append_assoc] using h9
set_option maxHeartbeats 1600000 in
set_option maxRecDepth 100000 in
theorem coor_any {x at_ u v line n : Nat} {l m : List InsM} {cb : Nat} {w : World} {L : List InsM} {kv : Value} (h : Co g cb w L) (hk : Own w 3 1 kv ([u, v] : List Nat).length (ints [u, v])) (IHu : CoOk 35 g u at_ l) (IHv : CoOk 35 g v (at_ + l.length + 1) m) (hL : L.length = at_) (hl : at_ + (l ++ [⟨19, ((at_ + l.length + 1 + m.length : Nat) : Int), 0, []⟩] ++ m : List InsM).length ≤ 3000) :
  Calls Tryd.prog 51 #[.pointer (some ⟨cb, 0, none⟩), .agg #[.int .i64 9, .int .i64 line, .int .i64 n, .string (bs [124, 124]), kv]] w fun en w' => en = .returned (.tuple #[]) ∧ Co g cb w' (L ++ (l ++ [⟨19, ((at_ + l.length + 1 + m.length : Nat) : Int), 0, []⟩] ++ m : List InsM)) ∧ FrT cb coTs w w' := by
 obtain ⟨KA, KC, rfl, -, -⟩ := hk.cap
 rw [List.length_append, List.length_append, List.length_singleton] at hl
 have S0 := hid h
 have HK0 := hid hk
 have HU := hid IHu
 have HV := hid IHv
 have HLE := hid (And.intro hL hl)
 have hl2 : ((([u, v] : List Nat).length : Nat) : Int) = 2 := rfl
 clear h hk IHu IHv hL hl hl2
 generalize hLL : ([u, v] : List Nat).length = LL at *
 have HLL := hid hLL
 clear hLL
 have B0 := hid (Blk.new w 49 #[.int .i64 9, .int .i64 line, .int .i64 n, .string (bs [124, 124]), .slice KA LL KC])
 have F0 := hid (show Fr nob w (w.alloc (.cells #[.int .i64 9, .int .i64 line, .int .i64 n, .string (bs [124, 124]), .slice KA LL KC] 49)) from (Fr.refl _ w).alloc _)
 have N4 := (B0.out.cell 4).trans rfl
 have HKA := hid (HK0.out.fr F0.out (fun _ _ x => x))
 obtain ⟨kb, c', e, k0⟩ := rowGet (l := [u, v]) (by rw [HLL.out]; exact HKA.out) (j := 0) rfl
 injection e with e1 e2 e3
 subst e1
 clear e2 e3 N4
 have l0 : (0 : Int) < (LL : Int) := by rw [← HLL.out]; simp
 have l1 : (1 : Int) < (LL : Int) := by rw [← HLL.out]; simp
 go_enter Tryd.func51, Tryd.ntmps51
 go_wp2_with fail
 refine (HU.out cb _ L (S0.out.no F0.out) HLE.out.1 (by have := HLE.out.2; omega)).mono ?_
 rintro en w1 ⟨rfl, hc, hf⟩
 have S1 := hid hc
 have F1 := hid ((FrT.no (B := cb) (ts := coTs) F0.out).tr hf)
 have B1 := hid (hf.blk B0.out (by decide))
 have HK1 := hid (hf.own HKA.out (by decide))
 clear hc hf k0 S0 HK0 B0 F0 HKA
 generalize w.heap.size = T at *
 go_wp2_with fail
 have hmm := @run_makeMap Tryd.prog
 have b0 : (w1.alloc (.map #[] 0)).heap[w1.heap.size]? = some (.map #[] 0) := heap_alloc_new w1 _
 obtain ⟨w3, i1, b1, f1⟩ := ins_step u_ear u_st3 b0 (key := .string ⟨#[38, 38]⟩) trivial rfl (.int .i64 18)
 obtain ⟨w4, i2, b2, f2⟩ := ins_step u_ear u_st3 b1 (key := .string ⟨#[124, 124]⟩) trivial rfl (.int .i64 19)
 have FM : Fr nob w1 w4 := map_fr2 f1 f2
 have lk := run_lookup_ok_hit (P := Tryd.prog) u_ear u_st3 b2 (key := .string (bs [124, 124])) trivial (j := 1) (hf := by kernel_rfl) (value := .int .i64 19)
 have S4 := hid (S1.out.no FM)
 have F4 := hid (F1.out.tr (FrT.no (B := cb) (ts := coTs) FM))
 have B4 := hid (B1.out.fr FM (fun x => x))
 have HK4 := hid (HK1.out.fr FM (fun _ _ x => x))
 clear FM f1 f2 b0 b1 b2 S1 F1 B1 HK1
 obtain ⟨n0, n1, n2, n3, n4, m0, m1, m2, m3, m4, tlt⟩ := B4.out.fifth
 obtain ⟨kb', c', e, k1⟩ := rowGet (l := [u, v]) (by rw [HLL.out]; exact HK4.out) (j := 1) rfl
 injection e with e1 e2 e3
 injection e1 with e1
 injection e1 with e1
 subst e1
 clear e2 e3 m0 m1 m2 m3 m4 tlt
 rw [hmm]
 clear hmm
 go_wp2_with fail
 clear i1 i2 lk
 obtain ⟨N, hN⟩ : ∃ N, (L ++ l).length = N := ⟨_, rfl⟩
 have HN := hid hN
 refine (coputN_any S4.out hN ⟨19, 0, 0, []⟩ rfl rfl rfl rfl (by have := HLE.out.1; have := HLE.out.2; rw [List.length_append]; omega)).mono ?_
 rintro en w5 ⟨rfl, hc, hf⟩
 have S5 := hid hc
 have F5 := hid (F4.out.tr hf)
 have B5 := hid (hf.blk B4.out (by decide))
 have HK5 := hid (hf.own HK4.out (by decide))
 clear hc hf n0 n1 n2 n3 n4 k1 S4 F4 B4 HK4 hN
 obtain ⟨n0, n1, n2, n3, n4, m0, m1, m2, m3, m4, tlt⟩ := B5.out.fifth
 obtain ⟨kb', c', e, k1⟩ := rowGet (l := [u, v]) (by rw [HLL.out]; exact HK5.out) (j := 1) rfl
 injection e with e1 e2 e3
 injection e1 with e1
 injection e1 with e1
 subst e1
 clear e2 e3 m0 m1 m2 m3 m4 tlt
 go_wp2_with fail
 refine (HV.out cb _ (L ++ l ++ [⟨19, 0, 0, []⟩]) S5.out (by rw [List.length_append, List.length_append, HLE.out.1]; rfl) (by have := HLE.out.2; omega)).mono ?_
 rintro en w6 ⟨rfl, hc, hf⟩
 have S6 := hid hc
 have F6 := hid (F5.out.tr hf)
 clear hc hf n0 n1 n2 n3 n4 k1 S5 F5 B5 HK5
 go_wp2_with fail
 refine (cohere_any S6.out (j := N) (by rw [← HN.out]; simp only [List.length_append, List.length_singleton]; omega) (by have := HLE.out.1; have := HLE.out.2; simp only [List.length_append, List.length_singleton]; omega)).mono ?_
 rintro en w7 ⟨rfl, hc, hf⟩
 rw [← HN.out] at hc
 have HX := hid (here_mid (L ++ l) m ⟨19, 0, 0, []⟩)
 have S7 := hid hc
 have F7 := hid (F6.out.tr hf)
 clear hc hf S6 F6
 go_wp2_with fail
 refine bodyPost_end (results_none rfl _ _ _) rfl ⟨rfl, ?_, F7.out⟩
 have h9 := S7.out
 rw [HX.out] at h9
 have e9 : ((L ++ l ++ [(⟨19, 0, 0, []⟩ : InsM)] ++ m).length : Int) = ((at_ + l.length + 1 + m.length : Nat) : Int) := by
  have := HLE.out.1
  simp only [List.length_append, List.length_singleton]; omega
 rw [e9] at h9
 simpa only [List.append_assoc] using h9
end
def idxZ (o : Option Nat) : Int := match o with | some j => (j : Int) | none => -1
theorem idx_hit {q : FuncM → Bool} {fs : List FuncM} {j : Nat} {f : FuncM} (h : ∀ g ∈ fs.take j, q g = false) (hf : fs[j]? = some f) (hq : q f = true) : fs.findIdx? q = some j := by
 obtain ⟨hlt, hfe⟩ := List.getElem?_eq_some_iff.1 hf
 rw [List.findIdx?_eq_some_iff_getElem]
 refine ⟨hlt, by rw [hfe]; exact hq, fun i hi => ?_⟩
 have := h fs[i] (by rw [List.mem_take_iff_getElem]; exact ⟨i, by omega, rfl⟩)
 simpa using this
theorem idx_miss {q : FuncM → Bool} {fs : List FuncM} (h : ∀ g ∈ fs, q g = false) : fs.findIdx? q = none := by
 rw [List.findIdx?_eq_none_iff]
 exact fun g hg => h g hg
set_option maxHeartbeats 1600000 in
set_option maxRecDepth 100000 in
theorem idxfn_any {F : Nat} {caps : Array Value} {q : FuncM → Bool} {w : World} {A : Option Addr} {c : Nat} {fs : List FuncM} {pvs : List Value} (hen : Enters Tryd.prog F)
  (hone : ∀ (f : FuncM) (PA : Option Addr) (PC : Nat) (w' : World), f ∈ fs → Fr nob w w' → Calls Tryd.prog F (#[.agg #[.string (bs f.name), .int .i64 (f.line : Nat), .slice PA f.params.length PC, .int .i64 (f.ret : Nat), .int .i64 (f.body : Nat)]] ++ caps) w' fun en w2 => en = .returned (.bool (q f)) ∧ Fr nob w' w2)
  (ho : Own w 43 5 (.slice A fs.length c) fs.length (fnCells fs pvs)) (hp : ParAll w fs pvs) (hs : fs.length = pvs.length) :
  Calls Tryd.prog 13 #[.slice A fs.length c, .func (.func F) #[] caps] w fun e w' => e = .returned (.int .i64 (idxZ (fs.findIdx? q))) ∧ Fr nob w w' := by
 have O := hid ho
 have HP := hid hp
 have HS := hid hs
 have HONE := hid hone
 obtain ⟨A2, c2, hv, hc1, hc2⟩ := ho.cap
 simp only [Value.slice.injEq, true_and] at hv
 obtain ⟨hv1, hv2⟩ := hv
 subst hv1
 subst hv2
 have hml : (fs.length : Int) ≤ 9223372036854775807 := by unfold maxLen at hc2; omega
 generalize hm : fs.length = m at *
 have HMM := hid hm
 obtain ⟨Z, hZ⟩ : ∃ Z, idxZ (fs.findIdx? q) = Z := ⟨_, rfl⟩
 rw [hZ]
 have HZ := hid hZ
 clear ho hp hs hm hc1 hc2 hone hZ
 go_enter Tryd.func13, Tryd.ntmps13
 go_wp2_with fail
 go_loopw [8] (fun i wr => ∃ j : Nat, j ≤ m ∧ i = .int .i64 j ∧ Hid (∀ g ∈ fs.take j, q g = false) ∧ Hid (Fr nob w wr)) (fun i _ => m - (intOf i).toNat)
 case atStart => exact ⟨0, Nat.zero_le _, rfl, hid (by simp), hid (Fr.refl _ _)⟩
 case round =>
  obtain ⟨j, hj, rfl, HA, F⟩ := hrel
  by_cases hlt : j < m
  · have hlt2 : (j : Int) < (m : Int) := by omega
    have hlf : j < fs.length := by rw [HMM.out]; exact hlt
    obtain ⟨f, hf⟩ : ∃ f, fs[j]? = some f := ⟨_, List.getElem?_eq_getElem hlf⟩
    obtain ⟨pv, hpv⟩ : ∃ pv, pvs[j]? = some pv := ⟨_, List.getElem?_eq_getElem (by have := HS.out; have := HMM.out; omega)⟩
    obtain ⟨PA, PC, rfl, _, _⟩ := (HP.out.get hf hpv).cap
    have ho := O.out.fr F.out (fun _ _ x => x)
    rw [← HMM.out] at ho
    obtain ⟨fb, rfl, hcell⟩ := ho.some (by omega)
    have e0 := hcell (j * 5 + 0) _ (fnCells_all hf hpv 0 _ rfl)
    have e1 := hcell (j * 5 + 1) _ (fnCells_all hf hpv 1 _ rfl)
    have e2 := hcell (j * 5 + 2) _ (fnCells_all hf hpv 2 _ rfl)
    have e3 := hcell (j * 5 + 3) _ (fnCells_all hf hpv 3 _ rfl)
    have e4 := hcell (j * 5 + 4) _ (fnCells_all hf hpv 4 _ rfl)
    rw [Nat.add_zero] at e0
    have HC := hid (HONE.out f PA PC wr (List.mem_of_getElem? hf) F.out)
    have HF := hid hf
    obtain ⟨z, hz⟩ : ∃ z, q f = z := ⟨_, rfl⟩
    rw [hz] at HC
    have HQ := hid hz
    clear hf hpv hcell ho hlf hz
    cases z with
    | true =>
     go_wp2_with fail
     rw [hen]
     go_wp2_with fail
     refine HC.out.mono ?_
     rintro e w2 ⟨rfl, hf2⟩
     have F2 := hid (F.out.tr hf2)
     clear hf2
     go_wp2_with fail
     go_ret
     refine ⟨?_, F2.out⟩
     have h1 : idxZ (fs.findIdx? q) = (j : Int) := by rw [idx_hit HA.out HF.out HQ.out]; rfl
     rw [← HZ.out, h1]; rfl
    | false =>
     have HA2 := hid (show ∀ g ∈ fs.take (j + 1), q g = false from fun g hg => by
      rw [List.take_add_one, HF.out] at hg
      rcases List.mem_append.1 hg with hg | hg
      · exact HA.out g hg
      · simp at hg; subst hg; exact HQ.out)
     go_wp2_with fail
     rw [hen]
     go_wp2_with fail
     refine HC.out.mono ?_
     rintro e w2 ⟨rfl, hf2⟩
     have F2 := hid (F.out.tr hf2)
     clear hf2 e0 e1 e2 e3 e4 HC HA
     go_wp2_with fail
     go_roundw
     case rel => exact ⟨j + 1, by omega, by go_num, HA2, F2⟩
     case measure => simp [intOf]; omega
  · have hlt2 : ¬ (j : Int) < (m : Int) := by omega
    have hj2 : j = m := by omega
    subst hj2
    clear hj hlt
    go_wp2_with fail
    go_ret
    refine ⟨?_, F.out⟩
    have h1 : idxZ (fs.findIdx? q) = -1 := by
     rw [idx_miss (fun g hg => HA.out g (by rw [List.take_of_length_le (by have := HMM.out; omega)]; exact hg))]; rfl
    rw [← HZ.out, h1]; rfl
theorem enters_cocall1 : Enters Tryd.prog 62 := enters_of Tryd.func62 (by kernel_rfl) rfl
theorem enters_comain1 : Enters Tryd.prog 14 := enters_of Tryd.func14 (by kernel_rfl) rfl
theorem bs_beq (a b : List UInt8) : ((bs a).toList == (bs b).toList) = decide (a = b) := by rw [bs_toList, bs_toList]; by_cases h : a = b <;> simp [h]
set_option maxHeartbeats 1600000 in
set_option maxRecDepth 100000 in
theorem cocall1_any {w : World} {T k line n : Nat} {nm : List UInt8} {kv : Value} (hb : Blk w T 49 #[.int .i64 k, .int .i64 line, .int .i64 n, .string (bs nm), kv]) (f : FuncM) (PA : Option Addr) (PC : Nat) :
  Calls Tryd.prog 62 #[.agg #[.string (bs f.name), .int .i64 (f.line : Nat), .slice PA f.params.length PC, .int .i64 (f.ret : Nat), .int .i64 (f.body : Nat)], .pointer (some ⟨T, 0, none⟩)] w fun en w2 => en = .returned (.bool (decide (f.name = nm))) ∧ Fr nob w w2 := by
 have n3 : w.cell? ⟨T, 3, none⟩ = some (.string (bs nm)) := (hb.cell 3).trans rfl
 have tlt := hb.lt
 have tn : ¬ T = w.heap.size := by omega
 obtain ⟨z, hz⟩ : ∃ z, decide (f.name = nm) = z := ⟨_, rfl⟩
 have e1 : ((bs f.name).toList == (bs nm).toList) = z := by rw [bs_beq, hz]
 rw [hz]
 clear hb hz
 generalize f.params.length = pl
 go_enter Tryd.func62, Tryd.ntmps62
 go_wp2_with fail
 go_ret
 exact ⟨rfl, (Fr.refl nob w).alloc _⟩
set_option maxHeartbeats 1600000 in
set_option maxRecDepth 100000 in
theorem comain1_any (w : World) (f : FuncM) (PA : Option Addr) (PC : Nat) :
  Calls Tryd.prog 14 #[.agg #[.string (bs f.name), .int .i64 (f.line : Nat), .slice PA f.params.length PC, .int .i64 (f.ret : Nat), .int .i64 (f.body : Nat)]] w fun en w2 => en = .returned (.bool (decide (f.name = [109, 97, 105, 110]))) ∧ Fr nob w w2 := by
 obtain ⟨z, hz⟩ : ∃ z, decide (f.name = [109, 97, 105, 110]) = z := ⟨_, rfl⟩
 have e1 : ((bs f.name).toList == [109, 97, 105, 110]) = z := by rw [bs_toList, ← hz]; by_cases h : f.name = [109, 97, 105, 110] <;> simp [h]
 rw [hz]
 clear hz
 generalize f.params.length = pl
 go_enter Tryd.func14, Tryd.ntmps14
 go_wp2_with fail
 go_ret
 exact ⟨rfl, (Fr.refl nob w).alloc _⟩
section
variable {g : PgV}
set_option maxHeartbeats 2000000 in
set_option maxRecDepth 100000 in
theorem cocall_any {x at_ line n j : Nat} {nm : List UInt8} {ks : List Nat} {l : List InsM} {cb : Nat} {w : World} {L : List InsM} {kv : Value} (h : Co g cb w L) (hk : Own w 3 1 kv (ks : List Nat).length (ints ks)) (hj : findF g.p.fs nm = some j) (hks : ks.length ≤ 300) (HR : CoRow 35 g ks at_ l) (hL : L.length = at_) (hl : at_ + (l ++ [⟨20, (j : Int), ks.length, []⟩] : List InsM).length ≤ 3000) :
  Calls Tryd.prog 52 #[.pointer (some ⟨cb, 0, none⟩), .agg #[.int .i64 21, .int .i64 line, .int .i64 n, .string (bs nm), kv]] w fun en w' => en = .returned (.tuple #[]) ∧ Co g cb w' (L ++ (l ++ [⟨20, (j : Int), ks.length, []⟩] : List InsM)) ∧ FrT cb coTs w w' := by
 obtain ⟨KA, KC, rfl, -, -⟩ := hk.cap
 rw [List.length_append, List.length_singleton] at hl
 have S0 := hid h
 have HK0 := hid hk
 have HRR := hid HR
 have HLE := hid (And.intro hL hl)
 have HJ := hid hj
 have HKS := hid hks
 have hks2 : (ks.length : Int) ≤ 300 := by omega
 clear h hk HR hL hl hj hks
 generalize hLL : ks.length = LL at *
 have HLL := hid hLL
 clear hLL
 have B0 := hid (Blk.new w 49 #[.int .i64 21, .int .i64 line, .int .i64 n, .string (bs nm), .slice KA LL KC])
 have F0 := hid (show Fr nob w (w.alloc (.cells #[.int .i64 21, .int .i64 line, .int .i64 n, .string (bs nm), .slice KA LL KC] 49)) from (Fr.refl _ w).alloc _)
 have HKA := hid (HK0.out.fr F0.out (fun _ _ x => x))
 go_enter Tryd.func52, Tryd.ntmps52
 go_wp2_with fail
 refine (coeach_any enters_expr (S0.out.no F0.out) (by rw [HLL.out]; exact HKA.out) HRR.out HLE.out.1 (by have := HLE.out.2; omega) (by have := HKS.out; have := HLL.out; omega)).mono ?_
 rintro en w1 ⟨rfl, hc, hf⟩
 have S1 := hid hc
 have F1 := hid ((FrT.no (B := cb) (ts := coTs) F0.out).tr hf)
 have B1 := hid (hf.blk B0.out (by decide))
 clear hc hf S0 HK0 B0 F0 HKA
 generalize w.heap.size = T at *
 obtain ⟨A, c, hb, -, -⟩ := S1.out.ex
 have c1 : w1.cell? ⟨cb, 1, none⟩ = some (.slice (some ⟨g.fb, 0, none⟩) g.p.fs.length g.fc) := (hb.cell 1).trans rfl
 clear hb
 have HIX := hid (idxfn_any (caps := #[.pointer (some ⟨T, 0, none⟩)]) (q := fun f => decide (f.name = nm)) enters_cocall1 (fun f PA PC w' _ hf => cocall1_any (B1.out.fr hf (fun x => x)) f PA PC) S1.out.pg.tree.fns S1.out.pg.tree.pars S1.out.pg.tree.samef)
 go_wp2_with fail
 refine HIX.out.mono ?_
 rintro en w2 ⟨rfl, hf⟩
 have hz : idxZ (g.p.fs.findIdx? fun f => decide (f.name = nm)) = (j : Nat) := by
  have := HJ.out
  unfold findF at this
  rw [this]; rfl
 rw [hz]
 have S2 := hid (S1.out.no hf)
 have F2 := hid (F1.out.tr (FrT.no (B := cb) (ts := coTs) hf))
 have B2 := hid (B1.out.fr hf (fun x => x))
 clear hz hf c1 HIX S1 F1 B1
 obtain ⟨A, c, hb, hown, hnew⟩ := S2.out.ex
 have HE := hid (show ([.int .i64 20, .int .i64 (j : Nat), .int .i64 (LL : Nat), .string ⟨#[]⟩] : List Value) = insCells [⟨20, (j : Int), ks.length, []⟩] from by rw [HLL.out]; rfl)
 have HVV := hid ((hown.alloc (.cells ([.int .i64 20, .int .i64 (j : Nat), .int .i64 (LL : Nat), .string ⟨#[]⟩] : List Value).toArray 39)).fr ((Fr.refl nob _).drew) (fun _ _ x => x))
 have HR := hid (Rd.ofBlk (n := 1) (size := 4) (cs := [.int .i64 20, .int .i64 (j : Nat), .int .i64 (LL : Nat), .string ⟨#[]⟩]) ((Blk.new w2 39 ([.int .i64 20, .int .i64 (j : Nat), .int .i64 (LL : Nat), .string ⟨#[]⟩] : List Value).toArray).fr ((Fr.refl nob _).drew) (fun x => x)) rfl (by decide))
 have HARM := hid (coArm S2.out hb rfl HE.out (w1 := (w2.alloc (.cells ([.int .i64 20, .int .i64 (j : Nat), .int .i64 (LL : Nat), .string ⟨#[]⟩] : List Value).toArray 39)).drew) (((Fr.refl nob w2).alloc _).drew))
 have c6 : w2.cell? ⟨cb, 6, none⟩ = some (.slice A (L ++ l).length c) := (hb.cell 6).trans rfl
 have n4 : w2.cell? ⟨T, 4, none⟩ = some (.slice KA LL KC) := (B2.out.cell 4).trans rfl
 have clt := hb.lt
 have tlt := B2.out.lt
 have cn : ¬ cb = w2.heap.size := by omega
 have tn : ¬ T = w2.heap.size := by omega
 have hlm : ((L ++ l).length : Nat) ≤ 3000 := by have := HLE.out.1; have := HLE.out.2; rw [List.length_append]; omega
 clear hb hown hnew
 generalize hll : (L ++ l).length = ll at *
 clear hll HE
 go_wp2_with fail
 go_region_law (first | (refine step_append (v := .slice A ll c) (n := ll) (m := 1) (xs := insCells (L ++ l)) (news := [.int .i64 20, .int .i64 (j : Nat), .int .i64 (LL : Nat), .string ⟨#[]⟩]) (by rfl) _ _ (by rfl) TyIns (by rfl) (by rfl) HVV.out HR.out (by simp [Value.oneCell']) (by omega) (by unfold maxLen; omega) ?_; intro A6 c6' w6 ho6 hf6 hv6; have X := HARM.out A6 c6' w6 ho6 hf6 hv6; obtain ⟨f7, c7', gl6, AV⟩ := X; clear ho6 hf6 hv6))
 all_goals
  clear c6 n4 clt tlt cn tn f7 c7' gl6 HARM HVV HR
  rw [HLL.out] at AV
  generalize w6.setCell ⟨cb, 6, none⟩ (.slice A6 (ll + 1) c6') = w9 at *
  go_wp2_with fail
  exact bodyPost_end (results_none rfl _ _ _) rfl ⟨rfl, by rw [← List.append_assoc]; first | exact AV.out.1 | exact AV.out.1.no ((Fr.refl nob _).drew), by first | exact F2.out.tr AV.out.2 | exact F2.out.tr (AV.out.2.tr (FrT.no ((Fr.refl nob _).drew)))⟩
end
end Go.Proofs.YtlbjicjinnnboaaDoor
