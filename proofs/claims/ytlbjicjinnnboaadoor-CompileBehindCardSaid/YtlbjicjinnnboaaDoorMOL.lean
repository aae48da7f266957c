/- The program's own coder: leaf. Printed by wip/tools/mkcoleaf.py. -/
import Derived.Test.YtlbjicjinnnboaaDoorMO1
set_option linter.unusedVariables false
set_option linter.unusedSimpArgs false
namespace Go.Proofs.YtlbjicjinnnboaaDoor
open Go.RowKit
open Pw
section
variable {g : PgV} {cb : Nat} {w w' : World} {L : List InsM}
set_option maxHeartbeats 2000000 in
set_option maxRecDepth 100000 in
theorem coleaf_int (h : Co g cb w L) {x line n : Nat} {nm : List UInt8} {kv : Value} (hx : g.p.ns[x]? = some ⟨1, line, n, nm, []⟩) (hk : Own w 3 1 kv 0 []) (hL : L.length ≤ 3000) :
  Calls Tryd.prog 53 #[.pointer (some ⟨cb, 0, none⟩), .agg #[.int .i64 1, .int .i64 line, .int .i64 n, .string (bs nm), kv], .int .i64 (x : Nat)] w fun en w' => en = .returned (.tuple #[]) ∧ Co g cb w' (L ++ [⟨2, (n : Nat), 0, []⟩]) ∧ FrT cb coTs w w' := by
 obtain ⟨KA, KC, rfl, -, -⟩ := hk.cap
 obtain ⟨A, c, hb, hown, hnew⟩ := h.ex
 have S0 := hid h
 have HB := hid hb
 have HO := hid hown
 have hxlt := (List.getElem?_eq_some_iff.1 hx).1
 have SL := hid (fun (w' : World) (h : PgAt g w') => h.slot hxlt)
 have TY := hid (fun (w' : World) (h : PgAt g w') => h.type hxlt)
 have hx3 : (x : Int) < (g.p.ns.length : Int) := by omega
 have hx4 := h.pg.len
 have BN := hid (Blk.new w 49 #[.int .i64 1, .int .i64 line, .int .i64 n, .string (bs nm), .slice KA 0 KC])
 have FN := hid (show Fr nob w (w.alloc (.cells #[.int .i64 1, .int .i64 line, .int .i64 n, .string (bs nm), .slice KA 0 KC] 49)) from (Fr.refl _ w).alloc _)
 clear h hb hown hnew hk hx hxlt
 go_enter Tryd.func53, Tryd.ntmps53
 go_wp2_with fail
 refine (coput_any (S0.out.no FN.out) ⟨2, (n : Nat), 0, []⟩ rfl rfl rfl rfl hL).mono ?_
 rintro en w2 ⟨rfl, hc, hf⟩
 have HC := hid hc
 have HF := hid ((FrT.no FN.out).tr hf)
 clear hc hf
 go_wp2_with fail
 exact bodyPost_end (results_none rfl _ _ _) rfl ⟨rfl, HC.out, HF.out⟩
set_option maxHeartbeats 2000000 in
set_option maxRecDepth 100000 in
theorem coleaf_bool (h : Co g cb w L) {x line n : Nat} {nm : List UInt8} {kv : Value} (hx : g.p.ns[x]? = some ⟨2, line, n, nm, []⟩) (hk : Own w 3 1 kv 0 []) (hL : L.length ≤ 3000) :
  Calls Tryd.prog 53 #[.pointer (some ⟨cb, 0, none⟩), .agg #[.int .i64 2, .int .i64 line, .int .i64 n, .string (bs nm), kv], .int .i64 (x : Nat)] w fun en w' => en = .returned (.tuple #[]) ∧ Co g cb w' (L ++ [⟨3, (n : Nat), 0, []⟩]) ∧ FrT cb coTs w w' := by
 obtain ⟨KA, KC, rfl, -, -⟩ := hk.cap
 obtain ⟨A, c, hb, hown, hnew⟩ := h.ex
 have S0 := hid h
 have HB := hid hb
 have HO := hid hown
 have hxlt := (List.getElem?_eq_some_iff.1 hx).1
 have SL := hid (fun (w' : World) (h : PgAt g w') => h.slot hxlt)
 have TY := hid (fun (w' : World) (h : PgAt g w') => h.type hxlt)
 have hx3 : (x : Int) < (g.p.ns.length : Int) := by omega
 have hx4 := h.pg.len
 have BN := hid (Blk.new w 49 #[.int .i64 2, .int .i64 line, .int .i64 n, .string (bs nm), .slice KA 0 KC])
 have FN := hid (show Fr nob w (w.alloc (.cells #[.int .i64 2, .int .i64 line, .int .i64 n, .string (bs nm), .slice KA 0 KC] 49)) from (Fr.refl _ w).alloc _)
 clear h hb hown hnew hk hx hxlt
 go_enter Tryd.func53, Tryd.ntmps53
 go_wp2_with fail
 refine (coput_any (S0.out.no FN.out) ⟨3, (n : Nat), 0, []⟩ rfl rfl rfl rfl hL).mono ?_
 rintro en w2 ⟨rfl, hc, hf⟩
 have HC := hid hc
 have HF := hid ((FrT.no FN.out).tr hf)
 clear hc hf
 go_wp2_with fail
 exact bodyPost_end (results_none rfl _ _ _) rfl ⟨rfl, HC.out, HF.out⟩
set_option maxHeartbeats 2000000 in
set_option maxRecDepth 100000 in
theorem coleaf_text (h : Co g cb w L) {x line n : Nat} {nm : List UInt8} {kv : Value} (hx : g.p.ns[x]? = some ⟨3, line, n, nm, []⟩) (hk : Own w 3 1 kv 0 []) (hL : L.length ≤ 3000) :
  Calls Tryd.prog 53 #[.pointer (some ⟨cb, 0, none⟩), .agg #[.int .i64 3, .int .i64 line, .int .i64 n, .string (bs nm), kv], .int .i64 (x : Nat)] w fun en w' => en = .returned (.tuple #[]) ∧ Co g cb w' (L ++ [⟨4, 0, 0, nm⟩]) ∧ FrT cb coTs w w' := by
 obtain ⟨KA, KC, rfl, -, -⟩ := hk.cap
 obtain ⟨A, c, hb, hown, hnew⟩ := h.ex
 have S0 := hid h
 have HB := hid hb
 have HO := hid hown
 have hxlt := (List.getElem?_eq_some_iff.1 hx).1
 have SL := hid (fun (w' : World) (h : PgAt g w') => h.slot hxlt)
 have TY := hid (fun (w' : World) (h : PgAt g w') => h.type hxlt)
 have hx3 : (x : Int) < (g.p.ns.length : Int) := by omega
 have hx4 := h.pg.len
 have BN := hid (Blk.new w 49 #[.int .i64 3, .int .i64 line, .int .i64 n, .string (bs nm), .slice KA 0 KC])
 have FN := hid (show Fr nob w (w.alloc (.cells #[.int .i64 3, .int .i64 line, .int .i64 n, .string (bs nm), .slice KA 0 KC] 49)) from (Fr.refl _ w).alloc _)
 clear h hb hown hnew hk hx hxlt
 go_enter Tryd.func53, Tryd.ntmps53
 go_wp2_with fail
 have S1 := hid (S0.out.no FN.out)
 have HB1 := hid (HB.out.fr FN.out (fun x => x))
 have HO1 := hid (HO.out.fr FN.out (fun _ _ x => x))
 have F1 := hid (FrT.no (B := cb) (ts := coTs) FN.out)
 clear S0 HB HO FN
 generalize w.alloc (.cells #[.int .i64 3, .int .i64 line, .int .i64 n, .string (bs nm), .slice KA 0 KC] 49) = w1 at *
 generalize w.heap.size = T at *
 have HE := hid (show ([.int .i64 4, .int .i64 0, .int .i64 0, .string (bs nm)] : List Value) = insCells [⟨4, 0, 0, nm⟩] from rfl)
 have HV := hid ((HO1.out.alloc (.cells ([.int .i64 4, .int .i64 0, .int .i64 0, .string (bs nm)] : List Value).toArray 39)).fr ((Fr.refl nob _).drew) (fun _ _ x => x))
 have HR := hid (Rd.ofBlk (n := 1) (size := 4) (cs := [.int .i64 4, .int .i64 0, .int .i64 0, .string (bs nm)]) ((Blk.new w1 39 ([.int .i64 4, .int .i64 0, .int .i64 0, .string (bs nm)] : List Value).toArray).fr ((Fr.refl nob _).drew) (fun x => x)) rfl (by decide))
 have HARM := hid (coArm S1.out HB1.out rfl HE.out (w1 := (w1.alloc (.cells ([.int .i64 4, .int .i64 0, .int .i64 0, .string (bs nm)] : List Value).toArray 39)).drew) (((Fr.refl nob w1).alloc _).drew))
 have c6 : w1.cell? ⟨cb, 6, none⟩ = some (.slice A L.length c) := (HB1.out.cell 6).trans rfl
 have n3 : w1.cell? ⟨T, 3, none⟩ = some (.string (bs nm)) := (BN.out.cell 3).trans rfl
 have clt := HB1.out.lt
 have tlt := BN.out.lt
 have cn : ¬ cb = w1.heap.size := by omega
 have tn : ¬ T = w1.heap.size := by omega
 generalize hll : L.length = ll at *
 clear hll HE
 go_region_law (first | (refine step_append (v := .slice A ll c) (n := ll) (m := 1) (xs := insCells L) (news := [.int .i64 4, .int .i64 0, .int .i64 0, .string (bs nm)]) (by rfl) _ _ (by rfl) TyIns (by rfl) (by rfl) HV.out HR.out (by simp [Value.oneCell']) (by omega) (by unfold maxLen; omega) ?_; intro A6 c6' w6 ho6 hf6 hv6; have X := HARM.out A6 c6' w6 ho6 hf6 hv6; obtain ⟨f7, c7', gl6, AV⟩ := X; clear ho6 hf6 hv6))
 all_goals
  clear c6 n3 clt tlt cn tn f7 c7' gl6 HARM HV HR
  generalize w6.setCell ⟨cb, 6, none⟩ (.slice A6 (ll + 1) c6') = w9 at *
  go_wp2_with fail
  exact bodyPost_end (results_none rfl _ _ _) rfl ⟨rfl, by first | exact AV.out.1 | exact AV.out.1.no ((Fr.refl nob _).drew), by first | exact F1.out.tr AV.out.2 | exact F1.out.tr (AV.out.2.tr (FrT.no ((Fr.refl nob _).drew)))⟩
set_option maxHeartbeats 2000000 in
set_option maxRecDepth 100000 in
theorem coleaf_var (h : Co g cb w L) {x line n : Nat} {nm : List UInt8} {kv : Value} (hx : g.p.ns[x]? = some ⟨4, line, n, nm, []⟩) (hk : Own w 3 1 kv 0 []) (hL : L.length ≤ 3000) :
  Calls Tryd.prog 53 #[.pointer (some ⟨cb, 0, none⟩), .agg #[.int .i64 4, .int .i64 line, .int .i64 n, .string (bs nm), kv], .int .i64 (x : Nat)] w fun en w' => en = .returned (.tuple #[]) ∧ Co g cb w' (L ++ [⟨5, slotP g.p x, typeP g.p x, []⟩]) ∧ FrT cb coTs w w' := by
 obtain ⟨KA, KC, rfl, -, -⟩ := hk.cap
 obtain ⟨A, c, hb, hown, hnew⟩ := h.ex
 have S0 := hid h
 have HB := hid hb
 have HO := hid hown
 have hxlt := (List.getElem?_eq_some_iff.1 hx).1
 have SL := hid (fun (w' : World) (h : PgAt g w') => h.slot hxlt)
 have TY := hid (fun (w' : World) (h : PgAt g w') => h.type hxlt)
 have hx3 : (x : Int) < (g.p.ns.length : Int) := by omega
 have hx4 := h.pg.len
 have BN := hid (Blk.new w 49 #[.int .i64 4, .int .i64 line, .int .i64 n, .string (bs nm), .slice KA 0 KC])
 have FN := hid (show Fr nob w (w.alloc (.cells #[.int .i64 4, .int .i64 line, .int .i64 n, .string (bs nm), .slice KA 0 KC] 49)) from (Fr.refl _ w).alloc _)
 clear h hb hown hnew hk hx hxlt
 go_enter Tryd.func53, Tryd.ntmps53
 go_wp2_with fail
 have S1 := hid (S0.out.no FN.out)
 have HB1 := hid (HB.out.fr FN.out (fun x => x))
 have HO1 := hid (HO.out.fr FN.out (fun _ _ x => x))
 have F1 := hid (FrT.no (B := cb) (ts := coTs) FN.out)
 clear S0 HB HO FN
 generalize w.alloc (.cells #[.int .i64 4, .int .i64 line, .int .i64 n, .string (bs nm), .slice KA 0 KC] 49) = w1 at *
 generalize w.heap.size = T at *
 have HE := hid (show ([.int .i64 5, .int .i64 (slotP g.p x), .int .i64 (typeP g.p x : Nat), .string ⟨#[]⟩] : List Value) = insCells [⟨5, slotP g.p x, typeP g.p x, []⟩] from rfl)
 have HV := hid ((HO1.out.alloc (.cells ([.int .i64 5, .int .i64 (slotP g.p x), .int .i64 (typeP g.p x : Nat), .string ⟨#[]⟩] : List Value).toArray 39)).fr ((Fr.refl nob _).drew) (fun _ _ x => x))
 have HR := hid (Rd.ofBlk (n := 1) (size := 4) (cs := [.int .i64 5, .int .i64 (slotP g.p x), .int .i64 (typeP g.p x : Nat), .string ⟨#[]⟩]) ((Blk.new w1 39 ([.int .i64 5, .int .i64 (slotP g.p x), .int .i64 (typeP g.p x : Nat), .string ⟨#[]⟩] : List Value).toArray).fr ((Fr.refl nob _).drew) (fun x => x)) rfl (by decide))
 have HARM := hid (coArm S1.out HB1.out rfl HE.out (w1 := (w1.alloc (.cells ([.int .i64 5, .int .i64 (slotP g.p x), .int .i64 (typeP g.p x : Nat), .string ⟨#[]⟩] : List Value).toArray 39)).drew) (((Fr.refl nob w1).alloc _).drew))
 have c6 : w1.cell? ⟨cb, 6, none⟩ = some (.slice A L.length c) := (HB1.out.cell 6).trans rfl
 have n3 : w1.cell? ⟨T, 3, none⟩ = some (.string (bs nm)) := (BN.out.cell 3).trans rfl
 have clt := HB1.out.lt
 have tlt := BN.out.lt
 have cn : ¬ cb = w1.heap.size := by omega
 have tn : ¬ T = w1.heap.size := by omega
 have c2 : w1.cell? ⟨cb, 2, none⟩ = some (.slice (some ⟨g.tb, 0, none⟩) g.p.ns.length g.tc) := (HB1.out.cell 2).trans rfl
 have c3 : w1.cell? ⟨cb, 3, none⟩ = some (.slice (some ⟨g.sb, 0, none⟩) g.p.ns.length g.sc) := (HB1.out.cell 3).trans rfl
 have sl := SL.out _ S1.out.pg
 have ty := TY.out _ S1.out.pg
 have slt : g.sb < w1.heap.size := World.block_lt_of_cell? _ _ sl
 have tylt : g.tb < w1.heap.size := World.block_lt_of_cell? _ _ ty
 have sn : ¬ g.sb = w1.heap.size := by omega
 have tyn : ¬ g.tb = w1.heap.size := by omega
 generalize hll : L.length = ll at *
 clear hll HE
 go_region_law (first | (refine step_append (v := .slice A ll c) (n := ll) (m := 1) (xs := insCells L) (news := [.int .i64 5, .int .i64 (slotP g.p x), .int .i64 (typeP g.p x : Nat), .string ⟨#[]⟩]) (by rfl) _ _ (by rfl) TyIns (by rfl) (by rfl) HV.out HR.out (by simp [Value.oneCell']) (by omega) (by unfold maxLen; omega) ?_; intro A6 c6' w6 ho6 hf6 hv6; have X := HARM.out A6 c6' w6 ho6 hf6 hv6; obtain ⟨f7, c7', gl6, AV⟩ := X; clear ho6 hf6 hv6))
 all_goals
  clear c6 n3 clt tlt cn tn f7 c7' gl6 HARM HV HR c2 c3 sl ty slt tylt sn tyn
  generalize w6.setCell ⟨cb, 6, none⟩ (.slice A6 (ll + 1) c6') = w9 at *
  go_wp2_with fail
  exact bodyPost_end (results_none rfl _ _ _) rfl ⟨rfl, by first | exact AV.out.1 | exact AV.out.1.no ((Fr.refl nob _).drew), by first | exact F1.out.tr AV.out.2 | exact F1.out.tr (AV.out.2.tr (FrT.no ((Fr.refl nob _).drew)))⟩
set_option maxHeartbeats 2000000 in
set_option maxRecDepth 100000 in
theorem coleaf_input (h : Co g cb w L) {x line n : Nat} {nm : List UInt8} {kv : Value} (hx : g.p.ns[x]? = some ⟨19, line, n, nm, []⟩) (hk : Own w 3 1 kv 0 []) (hL : L.length ≤ 3000) :
  Calls Tryd.prog 53 #[.pointer (some ⟨cb, 0, none⟩), .agg #[.int .i64 19, .int .i64 line, .int .i64 n, .string (bs nm), kv], .int .i64 (x : Nat)] w fun en w' => en = .returned (.tuple #[]) ∧ Co g cb w' (L ++ [⟨14, 0, 0, []⟩]) ∧ FrT cb coTs w w' := by
 obtain ⟨KA, KC, rfl, -, -⟩ := hk.cap
 obtain ⟨A, c, hb, hown, hnew⟩ := h.ex
 have S0 := hid h
 have HB := hid hb
 have HO := hid hown
 have hxlt := (List.getElem?_eq_some_iff.1 hx).1
 have SL := hid (fun (w' : World) (h : PgAt g w') => h.slot hxlt)
 have TY := hid (fun (w' : World) (h : PgAt g w') => h.type hxlt)
 have hx3 : (x : Int) < (g.p.ns.length : Int) := by omega
 have hx4 := h.pg.len
 have BN := hid (Blk.new w 49 #[.int .i64 19, .int .i64 line, .int .i64 n, .string (bs nm), .slice KA 0 KC])
 have FN := hid (show Fr nob w (w.alloc (.cells #[.int .i64 19, .int .i64 line, .int .i64 n, .string (bs nm), .slice KA 0 KC] 49)) from (Fr.refl _ w).alloc _)
 clear h hb hown hnew hk hx hxlt
 go_enter Tryd.func53, Tryd.ntmps53
 go_wp2_with fail
 refine (coput_any (S0.out.no FN.out) ⟨14, 0, 0, []⟩ rfl rfl rfl rfl hL).mono ?_
 rintro en w2 ⟨rfl, hc, hf⟩
 have HC := hid hc
 have HF := hid ((FrT.no FN.out).tr hf)
 clear hc hf
 go_wp2_with fail
 exact bodyPost_end (results_none rfl _ _ _) rfl ⟨rfl, HC.out, HF.out⟩
end
end Go.Proofs.YtlbjicjinnnboaaDoor
