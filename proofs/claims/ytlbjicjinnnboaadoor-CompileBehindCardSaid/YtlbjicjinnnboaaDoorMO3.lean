/- MO3: CoTests, CoStm, CoAny, CoAll. -/
import Derived.Test.YtlbjicjinnnboaaDoorMO2
set_option linter.unusedVariables false
set_option linter.unusedSimpArgs false
/- The program's own coder: tests. Printed by wip/tools/mkcostm.py. -/
namespace Go.Proofs.YtlbjicjinnnboaaDoor
open Go.RowKit
open Pw
section
variable {g : PgV}
theorem here_mid2 {l m : List InsM} {o N a : Nat} (hN : l.length = N) (ha : l.length + 1 + m.length = a) : hereL (l ++ [⟨o, 0, 0, []⟩] ++ m) N = l ++ [⟨o, (a : Int), 0, []⟩] ++ m := by
 subst hN; subst ha; rw [here_mid]; simp only [List.length_append, List.length_singleton]
set_option maxHeartbeats 2000000 in
set_option maxRecDepth 100000 in
theorem cotests_if2 {at_ line n mk u v : Nat} {nm : List UInt8} {l m o : List InsM} {cb : Nat} {w : World} {L : List InsM} {kv : Value} (h : Co g cb w L) (hk : Own w 3 1 kv ([u, v] : List Nat).length (ints [u, v])) (IU : CoOk 35 g u (at_) l) (IV : CoOk 11 g v (at_ + l.length + 1) m) (hL : L.length = at_) (hl : at_ + l.length + 1 + m.length ≤ 3000) :
  Calls Tryd.prog 34 #[.pointer (some ⟨cb, 0, none⟩), .agg #[.int .i64 15, .int .i64 line, .int .i64 n, .string (bs nm), kv], .int .i64 (mk : Nat)] w fun en w' => en = .returned (.tuple #[]) ∧ Co g cb w' (L ++ (l ++ [⟨17, ((at_ + l.length + 1 + m.length : Nat) : Int), 0, []⟩] ++ m : List InsM)) ∧ FrT cb coTs w w' := by
 obtain ⟨KA, KC, rfl, -, -⟩ := hk.cap
 have HIU := hid IU
 have HIV := hid IV
 have HLE := hid (And.intro hL hl)
 have S := hid h
 have HK := hid hk
 clear h hk hL hl IU IV
 generalize hLL : ([u, v] : List Nat).length = LL at *
 have HLL := hid hLL
 clear hLL
 have B0 := hid (Blk.new w 49 #[.int .i64 15, .int .i64 line, .int .i64 n, .string (bs nm), .slice KA LL KC])
 have FA := hid (show Fr nob w (w.alloc (.cells #[.int .i64 15, .int .i64 line, .int .i64 n, .string (bs nm), .slice KA LL KC] 49)) from (Fr.refl _ w).alloc _)
 have S0 := hid (S.out.no FA.out)
 have HK0 := hid (HK.out.fr FA.out (fun _ _ x => x))
 have F0 := hid (FrT.no (B := cb) (ts := coTs) FA.out)
 clear S HK FA
 obtain ⟨kb, c', e, kk⟩ := rowGet (l := [u, v]) (by rw [HLL.out]; exact HK0.out) (j := 0) rfl
 injection e with e1 e2 e3
 subst e1
 clear e2 e3
 have l0 : (2 : Int) = (LL : Int) := by rw [← HLL.out]; rfl
 have l1 : (0 : Int) < (LL : Int) := by omega
 have l2 : (1 : Int) < (LL : Int) := by omega
 have l3 : ¬ (2 : Int) < (LL : Int) := by omega
 clear l0
 go_enter Tryd.func34, Tryd.ntmps34
 go_wp2_with fail
 refine (HIU.out cb _ (L : List InsM) S0.out (by have := HLE.out.1; (try simp only [List.length_append, List.length_singleton]); omega) (by have := HLE.out.2; omega)).mono ?_
 rintro en w1 ⟨rfl, hc, hf⟩
 have S1 := hid hc
 have F1 := hid (F0.out.tr hf)
 have B1 := hid (hf.blk B0.out (by decide))
 have HK1 := hid (hf.own HK0.out (by decide))
 clear hc hf kk S0 F0 B0 HK0
 go_wp2_with fail
 obtain ⟨N, hN⟩ : ∃ N, (L ++ l : List InsM).length = N := ⟨_, rfl⟩
 have HN := hid hN
 refine (coputN_any S1.out hN ⟨17, 0, 0, []⟩ rfl rfl rfl rfl (by have := HLE.out.1; have := HLE.out.2; (try simp only [List.length_append, List.length_singleton]); omega)).mono ?_
 rintro en w2 ⟨rfl, hc, hf⟩
 have S2 := hid hc
 have F2 := hid (F1.out.tr hf)
 have B2 := hid (hf.blk B1.out (by decide))
 have HK2 := hid (hf.own HK1.out (by decide))
 clear hc hf  S1 F1 B1 HK1 hN
 obtain ⟨n0, n1, n2, n3, n4, m0, m1, m2, m3, m4, tlt⟩ := B2.out.fifth
 clear m0 m1 m2 m3 m4 tlt
 obtain ⟨kb', c', e, kk⟩ := rowGet (l := [u, v]) (by rw [HLL.out]; exact HK2.out) (j := 1) rfl
 injection e with e1 e2 e3
 injection e1 with e1
 injection e1 with e1
 subst e1
 clear e2 e3
 go_wp2_with fail
 refine (HIV.out cb _ (L ++ l ++ [⟨17, 0, 0, []⟩] : List InsM) S2.out (by have := HLE.out.1; (try simp only [List.length_append, List.length_singleton]); omega) (by have := HLE.out.2; omega)).mono ?_
 rintro en w3 ⟨rfl, hc, hf⟩
 have S3 := hid hc
 have F3 := hid (F2.out.tr hf)
 have B3 := hid (hf.blk B2.out (by decide))
 have HK3 := hid (hf.own HK2.out (by decide))
 clear hc hf n0 n1 n2 n3 n4 kk S2 F2 B2 HK2
 obtain ⟨n0, n1, n2, n3, n4, m0, m1, m2, m3, m4, tlt⟩ := B3.out.fifth
 clear m0 m1 m2 m3 m4 tlt
 go_wp2_with fail
 have hx := here_mid2 (l := L ++ l) (m := m) (o := 17) (a := at_ + l.length + 1 + m.length) HN.out (by have := HLE.out.1; (try simp only [List.length_append, List.length_singleton]); omega)
 have S3' := hid (show Co g cb w3 (L ++ l ++ [⟨17, 0, 0, []⟩] ++ (m)) from by have := S3.out; simpa only [List.append_assoc] using this)
 refine (cohere_any S3'.out (j := N) (by rw [← HN.out]; (try simp only [List.length_append, List.length_singleton]); omega) (by have := HLE.out.1; have := HLE.out.2; (try simp only [List.length_append, List.length_singleton]); omega)).mono ?_
 rintro en w4 ⟨rfl, hc, hf⟩
 rw [hx] at hc
 clear hx S3'
 have S4 := hid hc
 have F4 := hid (F3.out.tr hf)
 have B4 := hid (hf.blk B3.out (by decide))
 have HK4 := hid (hf.own HK3.out (by decide))
 clear hc hf n0 n1 n2 n3 n4 S3 F3 B3 HK3
 go_wp2_with fail
 have hfin := S4.out
 clear S4
 exact bodyPost_end (results_none rfl _ _ _) rfl ⟨rfl, by simpa only [List.append_assoc, Nat.add_assoc] using hfin, F4.out⟩
set_option maxHeartbeats 2000000 in
set_option maxRecDepth 100000 in
theorem cotests_loop {at_ line n mk u v : Nat} {nm : List UInt8} {l m o : List InsM} {cb : Nat} {w : World} {L : List InsM} {kv : Value} (h : Co g cb w L) (hk : Own w 3 1 kv ([u, v] : List Nat).length (ints [u, v])) (IU : CoOk 35 g u (at_) l) (IV : CoOk 11 g v (at_ + l.length + 1) m) (hL : L.length = at_) (hl : at_ + l.length + 1 + m.length + 1 ≤ 3000) :
  Calls Tryd.prog 34 #[.pointer (some ⟨cb, 0, none⟩), .agg #[.int .i64 16, .int .i64 line, .int .i64 n, .string (bs nm), kv], .int .i64 (mk : Nat)] w fun en w' => en = .returned (.tuple #[]) ∧ Co g cb w' (L ++ (l ++ [⟨17, ((at_ + l.length + 1 + m.length + 1 : Nat) : Int), 0, []⟩] ++ (m ++ [⟨16, (mk : Int), 0, []⟩]) : List InsM)) ∧ FrT cb coTs w w' := by
 obtain ⟨KA, KC, rfl, -, -⟩ := hk.cap
 have HIU := hid IU
 have HIV := hid IV
 have HLE := hid (And.intro hL hl)
 have S := hid h
 have HK := hid hk
 clear h hk hL hl IU IV
 generalize hLL : ([u, v] : List Nat).length = LL at *
 have HLL := hid hLL
 clear hLL
 have B0 := hid (Blk.new w 49 #[.int .i64 16, .int .i64 line, .int .i64 n, .string (bs nm), .slice KA LL KC])
 have FA := hid (show Fr nob w (w.alloc (.cells #[.int .i64 16, .int .i64 line, .int .i64 n, .string (bs nm), .slice KA LL KC] 49)) from (Fr.refl _ w).alloc _)
 have S0 := hid (S.out.no FA.out)
 have HK0 := hid (HK.out.fr FA.out (fun _ _ x => x))
 have F0 := hid (FrT.no (B := cb) (ts := coTs) FA.out)
 clear S HK FA
 obtain ⟨kb, c', e, kk⟩ := rowGet (l := [u, v]) (by rw [HLL.out]; exact HK0.out) (j := 0) rfl
 injection e with e1 e2 e3
 subst e1
 clear e2 e3
 have l0 : (2 : Int) = (LL : Int) := by rw [← HLL.out]; rfl
 have l1 : (0 : Int) < (LL : Int) := by omega
 have l2 : (1 : Int) < (LL : Int) := by omega
 have l3 : ¬ (2 : Int) < (LL : Int) := by omega
 clear l0
 go_enter Tryd.func34, Tryd.ntmps34
 go_wp2_with fail
 refine (HIU.out cb _ (L : List InsM) S0.out (by have := HLE.out.1; (try simp only [List.length_append, List.length_singleton]); omega) (by have := HLE.out.2; omega)).mono ?_
 rintro en w1 ⟨rfl, hc, hf⟩
 have S1 := hid hc
 have F1 := hid (F0.out.tr hf)
 have B1 := hid (hf.blk B0.out (by decide))
 have HK1 := hid (hf.own HK0.out (by decide))
 clear hc hf kk S0 F0 B0 HK0
 go_wp2_with fail
 obtain ⟨N, hN⟩ : ∃ N, (L ++ l : List InsM).length = N := ⟨_, rfl⟩
 have HN := hid hN
 refine (coputN_any S1.out hN ⟨17, 0, 0, []⟩ rfl rfl rfl rfl (by have := HLE.out.1; have := HLE.out.2; (try simp only [List.length_append, List.length_singleton]); omega)).mono ?_
 rintro en w2 ⟨rfl, hc, hf⟩
 have S2 := hid hc
 have F2 := hid (F1.out.tr hf)
 have B2 := hid (hf.blk B1.out (by decide))
 have HK2 := hid (hf.own HK1.out (by decide))
 clear hc hf  S1 F1 B1 HK1 hN
 obtain ⟨n0, n1, n2, n3, n4, m0, m1, m2, m3, m4, tlt⟩ := B2.out.fifth
 clear m0 m1 m2 m3 m4 tlt
 obtain ⟨kb', c', e, kk⟩ := rowGet (l := [u, v]) (by rw [HLL.out]; exact HK2.out) (j := 1) rfl
 injection e with e1 e2 e3
 injection e1 with e1
 injection e1 with e1
 subst e1
 clear e2 e3
 go_wp2_with fail
 refine (HIV.out cb _ (L ++ l ++ [⟨17, 0, 0, []⟩] : List InsM) S2.out (by have := HLE.out.1; (try simp only [List.length_append, List.length_singleton]); omega) (by have := HLE.out.2; omega)).mono ?_
 rintro en w3 ⟨rfl, hc, hf⟩
 have S3 := hid hc
 have F3 := hid (F2.out.tr hf)
 have B3 := hid (hf.blk B2.out (by decide))
 have HK3 := hid (hf.own HK2.out (by decide))
 clear hc hf n0 n1 n2 n3 n4 kk S2 F2 B2 HK2
 obtain ⟨n0, n1, n2, n3, n4, m0, m1, m2, m3, m4, tlt⟩ := B3.out.fifth
 clear m0 m1 m2 m3 m4 tlt
 go_wp2_with fail
 refine (coput_any S3.out ⟨16, (mk : Int), 0, []⟩ rfl rfl rfl rfl (by have := HLE.out.1; have := HLE.out.2; (try simp only [List.length_append, List.length_singleton]); omega)).mono ?_
 rintro en w4 ⟨rfl, hc, hf⟩
 have S4 := hid hc
 have F4 := hid (F3.out.tr hf)
 have B4 := hid (hf.blk B3.out (by decide))
 have HK4 := hid (hf.own HK3.out (by decide))
 clear hc hf n0 n1 n2 n3 n4 S3 F3 B3 HK3
 obtain ⟨n0, n1, n2, n3, n4, m0, m1, m2, m3, m4, tlt⟩ := B4.out.fifth
 clear m0 m1 m2 m3 m4 tlt
 go_wp2_with fail
 have hx := here_mid2 (l := L ++ l) (m := m ++ [⟨16, (mk : Int), 0, []⟩]) (o := 17) (a := at_ + l.length + 1 + m.length + 1) HN.out (by have := HLE.out.1; (try simp only [List.length_append, List.length_singleton]); omega)
 have S4' := hid (show Co g cb w4 (L ++ l ++ [⟨17, 0, 0, []⟩] ++ (m ++ [⟨16, (mk : Int), 0, []⟩])) from by have := S4.out; simpa only [List.append_assoc] using this)
 refine (cohere_any S4'.out (j := N) (by rw [← HN.out]; (try simp only [List.length_append, List.length_singleton]); omega) (by have := HLE.out.1; have := HLE.out.2; (try simp only [List.length_append, List.length_singleton]); omega)).mono ?_
 rintro en w5 ⟨rfl, hc, hf⟩
 rw [hx] at hc
 clear hx S4'
 have S5 := hid hc
 have F5 := hid (F4.out.tr hf)
 have B5 := hid (hf.blk B4.out (by decide))
 have HK5 := hid (hf.own HK4.out (by decide))
 clear hc hf n0 n1 n2 n3 n4 S4 F4 B4 HK4
 go_wp2_with fail
 have hfin := S5.out
 clear S5
 exact bodyPost_end (results_none rfl _ _ _) rfl ⟨rfl, by simpa only [List.append_assoc, Nat.add_assoc] using hfin, F5.out⟩
set_option maxHeartbeats 2000000 in
set_option maxRecDepth 100000 in
theorem cotests_if3 {at_ line n mk u v t : Nat} {nm : List UInt8} {l m o : List InsM} {cb : Nat} {w : World} {L : List InsM} {kv : Value} (h : Co g cb w L) (hk : Own w 3 1 kv ([u, v, t] : List Nat).length (ints [u, v, t])) (IU : CoOk 35 g u (at_) l) (IV : CoOk 11 g v (at_ + l.length + 1) m) (IT : CoOk 11 g t (at_ + l.length + 1 + m.length + 1) o) (hL : L.length = at_) (hl : at_ + l.length + 1 + m.length + 1 + o.length ≤ 3000) :
  Calls Tryd.prog 34 #[.pointer (some ⟨cb, 0, none⟩), .agg #[.int .i64 15, .int .i64 line, .int .i64 n, .string (bs nm), kv], .int .i64 (mk : Nat)] w fun en w' => en = .returned (.tuple #[]) ∧ Co g cb w' (L ++ (l ++ [⟨17, ((at_ + l.length + 1 + m.length + 1 : Nat) : Int), 0, []⟩] ++ (m ++ [⟨16, ((at_ + l.length + 1 + m.length + 1 + o.length : Nat) : Int), 0, []⟩]) ++ o : List InsM)) ∧ FrT cb coTs w w' := by
 obtain ⟨KA, KC, rfl, -, -⟩ := hk.cap
 have HIU := hid IU
 have HIV := hid IV
 have HIT := hid IT
 have HLE := hid (And.intro hL hl)
 have S := hid h
 have HK := hid hk
 clear h hk hL hl IU IV IT
 generalize hLL : ([u, v, t] : List Nat).length = LL at *
 have HLL := hid hLL
 clear hLL
 have B0 := hid (Blk.new w 49 #[.int .i64 15, .int .i64 line, .int .i64 n, .string (bs nm), .slice KA LL KC])
 have FA := hid (show Fr nob w (w.alloc (.cells #[.int .i64 15, .int .i64 line, .int .i64 n, .string (bs nm), .slice KA LL KC] 49)) from (Fr.refl _ w).alloc _)
 have S0 := hid (S.out.no FA.out)
 have HK0 := hid (HK.out.fr FA.out (fun _ _ x => x))
 have F0 := hid (FrT.no (B := cb) (ts := coTs) FA.out)
 clear S HK FA
 obtain ⟨kb, c', e, kk⟩ := rowGet (l := [u, v, t]) (by rw [HLL.out]; exact HK0.out) (j := 0) rfl
 injection e with e1 e2 e3
 subst e1
 clear e2 e3
 have l0 : (3 : Int) = (LL : Int) := by rw [← HLL.out]; rfl
 have l1 : (0 : Int) < (LL : Int) := by omega
 have l2 : (1 : Int) < (LL : Int) := by omega
 have l3 : (2 : Int) < (LL : Int) := by omega
 clear l0
 go_enter Tryd.func34, Tryd.ntmps34
 go_wp2_with fail
 refine (HIU.out cb _ (L : List InsM) S0.out (by have := HLE.out.1; (try simp only [List.length_append, List.length_singleton]); omega) (by have := HLE.out.2; omega)).mono ?_
 rintro en w1 ⟨rfl, hc, hf⟩
 have S1 := hid hc
 have F1 := hid (F0.out.tr hf)
 have B1 := hid (hf.blk B0.out (by decide))
 have HK1 := hid (hf.own HK0.out (by decide))
 clear hc hf kk S0 F0 B0 HK0
 go_wp2_with fail
 obtain ⟨N, hN⟩ : ∃ N, (L ++ l : List InsM).length = N := ⟨_, rfl⟩
 have HN := hid hN
 refine (coputN_any S1.out hN ⟨17, 0, 0, []⟩ rfl rfl rfl rfl (by have := HLE.out.1; have := HLE.out.2; (try simp only [List.length_append, List.length_singleton]); omega)).mono ?_
 rintro en w2 ⟨rfl, hc, hf⟩
 have S2 := hid hc
 have F2 := hid (F1.out.tr hf)
 have B2 := hid (hf.blk B1.out (by decide))
 have HK2 := hid (hf.own HK1.out (by decide))
 clear hc hf  S1 F1 B1 HK1 hN
 obtain ⟨n0, n1, n2, n3, n4, m0, m1, m2, m3, m4, tlt⟩ := B2.out.fifth
 clear m0 m1 m2 m3 m4 tlt
 obtain ⟨kb', c', e, kk⟩ := rowGet (l := [u, v, t]) (by rw [HLL.out]; exact HK2.out) (j := 1) rfl
 injection e with e1 e2 e3
 injection e1 with e1
 injection e1 with e1
 subst e1
 clear e2 e3
 go_wp2_with fail
 refine (HIV.out cb _ (L ++ l ++ [⟨17, 0, 0, []⟩] : List InsM) S2.out (by have := HLE.out.1; (try simp only [List.length_append, List.length_singleton]); omega) (by have := HLE.out.2; omega)).mono ?_
 rintro en w3 ⟨rfl, hc, hf⟩
 have S3 := hid hc
 have F3 := hid (F2.out.tr hf)
 have B3 := hid (hf.blk B2.out (by decide))
 have HK3 := hid (hf.own HK2.out (by decide))
 clear hc hf n0 n1 n2 n3 n4 kk S2 F2 B2 HK2
 obtain ⟨n0, n1, n2, n3, n4, m0, m1, m2, m3, m4, tlt⟩ := B3.out.fifth
 clear m0 m1 m2 m3 m4 tlt
 go_wp2_with fail
 obtain ⟨M, hM⟩ : ∃ N, (L ++ l ++ [⟨17, 0, 0, []⟩] ++ m : List InsM).length = N := ⟨_, rfl⟩
 have HM := hid hM
 refine (coputN_any S3.out hM ⟨16, 0, 0, []⟩ rfl rfl rfl rfl (by have := HLE.out.1; have := HLE.out.2; (try simp only [List.length_append, List.length_singleton]); omega)).mono ?_
 rintro en w4 ⟨rfl, hc, hf⟩
 have S4 := hid hc
 have F4 := hid (F3.out.tr hf)
 have B4 := hid (hf.blk B3.out (by decide))
 have HK4 := hid (hf.own HK3.out (by decide))
 clear hc hf n0 n1 n2 n3 n4 S3 F3 B3 HK3 hM
 obtain ⟨n0, n1, n2, n3, n4, m0, m1, m2, m3, m4, tlt⟩ := B4.out.fifth
 clear m0 m1 m2 m3 m4 tlt
 go_wp2_with fail
 have hx := here_mid2 (l := L ++ l) (m := m ++ [⟨16, 0, 0, []⟩]) (o := 17) (a := at_ + l.length + 1 + m.length + 1) HN.out (by have := HLE.out.1; (try simp only [List.length_append, List.length_singleton]); omega)
 have S4' := hid (show Co g cb w4 (L ++ l ++ [⟨17, 0, 0, []⟩] ++ (m ++ [⟨16, 0, 0, []⟩])) from by have := S4.out; simpa only [List.append_assoc] using this)
 refine (cohere_any S4'.out (j := N) (by rw [← HN.out]; (try simp only [List.length_append, List.length_singleton]); omega) (by have := HLE.out.1; have := HLE.out.2; (try simp only [List.length_append, List.length_singleton]); omega)).mono ?_
 rintro en w5 ⟨rfl, hc, hf⟩
 rw [hx] at hc
 clear hx S4'
 have S5 := hid hc
 have F5 := hid (F4.out.tr hf)
 have B5 := hid (hf.blk B4.out (by decide))
 have HK5 := hid (hf.own HK4.out (by decide))
 clear hc hf n0 n1 n2 n3 n4 S4 F4 B4 HK4
 obtain ⟨n0, n1, n2, n3, n4, m0, m1, m2, m3, m4, tlt⟩ := B5.out.fifth
 clear m0 m1 m2 m3 m4 tlt
 obtain ⟨kb', c', e, kk⟩ := rowGet (l := [u, v, t]) (by rw [HLL.out]; exact HK5.out) (j := 2) rfl
 injection e with e1 e2 e3
 injection e1 with e1
 injection e1 with e1
 subst e1
 clear e2 e3
 go_wp2_with fail
 refine (HIT.out cb _ (L ++ l ++ [⟨17, ((at_ + l.length + 1 + m.length + 1 : Nat) : Int), 0, []⟩] ++ (m ++ [⟨16, 0, 0, []⟩]) : List InsM) S5.out (by have := HLE.out.1; (try simp only [List.length_append, List.length_singleton]); omega) (by have := HLE.out.2; omega)).mono ?_
 rintro en w6 ⟨rfl, hc, hf⟩
 have S6 := hid hc
 have F6 := hid (F5.out.tr hf)
 have B6 := hid (hf.blk B5.out (by decide))
 have HK6 := hid (hf.own HK5.out (by decide))
 clear hc hf n0 n1 n2 n3 n4 kk S5 F5 B5 HK5
 obtain ⟨n0, n1, n2, n3, n4, m0, m1, m2, m3, m4, tlt⟩ := B6.out.fifth
 clear m0 m1 m2 m3 m4 tlt
 go_wp2_with fail
 have HM2 := hid (show (L ++ l ++ [(⟨17, ((at_ + l.length + 1 + m.length + 1 : Nat) : Int), 0, []⟩ : InsM)] ++ m).length = M from by rw [← HM.out]; simp only [List.length_append, List.length_singleton])
 have hx := here_mid2 (l := L ++ l ++ [⟨17, ((at_ + l.length + 1 + m.length + 1 : Nat) : Int), 0, []⟩] ++ m) (m := o) (o := 16) (a := at_ + l.length + 1 + m.length + 1 + o.length) HM2.out (by have := HLE.out.1; (try simp only [List.length_append, List.length_singleton]); omega)
 have S6' := hid (show Co g cb w6 (L ++ l ++ [⟨17, ((at_ + l.length + 1 + m.length + 1 : Nat) : Int), 0, []⟩] ++ m ++ [⟨16, 0, 0, []⟩] ++ (o)) from by have := S6.out; simpa only [List.append_assoc] using this)
 refine (cohere_any S6'.out (j := M) (by rw [← HM2.out]; (try simp only [List.length_append, List.length_singleton]); omega) (by have := HLE.out.1; have := HLE.out.2; (try simp only [List.length_append, List.length_singleton]); omega)).mono ?_
 rintro en w7 ⟨rfl, hc, hf⟩
 rw [hx] at hc
 clear hx S6'
 have S7 := hid hc
 have F7 := hid (F6.out.tr hf)
 have B7 := hid (hf.blk B6.out (by decide))
 have HK7 := hid (hf.own HK6.out (by decide))
 clear hc hf n0 n1 n2 n3 n4 S6 F6 B6 HK6
 go_wp2_with fail
 have hfin := S7.out
 clear S7
 exact bodyPost_ret (results_none rfl _ _ _) rfl ⟨rfl, by simpa only [List.append_assoc, Nat.add_assoc] using hfin, F7.out⟩
end
section
variable {g : PgV}
theorem tf4 (a b c d e : Value) (w : World) : (Instr.field 49 (.agg #[a, b, c, d, e]) 4).run Tryd.prog w = .ok e w := by kernel_rfl
set_option maxHeartbeats 2000000 in
set_option maxRecDepth 100000 in
theorem coblock_any {x at_ line : Nat} {ks : List Nat} {l : List InsM} (hx : g.p.ns[x]? = some ⟨18, line, 0, [], ks⟩) (hks : ks.length ≤ 300) (HR : CoRow 22 g ks at_ l) : CoOk 11 g x at_ l := by
 intro cb w L h hL hl
 obtain ⟨lv, hlv, HN0⟩ := conode_any h hx
 dsimp only at hlv HN0
 obtain ⟨KA, KC, rfl, -, -⟩ := hlv.cap
 have HN := hid HN0
 have HL0 := hid hlv
 have S0 := hid h
 have HRR := hid HR
 have HKS := hid hks
 have HLE := hid (And.intro hL hl)
 clear HN0 hlv h hL hx hl HR hks
 go_enter Tryd.func11, Tryd.ntmps11
 go_wp2_with fail
 refine HN.out.mono ?_
 rintro en w1 ⟨rfl, hf⟩
 have S1 := hid (S0.out.no hf)
 have HL1 := hid (HL0.out.fr hf (fun _ _ x => x))
 have F1 := hid (FrT.no (B := cb) (ts := coTs) hf)
 clear hf S0 HL0 HN
 have ff := tf4 (.int .i64 18) (.int .i64 line) (.int .i64 0) (.string (bs [])) (.slice KA ks.length KC)
 go_wp2_with fail
 refine (coeach_any enters_statement S1.out HL1.out HRR.out HLE.out.1 HLE.out.2 (by have := HKS.out; omega)).mono ?_
 rintro en w2 ⟨rfl, hc, hf⟩
 have S2 := hid hc
 have F2 := hid (F1.out.tr hf)
 clear hc hf S1 F1 HL1
 go_wp2_with fail
 exact bodyPost_end (results_none rfl _ _ _) rfl ⟨rfl, S2.out, F2.out⟩
set_option maxHeartbeats 2000000 in
set_option maxRecDepth 100000 in
theorem costm_let {x at_ line n : Nat} {nm : List UInt8} {ks : List Nat} {l : List InsM} (hx : g.p.ns[x]? = some ⟨10, line, n, nm, ks⟩) (hks : (ks : List Nat).length ≤ 300) (HR : CoRow 35 g ks (at_ + 1) l) {a : Int} (ha : slotP g.p x = a) : CoOk 22 g x at_ (⟨1, (x : Int), 0, []⟩ :: (l ++ [⟨6, a, 0, []⟩])) := by
 intro cb w L h hL hl
 obtain ⟨lv, hlv, HN0⟩ := conode_any h hx
 dsimp only at hlv HN0
 obtain ⟨KA, KC, rfl, -, -⟩ := hlv.cap
 have HN := hid HN0
 have HL0 := hid hlv
 have S0 := hid h
 have hxlt := (List.getElem?_eq_some_iff.1 hx).1
 have SL := hid (fun (w' : World) (h : PgAt g w') => h.slot hxlt)
 have HX := hid hx
 have HLE := hid (And.intro hL hl)
 have hx3 : (x : Int) < (g.p.ns.length : Int) := by omega
 have hx4 := h.pg.len
 have HRR := hid HR
 have HKS := hid hks
 clear HR hks
 clear HN0 hlv h hL hx hxlt hl
 generalize hLL : (ks : List Nat).length = LL at *
 have HLL := hid hLL
 clear hLL
 go_enter Tryd.func22, Tryd.ntmps22
 go_wp2_with fail
 refine HN.out.mono ?_
 rintro en w1 ⟨rfl, hf⟩
 have S1 := hid (S0.out.no hf)
 have HL1 := hid (HL0.out.fr hf (fun _ _ x => x))
 have F1 := hid (FrT.no (B := cb) (ts := coTs) hf)
 clear hf S0 HL0 HN
 go_wp2_with fail
 have FA := (Fr.refl nob w1).alloc (.cells #[.int .i64 10, .int .i64 line, .int .i64 n, .string (bs nm), .slice KA LL KC] 49)
 have B2 := hid (Blk.new w1 49 #[.int .i64 10, .int .i64 line, .int .i64 n, .string (bs nm), .slice KA LL KC])
 have S2 := hid (S1.out.no FA)
 have HK2 := hid (HL1.out.fr FA (fun _ _ x => x))
 have F2 := hid (F1.out.tr (FrT.no (B := cb) (ts := coTs) FA))
 clear FA S1 HL1 F1
 generalize w1.alloc (.cells #[.int .i64 10, .int .i64 line, .int .i64 n, .string (bs nm), .slice KA LL KC] 49) = w2 at *
 generalize w1.heap.size = T at *
 obtain ⟨N, hN⟩ : ∃ N, L.length = N := ⟨_, rfl⟩
 have HNN := hid hN
 refine (coputN_any S2.out hN ⟨1, (x : Int), 0, []⟩ rfl rfl rfl rfl (by have := HLE.out.1; have := HLE.out.2; omega)).mono ?_
 rintro en w3 ⟨rfl, hc, hf⟩
 have S3 := hid hc
 have F3 := hid (F2.out.tr hf)
 have B3 := hid (hf.blk B2.out (by decide))
 have HK3 := hid (hf.own HK2.out (by decide))
 clear hc hf S2 F2 B2 HK2 hN
 obtain ⟨n0, n1, n2, n3, n4, m0, m1, m2, m3, m4, tlt⟩ := B3.out.fifth
 clear m0 m1 m2 m3 m4 tlt
 go_wp2_with fail
 refine (coeach_any enters_expr S3.out (by rw [HLL.out]; exact HK3.out) HRR.out (by rw [List.length_append, List.length_singleton, HLE.out.1]) (by have := HLE.out.2; simp only [List.length_append, List.length_cons, List.length_nil, List.length_singleton] at this; omega) (by rw [HLL.out]; have := HKS.out; omega)).mono ?_
 rintro en w4 ⟨rfl, hc, hf⟩
 have S4 := hid hc
 have F4 := hid (F3.out.tr hf)
 have B4 := hid (hf.blk B3.out (by decide))
 clear hc hf n0 n1 n2 n3 n4 S3 F3 B3 HK3
 obtain ⟨n0, n1, n2, n3, n4, m0, m1, m2, m3, m4, tlt⟩ := B4.out.fifth
 clear m0 m1 m2 m3 m4 tlt
 obtain ⟨A, c, hb, -, -⟩ := S4.out.ex
 have c3 : w4.cell? ⟨cb, 3, none⟩ = some (.slice (some ⟨g.sb, 0, none⟩) g.p.ns.length g.sc) := (hb.cell 3).trans rfl
 have sl := SL.out _ S4.out.pg
 rw [ha] at sl
 clear hb
 go_wp2_with fail
 refine (coput_any S4.out ⟨6, a, 0, []⟩ rfl rfl rfl rfl (by have := HLE.out.1; have := HLE.out.2; (try simp only [List.length_append, List.length_cons, List.length_nil, List.length_singleton] at this ⊢); omega)).mono ?_
 rintro en w5 ⟨rfl, hc, hf⟩
 have S5 := hid hc
 have F5 := hid (F4.out.tr hf)
 clear hc hf n0 n1 n2 n3 n4 S4 F4 B4 c3 sl
 go_wp2_with fail
 have hfin := S5.out
 clear S5
 exact bodyPost_end (results_none rfl _ _ _) rfl ⟨rfl, by simpa only [List.append_assoc, List.singleton_append, List.cons_append, List.nil_append] using hfin, F5.out⟩
set_option maxHeartbeats 2000000 in
set_option maxRecDepth 100000 in
theorem costm_set {x at_ line n : Nat} {nm : List UInt8} {ks : List Nat} {l : List InsM} (hx : g.p.ns[x]? = some ⟨11, line, n, nm, ks⟩) (hks : (ks : List Nat).length ≤ 300) (HR : CoRow 35 g ks (at_ + 1) l) {a : Int} (ha : slotP g.p x = a) : CoOk 22 g x at_ (⟨1, (x : Int), 0, []⟩ :: (l ++ [⟨6, a, 0, []⟩])) := by
 intro cb w L h hL hl
 obtain ⟨lv, hlv, HN0⟩ := conode_any h hx
 dsimp only at hlv HN0
 obtain ⟨KA, KC, rfl, -, -⟩ := hlv.cap
 have HN := hid HN0
 have HL0 := hid hlv
 have S0 := hid h
 have hxlt := (List.getElem?_eq_some_iff.1 hx).1
 have SL := hid (fun (w' : World) (h : PgAt g w') => h.slot hxlt)
 have HX := hid hx
 have HLE := hid (And.intro hL hl)
 have hx3 : (x : Int) < (g.p.ns.length : Int) := by omega
 have hx4 := h.pg.len
 have HRR := hid HR
 have HKS := hid hks
 clear HR hks
 clear HN0 hlv h hL hx hxlt hl
 generalize hLL : (ks : List Nat).length = LL at *
 have HLL := hid hLL
 clear hLL
 go_enter Tryd.func22, Tryd.ntmps22
 go_wp2_with fail
 refine HN.out.mono ?_
 rintro en w1 ⟨rfl, hf⟩
 have S1 := hid (S0.out.no hf)
 have HL1 := hid (HL0.out.fr hf (fun _ _ x => x))
 have F1 := hid (FrT.no (B := cb) (ts := coTs) hf)
 clear hf S0 HL0 HN
 go_wp2_with fail
 have FA := (Fr.refl nob w1).alloc (.cells #[.int .i64 11, .int .i64 line, .int .i64 n, .string (bs nm), .slice KA LL KC] 49)
 have B2 := hid (Blk.new w1 49 #[.int .i64 11, .int .i64 line, .int .i64 n, .string (bs nm), .slice KA LL KC])
 have S2 := hid (S1.out.no FA)
 have HK2 := hid (HL1.out.fr FA (fun _ _ x => x))
 have F2 := hid (F1.out.tr (FrT.no (B := cb) (ts := coTs) FA))
 clear FA S1 HL1 F1
 generalize w1.alloc (.cells #[.int .i64 11, .int .i64 line, .int .i64 n, .string (bs nm), .slice KA LL KC] 49) = w2 at *
 generalize w1.heap.size = T at *
 obtain ⟨N, hN⟩ : ∃ N, L.length = N := ⟨_, rfl⟩
 have HNN := hid hN
 refine (coputN_any S2.out hN ⟨1, (x : Int), 0, []⟩ rfl rfl rfl rfl (by have := HLE.out.1; have := HLE.out.2; omega)).mono ?_
 rintro en w3 ⟨rfl, hc, hf⟩
 have S3 := hid hc
 have F3 := hid (F2.out.tr hf)
 have B3 := hid (hf.blk B2.out (by decide))
 have HK3 := hid (hf.own HK2.out (by decide))
 clear hc hf S2 F2 B2 HK2 hN
 obtain ⟨n0, n1, n2, n3, n4, m0, m1, m2, m3, m4, tlt⟩ := B3.out.fifth
 clear m0 m1 m2 m3 m4 tlt
 go_wp2_with fail
 refine (coeach_any enters_expr S3.out (by rw [HLL.out]; exact HK3.out) HRR.out (by rw [List.length_append, List.length_singleton, HLE.out.1]) (by have := HLE.out.2; simp only [List.length_append, List.length_cons, List.length_nil, List.length_singleton] at this; omega) (by rw [HLL.out]; have := HKS.out; omega)).mono ?_
 rintro en w4 ⟨rfl, hc, hf⟩
 have S4 := hid hc
 have F4 := hid (F3.out.tr hf)
 have B4 := hid (hf.blk B3.out (by decide))
 clear hc hf n0 n1 n2 n3 n4 S3 F3 B3 HK3
 obtain ⟨n0, n1, n2, n3, n4, m0, m1, m2, m3, m4, tlt⟩ := B4.out.fifth
 clear m0 m1 m2 m3 m4 tlt
 obtain ⟨A, c, hb, -, -⟩ := S4.out.ex
 have c3 : w4.cell? ⟨cb, 3, none⟩ = some (.slice (some ⟨g.sb, 0, none⟩) g.p.ns.length g.sc) := (hb.cell 3).trans rfl
 have sl := SL.out _ S4.out.pg
 rw [ha] at sl
 clear hb
 go_wp2_with fail
 refine (coput_any S4.out ⟨6, a, 0, []⟩ rfl rfl rfl rfl (by have := HLE.out.1; have := HLE.out.2; (try simp only [List.length_append, List.length_cons, List.length_nil, List.length_singleton] at this ⊢); omega)).mono ?_
 rintro en w5 ⟨rfl, hc, hf⟩
 have S5 := hid hc
 have F5 := hid (F4.out.tr hf)
 clear hc hf n0 n1 n2 n3 n4 S4 F4 B4 c3 sl
 go_wp2_with fail
 have hfin := S5.out
 clear S5
 exact bodyPost_end (results_none rfl _ _ _) rfl ⟨rfl, by simpa only [List.append_assoc, List.singleton_append, List.cons_append, List.nil_append] using hfin, F5.out⟩
set_option maxHeartbeats 2000000 in
set_option maxRecDepth 100000 in
theorem costm_put {x at_ line n : Nat} {nm : List UInt8} {ks : List Nat} {l : List InsM} (hx : g.p.ns[x]? = some ⟨12, line, n, nm, ks⟩) (hks : (ks : List Nat).length ≤ 300) (HR : CoRow 35 g ks (at_ + 1) l) {a : Int} (ha : slotP g.p x = a) : CoOk 22 g x at_ (⟨1, (x : Int), 0, []⟩ :: (l ++ [⟨12, a, 0, []⟩])) := by
 intro cb w L h hL hl
 obtain ⟨lv, hlv, HN0⟩ := conode_any h hx
 dsimp only at hlv HN0
 obtain ⟨KA, KC, rfl, -, -⟩ := hlv.cap
 have HN := hid HN0
 have HL0 := hid hlv
 have S0 := hid h
 have hxlt := (List.getElem?_eq_some_iff.1 hx).1
 have SL := hid (fun (w' : World) (h : PgAt g w') => h.slot hxlt)
 have HX := hid hx
 have HLE := hid (And.intro hL hl)
 have hx3 : (x : Int) < (g.p.ns.length : Int) := by omega
 have hx4 := h.pg.len
 have HRR := hid HR
 have HKS := hid hks
 clear HR hks
 clear HN0 hlv h hL hx hxlt hl
 generalize hLL : (ks : List Nat).length = LL at *
 have HLL := hid hLL
 clear hLL
 go_enter Tryd.func22, Tryd.ntmps22
 go_wp2_with fail
 refine HN.out.mono ?_
 rintro en w1 ⟨rfl, hf⟩
 have S1 := hid (S0.out.no hf)
 have HL1 := hid (HL0.out.fr hf (fun _ _ x => x))
 have F1 := hid (FrT.no (B := cb) (ts := coTs) hf)
 clear hf S0 HL0 HN
 go_wp2_with fail
 have FA := (Fr.refl nob w1).alloc (.cells #[.int .i64 12, .int .i64 line, .int .i64 n, .string (bs nm), .slice KA LL KC] 49)
 have B2 := hid (Blk.new w1 49 #[.int .i64 12, .int .i64 line, .int .i64 n, .string (bs nm), .slice KA LL KC])
 have S2 := hid (S1.out.no FA)
 have HK2 := hid (HL1.out.fr FA (fun _ _ x => x))
 have F2 := hid (F1.out.tr (FrT.no (B := cb) (ts := coTs) FA))
 clear FA S1 HL1 F1
 generalize w1.alloc (.cells #[.int .i64 12, .int .i64 line, .int .i64 n, .string (bs nm), .slice KA LL KC] 49) = w2 at *
 generalize w1.heap.size = T at *
 obtain ⟨N, hN⟩ : ∃ N, L.length = N := ⟨_, rfl⟩
 have HNN := hid hN
 refine (coputN_any S2.out hN ⟨1, (x : Int), 0, []⟩ rfl rfl rfl rfl (by have := HLE.out.1; have := HLE.out.2; omega)).mono ?_
 rintro en w3 ⟨rfl, hc, hf⟩
 have S3 := hid hc
 have F3 := hid (F2.out.tr hf)
 have B3 := hid (hf.blk B2.out (by decide))
 have HK3 := hid (hf.own HK2.out (by decide))
 clear hc hf S2 F2 B2 HK2 hN
 obtain ⟨n0, n1, n2, n3, n4, m0, m1, m2, m3, m4, tlt⟩ := B3.out.fifth
 clear m0 m1 m2 m3 m4 tlt
 go_wp2_with fail
 refine (coeach_any enters_expr S3.out (by rw [HLL.out]; exact HK3.out) HRR.out (by rw [List.length_append, List.length_singleton, HLE.out.1]) (by have := HLE.out.2; simp only [List.length_append, List.length_cons, List.length_nil, List.length_singleton] at this; omega) (by rw [HLL.out]; have := HKS.out; omega)).mono ?_
 rintro en w4 ⟨rfl, hc, hf⟩
 have S4 := hid hc
 have F4 := hid (F3.out.tr hf)
 have B4 := hid (hf.blk B3.out (by decide))
 clear hc hf n0 n1 n2 n3 n4 S3 F3 B3 HK3
 obtain ⟨n0, n1, n2, n3, n4, m0, m1, m2, m3, m4, tlt⟩ := B4.out.fifth
 clear m0 m1 m2 m3 m4 tlt
 obtain ⟨A, c, hb, -, -⟩ := S4.out.ex
 have c3 : w4.cell? ⟨cb, 3, none⟩ = some (.slice (some ⟨g.sb, 0, none⟩) g.p.ns.length g.sc) := (hb.cell 3).trans rfl
 have sl := SL.out _ S4.out.pg
 rw [ha] at sl
 clear hb
 go_wp2_with fail
 refine (coput_any S4.out ⟨12, a, 0, []⟩ rfl rfl rfl rfl (by have := HLE.out.1; have := HLE.out.2; (try simp only [List.length_append, List.length_cons, List.length_nil, List.length_singleton] at this ⊢); omega)).mono ?_
 rintro en w5 ⟨rfl, hc, hf⟩
 have S5 := hid hc
 have F5 := hid (F4.out.tr hf)
 clear hc hf n0 n1 n2 n3 n4 S4 F4 B4 c3 sl
 go_wp2_with fail
 have hfin := S5.out
 clear S5
 exact bodyPost_end (results_none rfl _ _ _) rfl ⟨rfl, by simpa only [List.append_assoc, List.singleton_append, List.cons_append, List.nil_append] using hfin, F5.out⟩
set_option maxHeartbeats 2000000 in
set_option maxRecDepth 100000 in
theorem costm_do {x at_ line n : Nat} {nm : List UInt8} {ks : List Nat} {l : List InsM} (hx : g.p.ns[x]? = some ⟨13, line, n, nm, ks⟩) (hks : (ks : List Nat).length ≤ 300) (HR : CoRow 35 g ks (at_ + 1) l) : CoOk 22 g x at_ (⟨1, (x : Int), 0, []⟩ :: (l ++ [⟨23, 0, 0, []⟩])) := by
 intro cb w L h hL hl
 obtain ⟨lv, hlv, HN0⟩ := conode_any h hx
 dsimp only at hlv HN0
 obtain ⟨KA, KC, rfl, -, -⟩ := hlv.cap
 have HN := hid HN0
 have HL0 := hid hlv
 have S0 := hid h
 have hxlt := (List.getElem?_eq_some_iff.1 hx).1
 have SL := hid (fun (w' : World) (h : PgAt g w') => h.slot hxlt)
 have HX := hid hx
 have HLE := hid (And.intro hL hl)
 have hx3 : (x : Int) < (g.p.ns.length : Int) := by omega
 have hx4 := h.pg.len
 have HRR := hid HR
 have HKS := hid hks
 clear HR hks
 clear HN0 hlv h hL hx hxlt hl
 generalize hLL : (ks : List Nat).length = LL at *
 have HLL := hid hLL
 clear hLL
 go_enter Tryd.func22, Tryd.ntmps22
 go_wp2_with fail
 refine HN.out.mono ?_
 rintro en w1 ⟨rfl, hf⟩
 have S1 := hid (S0.out.no hf)
 have HL1 := hid (HL0.out.fr hf (fun _ _ x => x))
 have F1 := hid (FrT.no (B := cb) (ts := coTs) hf)
 clear hf S0 HL0 HN
 go_wp2_with fail
 have FA := (Fr.refl nob w1).alloc (.cells #[.int .i64 13, .int .i64 line, .int .i64 n, .string (bs nm), .slice KA LL KC] 49)
 have B2 := hid (Blk.new w1 49 #[.int .i64 13, .int .i64 line, .int .i64 n, .string (bs nm), .slice KA LL KC])
 have S2 := hid (S1.out.no FA)
 have HK2 := hid (HL1.out.fr FA (fun _ _ x => x))
 have F2 := hid (F1.out.tr (FrT.no (B := cb) (ts := coTs) FA))
 clear FA S1 HL1 F1
 generalize w1.alloc (.cells #[.int .i64 13, .int .i64 line, .int .i64 n, .string (bs nm), .slice KA LL KC] 49) = w2 at *
 generalize w1.heap.size = T at *
 obtain ⟨N, hN⟩ : ∃ N, L.length = N := ⟨_, rfl⟩
 have HNN := hid hN
 refine (coputN_any S2.out hN ⟨1, (x : Int), 0, []⟩ rfl rfl rfl rfl (by have := HLE.out.1; have := HLE.out.2; omega)).mono ?_
 rintro en w3 ⟨rfl, hc, hf⟩
 have S3 := hid hc
 have F3 := hid (F2.out.tr hf)
 have B3 := hid (hf.blk B2.out (by decide))
 have HK3 := hid (hf.own HK2.out (by decide))
 clear hc hf S2 F2 B2 HK2 hN
 obtain ⟨n0, n1, n2, n3, n4, m0, m1, m2, m3, m4, tlt⟩ := B3.out.fifth
 clear m0 m1 m2 m3 m4 tlt
 go_wp2_with fail
 refine (coeach_any enters_expr S3.out (by rw [HLL.out]; exact HK3.out) HRR.out (by rw [List.length_append, List.length_singleton, HLE.out.1]) (by have := HLE.out.2; simp only [List.length_append, List.length_cons, List.length_nil, List.length_singleton] at this; omega) (by rw [HLL.out]; have := HKS.out; omega)).mono ?_
 rintro en w4 ⟨rfl, hc, hf⟩
 have S4 := hid hc
 have F4 := hid (F3.out.tr hf)
 have B4 := hid (hf.blk B3.out (by decide))
 clear hc hf n0 n1 n2 n3 n4 S3 F3 B3 HK3
 obtain ⟨n0, n1, n2, n3, n4, m0, m1, m2, m3, m4, tlt⟩ := B4.out.fifth
 clear m0 m1 m2 m3 m4 tlt
 go_wp2_with fail
 refine (coput_any S4.out ⟨23, 0, 0, []⟩ rfl rfl rfl rfl (by have := HLE.out.1; have := HLE.out.2; (try simp only [List.length_append, List.length_cons, List.length_nil, List.length_singleton] at this ⊢); omega)).mono ?_
 rintro en w5 ⟨rfl, hc, hf⟩
 have S5 := hid hc
 have F5 := hid (F4.out.tr hf)
 clear hc hf n0 n1 n2 n3 n4 S4 F4 B4
 go_wp2_with fail
 have hfin := S5.out
 clear S5
 exact bodyPost_end (results_none rfl _ _ _) rfl ⟨rfl, by simpa only [List.append_assoc, List.singleton_append, List.cons_append, List.nil_append] using hfin, F5.out⟩
set_option maxHeartbeats 2000000 in
set_option maxRecDepth 100000 in
theorem costm_print {x at_ line n : Nat} {nm : List UInt8} {ks : List Nat} {l : List InsM} (hx : g.p.ns[x]? = some ⟨14, line, n, nm, ks⟩) (hks : (ks : List Nat).length ≤ 300) (HR : CoRow 35 g ks (at_ + 1) l) : CoOk 22 g x at_ (⟨1, (x : Int), 0, []⟩ :: (l ++ [⟨15, 0, 0, []⟩])) := by
 intro cb w L h hL hl
 obtain ⟨lv, hlv, HN0⟩ := conode_any h hx
 dsimp only at hlv HN0
 obtain ⟨KA, KC, rfl, -, -⟩ := hlv.cap
 have HN := hid HN0
 have HL0 := hid hlv
 have S0 := hid h
 have hxlt := (List.getElem?_eq_some_iff.1 hx).1
 have SL := hid (fun (w' : World) (h : PgAt g w') => h.slot hxlt)
 have HX := hid hx
 have HLE := hid (And.intro hL hl)
 have hx3 : (x : Int) < (g.p.ns.length : Int) := by omega
 have hx4 := h.pg.len
 have HRR := hid HR
 have HKS := hid hks
 clear HR hks
 clear HN0 hlv h hL hx hxlt hl
 generalize hLL : (ks : List Nat).length = LL at *
 have HLL := hid hLL
 clear hLL
 go_enter Tryd.func22, Tryd.ntmps22
 go_wp2_with fail
 refine HN.out.mono ?_
 rintro en w1 ⟨rfl, hf⟩
 have S1 := hid (S0.out.no hf)
 have HL1 := hid (HL0.out.fr hf (fun _ _ x => x))
 have F1 := hid (FrT.no (B := cb) (ts := coTs) hf)
 clear hf S0 HL0 HN
 go_wp2_with fail
 have FA := (Fr.refl nob w1).alloc (.cells #[.int .i64 14, .int .i64 line, .int .i64 n, .string (bs nm), .slice KA LL KC] 49)
 have B2 := hid (Blk.new w1 49 #[.int .i64 14, .int .i64 line, .int .i64 n, .string (bs nm), .slice KA LL KC])
 have S2 := hid (S1.out.no FA)
 have HK2 := hid (HL1.out.fr FA (fun _ _ x => x))
 have F2 := hid (F1.out.tr (FrT.no (B := cb) (ts := coTs) FA))
 clear FA S1 HL1 F1
 generalize w1.alloc (.cells #[.int .i64 14, .int .i64 line, .int .i64 n, .string (bs nm), .slice KA LL KC] 49) = w2 at *
 generalize w1.heap.size = T at *
 obtain ⟨N, hN⟩ : ∃ N, L.length = N := ⟨_, rfl⟩
 have HNN := hid hN
 refine (coputN_any S2.out hN ⟨1, (x : Int), 0, []⟩ rfl rfl rfl rfl (by have := HLE.out.1; have := HLE.out.2; omega)).mono ?_
 rintro en w3 ⟨rfl, hc, hf⟩
 have S3 := hid hc
 have F3 := hid (F2.out.tr hf)
 have B3 := hid (hf.blk B2.out (by decide))
 have HK3 := hid (hf.own HK2.out (by decide))
 clear hc hf S2 F2 B2 HK2 hN
 obtain ⟨n0, n1, n2, n3, n4, m0, m1, m2, m3, m4, tlt⟩ := B3.out.fifth
 clear m0 m1 m2 m3 m4 tlt
 go_wp2_with fail
 refine (coeach_any enters_expr S3.out (by rw [HLL.out]; exact HK3.out) HRR.out (by rw [List.length_append, List.length_singleton, HLE.out.1]) (by have := HLE.out.2; simp only [List.length_append, List.length_cons, List.length_nil, List.length_singleton] at this; omega) (by rw [HLL.out]; have := HKS.out; omega)).mono ?_
 rintro en w4 ⟨rfl, hc, hf⟩
 have S4 := hid hc
 have F4 := hid (F3.out.tr hf)
 have B4 := hid (hf.blk B3.out (by decide))
 clear hc hf n0 n1 n2 n3 n4 S3 F3 B3 HK3
 obtain ⟨n0, n1, n2, n3, n4, m0, m1, m2, m3, m4, tlt⟩ := B4.out.fifth
 clear m0 m1 m2 m3 m4 tlt
 go_wp2_with fail
 refine (coput_any S4.out ⟨15, 0, 0, []⟩ rfl rfl rfl rfl (by have := HLE.out.1; have := HLE.out.2; (try simp only [List.length_append, List.length_cons, List.length_nil, List.length_singleton] at this ⊢); omega)).mono ?_
 rintro en w5 ⟨rfl, hc, hf⟩
 have S5 := hid hc
 have F5 := hid (F4.out.tr hf)
 clear hc hf n0 n1 n2 n3 n4 S4 F4 B4
 go_wp2_with fail
 have hfin := S5.out
 clear S5
 exact bodyPost_end (results_none rfl _ _ _) rfl ⟨rfl, by simpa only [List.append_assoc, List.singleton_append, List.cons_append, List.nil_append] using hfin, F5.out⟩
set_option maxHeartbeats 2000000 in
set_option maxRecDepth 100000 in
theorem costm_ret0 {x at_ line n : Nat} {nm : List UInt8} {ks : List Nat} {l : List InsM} (hx : g.p.ns[x]? = some ⟨17, line, n, nm, []⟩) (hks : ([] : List Nat).length ≤ 300) (HR : CoRow 35 g [] (at_ + 1) l) : CoOk 22 g x at_ (⟨1, (x : Int), 0, []⟩ :: (l ++ [⟨22, 0, 0, []⟩])) := by
 intro cb w L h hL hl
 obtain ⟨lv, hlv, HN0⟩ := conode_any h hx
 dsimp only at hlv HN0
 obtain ⟨KA, KC, rfl, -, -⟩ := hlv.cap
 have HN := hid HN0
 have HL0 := hid hlv
 have S0 := hid h
 have hxlt := (List.getElem?_eq_some_iff.1 hx).1
 have SL := hid (fun (w' : World) (h : PgAt g w') => h.slot hxlt)
 have HX := hid hx
 have HLE := hid (And.intro hL hl)
 have hx3 : (x : Int) < (g.p.ns.length : Int) := by omega
 have hx4 := h.pg.len
 have HRR := hid HR
 have HKS := hid hks
 clear HR hks
 have hcnt : (([] : List Nat).length : Int) = 0 := rfl
 have hc2 : ¬ (0 : Int) < (([] : List Nat).length : Int) := by omega
 clear hcnt
 clear HN0 hlv h hL hx hxlt hl
 generalize hLL : ([] : List Nat).length = LL at *
 have HLL := hid hLL
 clear hLL
 go_enter Tryd.func22, Tryd.ntmps22
 go_wp2_with fail
 refine HN.out.mono ?_
 rintro en w1 ⟨rfl, hf⟩
 have S1 := hid (S0.out.no hf)
 have HL1 := hid (HL0.out.fr hf (fun _ _ x => x))
 have F1 := hid (FrT.no (B := cb) (ts := coTs) hf)
 clear hf S0 HL0 HN
 go_wp2_with fail
 have FA := (Fr.refl nob w1).alloc (.cells #[.int .i64 17, .int .i64 line, .int .i64 n, .string (bs nm), .slice KA LL KC] 49)
 have B2 := hid (Blk.new w1 49 #[.int .i64 17, .int .i64 line, .int .i64 n, .string (bs nm), .slice KA LL KC])
 have S2 := hid (S1.out.no FA)
 have HK2 := hid (HL1.out.fr FA (fun _ _ x => x))
 have F2 := hid (F1.out.tr (FrT.no (B := cb) (ts := coTs) FA))
 clear FA S1 HL1 F1
 generalize w1.alloc (.cells #[.int .i64 17, .int .i64 line, .int .i64 n, .string (bs nm), .slice KA LL KC] 49) = w2 at *
 generalize w1.heap.size = T at *
 obtain ⟨N, hN⟩ : ∃ N, L.length = N := ⟨_, rfl⟩
 have HNN := hid hN
 refine (coputN_any S2.out hN ⟨1, (x : Int), 0, []⟩ rfl rfl rfl rfl (by have := HLE.out.1; have := HLE.out.2; omega)).mono ?_
 rintro en w3 ⟨rfl, hc, hf⟩
 have S3 := hid hc
 have F3 := hid (F2.out.tr hf)
 have B3 := hid (hf.blk B2.out (by decide))
 have HK3 := hid (hf.own HK2.out (by decide))
 clear hc hf S2 F2 B2 HK2 hN
 obtain ⟨n0, n1, n2, n3, n4, m0, m1, m2, m3, m4, tlt⟩ := B3.out.fifth
 clear m0 m1 m2 m3 m4 tlt
 go_wp2_with fail
 refine (coeach_any enters_expr S3.out (by rw [HLL.out]; exact HK3.out) HRR.out (by rw [List.length_append, List.length_singleton, HLE.out.1]) (by have := HLE.out.2; simp only [List.length_append, List.length_cons, List.length_nil, List.length_singleton] at this; omega) (by rw [HLL.out]; have := HKS.out; omega)).mono ?_
 rintro en w4 ⟨rfl, hc, hf⟩
 have S4 := hid hc
 have F4 := hid (F3.out.tr hf)
 have B4 := hid (hf.blk B3.out (by decide))
 clear hc hf n0 n1 n2 n3 n4 S3 F3 B3 HK3
 obtain ⟨n0, n1, n2, n3, n4, m0, m1, m2, m3, m4, tlt⟩ := B4.out.fifth
 clear m0 m1 m2 m3 m4 tlt
 go_wp2_with fail
 refine (coput_any S4.out ⟨22, 0, 0, []⟩ rfl rfl rfl rfl (by have := HLE.out.1; have := HLE.out.2; (try simp only [List.length_append, List.length_cons, List.length_nil, List.length_singleton] at this ⊢); omega)).mono ?_
 rintro en w5 ⟨rfl, hc, hf⟩
 have S5 := hid hc
 have F5 := hid (F4.out.tr hf)
 clear hc hf n0 n1 n2 n3 n4 S4 F4 B4
 go_wp2_with fail
 have hfin := S5.out
 clear S5
 exact bodyPost_end (results_none rfl _ _ _) rfl ⟨rfl, by simpa only [List.append_assoc, List.singleton_append, List.cons_append, List.nil_append] using hfin, F5.out⟩
set_option maxHeartbeats 2000000 in
set_option maxRecDepth 100000 in
theorem costm_ret1 {x at_ line n : Nat} {nm : List UInt8} {ks : List Nat} {u : Nat} {l : List InsM} (hx : g.p.ns[x]? = some ⟨17, line, n, nm, [u]⟩) (hks : ([u] : List Nat).length ≤ 300) (HR : CoRow 35 g [u] (at_ + 1) l) : CoOk 22 g x at_ (⟨1, (x : Int), 0, []⟩ :: (l ++ [⟨21, 0, 0, []⟩])) := by
 intro cb w L h hL hl
 obtain ⟨lv, hlv, HN0⟩ := conode_any h hx
 dsimp only at hlv HN0
 obtain ⟨KA, KC, rfl, -, -⟩ := hlv.cap
 have HN := hid HN0
 have HL0 := hid hlv
 have S0 := hid h
 have hxlt := (List.getElem?_eq_some_iff.1 hx).1
 have SL := hid (fun (w' : World) (h : PgAt g w') => h.slot hxlt)
 have HX := hid hx
 have HLE := hid (And.intro hL hl)
 have hx3 : (x : Int) < (g.p.ns.length : Int) := by omega
 have hx4 := h.pg.len
 have HRR := hid HR
 have HKS := hid hks
 clear HR hks
 have hcnt : (([u] : List Nat).length : Int) = 1 := rfl
 have hc2 : (0 : Int) < (([u] : List Nat).length : Int) := by omega
 clear hcnt
 clear HN0 hlv h hL hx hxlt hl
 generalize hLL : ([u] : List Nat).length = LL at *
 have HLL := hid hLL
 clear hLL
 go_enter Tryd.func22, Tryd.ntmps22
 go_wp2_with fail
 refine HN.out.mono ?_
 rintro en w1 ⟨rfl, hf⟩
 have S1 := hid (S0.out.no hf)
 have HL1 := hid (HL0.out.fr hf (fun _ _ x => x))
 have F1 := hid (FrT.no (B := cb) (ts := coTs) hf)
 clear hf S0 HL0 HN
 go_wp2_with fail
 have FA := (Fr.refl nob w1).alloc (.cells #[.int .i64 17, .int .i64 line, .int .i64 n, .string (bs nm), .slice KA LL KC] 49)
 have B2 := hid (Blk.new w1 49 #[.int .i64 17, .int .i64 line, .int .i64 n, .string (bs nm), .slice KA LL KC])
 have S2 := hid (S1.out.no FA)
 have HK2 := hid (HL1.out.fr FA (fun _ _ x => x))
 have F2 := hid (F1.out.tr (FrT.no (B := cb) (ts := coTs) FA))
 clear FA S1 HL1 F1
 generalize w1.alloc (.cells #[.int .i64 17, .int .i64 line, .int .i64 n, .string (bs nm), .slice KA LL KC] 49) = w2 at *
 generalize w1.heap.size = T at *
 obtain ⟨N, hN⟩ : ∃ N, L.length = N := ⟨_, rfl⟩
 have HNN := hid hN
 refine (coputN_any S2.out hN ⟨1, (x : Int), 0, []⟩ rfl rfl rfl rfl (by have := HLE.out.1; have := HLE.out.2; omega)).mono ?_
 rintro en w3 ⟨rfl, hc, hf⟩
 have S3 := hid hc
 have F3 := hid (F2.out.tr hf)
 have B3 := hid (hf.blk B2.out (by decide))
 have HK3 := hid (hf.own HK2.out (by decide))
 clear hc hf S2 F2 B2 HK2 hN
 obtain ⟨n0, n1, n2, n3, n4, m0, m1, m2, m3, m4, tlt⟩ := B3.out.fifth
 clear m0 m1 m2 m3 m4 tlt
 go_wp2_with fail
 refine (coeach_any enters_expr S3.out (by rw [HLL.out]; exact HK3.out) HRR.out (by rw [List.length_append, List.length_singleton, HLE.out.1]) (by have := HLE.out.2; simp only [List.length_append, List.length_cons, List.length_nil, List.length_singleton] at this; omega) (by rw [HLL.out]; have := HKS.out; omega)).mono ?_
 rintro en w4 ⟨rfl, hc, hf⟩
 have S4 := hid hc
 have F4 := hid (F3.out.tr hf)
 have B4 := hid (hf.blk B3.out (by decide))
 clear hc hf n0 n1 n2 n3 n4 S3 F3 B3 HK3
 obtain ⟨n0, n1, n2, n3, n4, m0, m1, m2, m3, m4, tlt⟩ := B4.out.fifth
 clear m0 m1 m2 m3 m4 tlt
 go_wp2_with fail
 refine (coput_any S4.out ⟨21, 0, 0, []⟩ rfl rfl rfl rfl (by have := HLE.out.1; have := HLE.out.2; (try simp only [List.length_append, List.length_cons, List.length_nil, List.length_singleton] at this ⊢); omega)).mono ?_
 rintro en w5 ⟨rfl, hc, hf⟩
 have S5 := hid hc
 have F5 := hid (F4.out.tr hf)
 clear hc hf n0 n1 n2 n3 n4 S4 F4 B4
 go_wp2_with fail
 have hfin := S5.out
 clear S5
 exact bodyPost_end (results_none rfl _ _ _) rfl ⟨rfl, by simpa only [List.append_assoc, List.singleton_append, List.cons_append, List.nil_append] using hfin, F5.out⟩
set_option maxHeartbeats 2000000 in
set_option maxRecDepth 100000 in
theorem costm_if {x at_ line n : Nat} {nm : List UInt8} {ks : List Nat} {l : List InsM} (hx : g.p.ns[x]? = some ⟨15, line, n, nm, ks⟩) (HC : ∀ (cb mk : Nat) (w : World) (L : List InsM) (kv : Value), mk = at_ → Co g cb w L → Own w 3 1 kv (ks : List Nat).length (ints ks) → L.length = at_ + 1 → at_ + 1 + l.length ≤ 3000 → Calls Tryd.prog 34 #[.pointer (some ⟨cb, 0, none⟩), .agg #[.int .i64 15, .int .i64 line, .int .i64 n, .string (bs nm), kv], .int .i64 (mk : Nat)] w fun en w' => en = .returned (.tuple #[]) ∧ Co g cb w' (L ++ l) ∧ FrT cb coTs w w') : CoOk 22 g x at_ (⟨1, (x : Int), 0, []⟩ :: l) := by
 intro cb w L h hL hl
 obtain ⟨lv, hlv, HN0⟩ := conode_any h hx
 dsimp only at hlv HN0
 obtain ⟨KA, KC, rfl, -, -⟩ := hlv.cap
 have HN := hid HN0
 have HL0 := hid hlv
 have S0 := hid h
 have hxlt := (List.getElem?_eq_some_iff.1 hx).1
 have SL := hid (fun (w' : World) (h : PgAt g w') => h.slot hxlt)
 have HX := hid hx
 have HLE := hid (And.intro hL hl)
 have hx3 : (x : Int) < (g.p.ns.length : Int) := by omega
 have hx4 := h.pg.len
 have HCC := hid HC
 clear HC
 clear HN0 hlv h hL hx hxlt hl
 generalize hLL : (ks : List Nat).length = LL at *
 have HLL := hid hLL
 clear hLL
 go_enter Tryd.func22, Tryd.ntmps22
 go_wp2_with fail
 refine HN.out.mono ?_
 rintro en w1 ⟨rfl, hf⟩
 have S1 := hid (S0.out.no hf)
 have HL1 := hid (HL0.out.fr hf (fun _ _ x => x))
 have F1 := hid (FrT.no (B := cb) (ts := coTs) hf)
 clear hf S0 HL0 HN
 go_wp2_with fail
 have FA := (Fr.refl nob w1).alloc (.cells #[.int .i64 15, .int .i64 line, .int .i64 n, .string (bs nm), .slice KA LL KC] 49)
 have B2 := hid (Blk.new w1 49 #[.int .i64 15, .int .i64 line, .int .i64 n, .string (bs nm), .slice KA LL KC])
 have S2 := hid (S1.out.no FA)
 have HK2 := hid (HL1.out.fr FA (fun _ _ x => x))
 have F2 := hid (F1.out.tr (FrT.no (B := cb) (ts := coTs) FA))
 clear FA S1 HL1 F1
 generalize w1.alloc (.cells #[.int .i64 15, .int .i64 line, .int .i64 n, .string (bs nm), .slice KA LL KC] 49) = w2 at *
 generalize w1.heap.size = T at *
 obtain ⟨N, hN⟩ : ∃ N, L.length = N := ⟨_, rfl⟩
 have HNN := hid hN
 refine (coputN_any S2.out hN ⟨1, (x : Int), 0, []⟩ rfl rfl rfl rfl (by have := HLE.out.1; have := HLE.out.2; omega)).mono ?_
 rintro en w3 ⟨rfl, hc, hf⟩
 have S3 := hid hc
 have F3 := hid (F2.out.tr hf)
 have B3 := hid (hf.blk B2.out (by decide))
 have HK3 := hid (hf.own HK2.out (by decide))
 clear hc hf S2 F2 B2 HK2 hN
 obtain ⟨n0, n1, n2, n3, n4, m0, m1, m2, m3, m4, tlt⟩ := B3.out.fifth
 clear m0 m1 m2 m3 m4 tlt
 go_wp2_with fail
 refine (HCC.out cb N w3 _ _ (by rw [← HNN.out]; exact HLE.out.1) S3.out HK3.out (by rw [List.length_append, List.length_singleton, HLE.out.1]) (by have := HLE.out.2; simp only [List.length_cons] at this; omega)).mono ?_
 rintro en w4 ⟨rfl, hc, hf⟩
 have S4 := hid hc
 have F4 := hid (F3.out.tr hf)
 clear hc hf n0 n1 n2 n3 n4 S3 F3 B3 HK3
 go_wp2_with fail
 have hfin := S4.out
 clear S4
 exact bodyPost_ret (results_none rfl _ _ _) rfl ⟨rfl, by simpa only [List.append_assoc, List.singleton_append, List.cons_append, List.nil_append] using hfin, F4.out⟩
set_option maxHeartbeats 2000000 in
set_option maxRecDepth 100000 in
theorem costm_while {x at_ line n : Nat} {nm : List UInt8} {ks : List Nat} {l : List InsM} (hx : g.p.ns[x]? = some ⟨16, line, n, nm, ks⟩) (HC : ∀ (cb mk : Nat) (w : World) (L : List InsM) (kv : Value), mk = at_ → Co g cb w L → Own w 3 1 kv (ks : List Nat).length (ints ks) → L.length = at_ + 1 → at_ + 1 + l.length ≤ 3000 → Calls Tryd.prog 34 #[.pointer (some ⟨cb, 0, none⟩), .agg #[.int .i64 16, .int .i64 line, .int .i64 n, .string (bs nm), kv], .int .i64 (mk : Nat)] w fun en w' => en = .returned (.tuple #[]) ∧ Co g cb w' (L ++ l) ∧ FrT cb coTs w w') : CoOk 22 g x at_ (⟨1, (x : Int), 0, []⟩ :: l) := by
 intro cb w L h hL hl
 obtain ⟨lv, hlv, HN0⟩ := conode_any h hx
 dsimp only at hlv HN0
 obtain ⟨KA, KC, rfl, -, -⟩ := hlv.cap
 have HN := hid HN0
 have HL0 := hid hlv
 have S0 := hid h
 have hxlt := (List.getElem?_eq_some_iff.1 hx).1
 have SL := hid (fun (w' : World) (h : PgAt g w') => h.slot hxlt)
 have HX := hid hx
 have HLE := hid (And.intro hL hl)
 have hx3 : (x : Int) < (g.p.ns.length : Int) := by omega
 have hx4 := h.pg.len
 have HCC := hid HC
 clear HC
 clear HN0 hlv h hL hx hxlt hl
 generalize hLL : (ks : List Nat).length = LL at *
 have HLL := hid hLL
 clear hLL
 go_enter Tryd.func22, Tryd.ntmps22
 go_wp2_with fail
 refine HN.out.mono ?_
 rintro en w1 ⟨rfl, hf⟩
 have S1 := hid (S0.out.no hf)
 have HL1 := hid (HL0.out.fr hf (fun _ _ x => x))
 have F1 := hid (FrT.no (B := cb) (ts := coTs) hf)
 clear hf S0 HL0 HN
 go_wp2_with fail
 have FA := (Fr.refl nob w1).alloc (.cells #[.int .i64 16, .int .i64 line, .int .i64 n, .string (bs nm), .slice KA LL KC] 49)
 have B2 := hid (Blk.new w1 49 #[.int .i64 16, .int .i64 line, .int .i64 n, .string (bs nm), .slice KA LL KC])
 have S2 := hid (S1.out.no FA)
 have HK2 := hid (HL1.out.fr FA (fun _ _ x => x))
 have F2 := hid (F1.out.tr (FrT.no (B := cb) (ts := coTs) FA))
 clear FA S1 HL1 F1
 generalize w1.alloc (.cells #[.int .i64 16, .int .i64 line, .int .i64 n, .string (bs nm), .slice KA LL KC] 49) = w2 at *
 generalize w1.heap.size = T at *
 obtain ⟨N, hN⟩ : ∃ N, L.length = N := ⟨_, rfl⟩
 have HNN := hid hN
 refine (coputN_any S2.out hN ⟨1, (x : Int), 0, []⟩ rfl rfl rfl rfl (by have := HLE.out.1; have := HLE.out.2; omega)).mono ?_
 rintro en w3 ⟨rfl, hc, hf⟩
 have S3 := hid hc
 have F3 := hid (F2.out.tr hf)
 have B3 := hid (hf.blk B2.out (by decide))
 have HK3 := hid (hf.own HK2.out (by decide))
 clear hc hf S2 F2 B2 HK2 hN
 obtain ⟨n0, n1, n2, n3, n4, m0, m1, m2, m3, m4, tlt⟩ := B3.out.fifth
 clear m0 m1 m2 m3 m4 tlt
 go_wp2_with fail
 refine (HCC.out cb N w3 _ _ (by rw [← HNN.out]; exact HLE.out.1) S3.out HK3.out (by rw [List.length_append, List.length_singleton, HLE.out.1]) (by have := HLE.out.2; simp only [List.length_cons] at this; omega)).mono ?_
 rintro en w4 ⟨rfl, hc, hf⟩
 have S4 := hid hc
 have F4 := hid (F3.out.tr hf)
 clear hc hf n0 n1 n2 n3 n4 S3 F3 B3 HK3
 go_wp2_with fail
 have hfin := S4.out
 clear S4
 exact bodyPost_ret (results_none rfl _ _ _) rfl ⟨rfl, by simpa only [List.append_assoc, List.singleton_append, List.cons_append, List.nil_append] using hfin, F4.out⟩
end
def CoT (g : PgV) (t : Tk) (at_ : Nat) (l : List InsM) : Prop := match t with
 | .ex x => CoOk 35 g x at_ l
 | .args ks => CoRow 35 g ks at_ l
 | .stm x => CoOk 22 g x at_ l
 | .blk x => CoOk 11 g x at_ l
 | .seq ks => CoRow 22 g ks at_ l
theorem slot_of {p : ProgM} (hi : ProgIs p) {x : Nat} {nd : NodeM} (hx : p.ns[x]? = some nd) : (nameK nd.kind = true → 0 ≤ slotP p x) ∧ (nameK nd.kind = false → slotP p x = -1) := by
 have hlt := (List.getElem?_eq_some_iff.1 hx).1
 obtain ⟨j, z, _, _, _, h⟩ := hi.done.at_any (Nat.zero_le _) hlt hx
 obtain ⟨v, h1, h2, h3⟩ := h.sl
 have h1 : p.slots[x]? = some v := h1
 have e : slotP p x = v := by unfold slotP; rw [List.getD_eq_getElem?_getD, h1]; rfl
 rw [e]
 exact ⟨fun h => (h2 h).1, h3⟩
theorem co_any {g : PgV} (hi : ProgIs g.p) {t : Tk} {a b at_ : Nat} {l : List InsM} (h : Cd g.p t a b at_ l) : CoT g t at_ l := by
 have rows : ∀ {x : Nat} {nd : NodeM}, g.p.ns[x]? = some nd → nd.l.length ≤ 300 := fun hx => hi.tree.rows _ (List.mem_of_getElem? hx)
 induction h with
 | leaf x at_ nd i hx hl hi' =>
  obtain ⟨k, line, n, nm, kl⟩ := nd
  dsimp only at hl
  subst hl
  rcases hi' with ⟨h, rfl⟩ | ⟨h, rfl⟩ | ⟨h, rfl⟩ | ⟨h, rfl⟩ | ⟨h, rfl⟩ <;> dsimp only at h <;> subst h
  · exact coex_int hx
  · exact coex_bool hx
  · exact coex_text hx
  · exact coex_var hx
  · exact coex_input hx
 | un x at_ a u nd i l hx hl hi' h ih =>
  have hs := slot_of hi hx
  obtain ⟨k, line, n, nm, kl⟩ := nd
  dsimp only at hl hs
  subst hl
  rcases hi' with ⟨h, rfl⟩ | ⟨h, rfl⟩ | ⟨h, rfl⟩ | ⟨h, rfl⟩ | ⟨h, rfl⟩ <;> dsimp only at h <;> subst h
  · exact coex_index hx ih (by have := hs.1 rfl; omega)
  · exact coex_len hx ih (by have := hs.2 rfl; omega)
  · exact coex_neg hx ih (by have := hs.2 rfl; omega)
  · exact coex_not hx ih (by have := hs.2 rfl; omega)
  · exact coex_new hx ih (by have := hs.2 rfl; omega)
 | bin x at_ a b u v line y l m hx hy h1 h2 hu hv ihu ihv =>
  exact coex_bin hx (fun cb w L kv hc hk hL hl => cobin_any (x := 0) hc hk hy h1 h2 ihu ihv hL hl)
 | early x at_ a b u v line o y l m hx hy hu hv ihu ihv =>
  rcases hy with ⟨rfl, rfl⟩ | ⟨rfl, rfl⟩
  · exact coex_bin hx (fun cb w L kv hc hk hL hl => coand_any (x := 0) hc hk ihu ihv hL hl)
  · exact coex_bin hx (fun cb w L kv hc hk hL hl => coor_any (x := 0) hc hk ihu ihv hL hl)
 | call x at_ a line j f y ks l hx hj hf hp h ih =>
  exact coex_call hx (fun cb w L kv hc hk hL hl => cocall_any (x := 0) hc hk hj (rows hx) ih hL hl)
 | argN a at_ => exact CoRow.nil _
 | argC u at_ a b c ks l m h h2 ih ih2 => exact CoRow.cons ih ih2
 | plain x at_ a nd i l hx hi' h ih =>
  have hr := rows hx
  obtain ⟨k, line, n, nm, kl⟩ := nd
  dsimp only at hr ih
  rcases hi' with ⟨h, hl, rfl⟩ | ⟨h, hl, rfl⟩ | ⟨h, hl, rfl⟩ | ⟨h, hl, rfl⟩ | ⟨h, hl, rfl⟩ | ⟨h, hl, rfl⟩ <;> dsimp only at h hl
  · rcases h with h | h <;> subst h
    · exact costm_let hx hr ih rfl
    · exact costm_set hx hr ih rfl
  · subst h; exact costm_put hx hr ih rfl
  · subst h; exact costm_do hx hr ih
  · subst h; exact costm_print hx hr ih
  · subst h
    have := List.eq_nil_of_length_eq_zero hl
    subst this
    exact costm_ret0 (ks := []) hx hr ih
  · subst h
    obtain ⟨u, rfl⟩ := List.length_eq_one_iff.1 hl
    exact costm_ret1 (ks := []) hx hr ih
 | if2 x at_ a b u v line l m hx hu hv ihu ihv =>
  exact costm_if hx (fun cb mk w L kv hm hc hk hL hl => cotests_if2 (o := []) hc hk ihu ihv hL (by simp only [List.length_append, List.length_singleton] at hl; omega))
 | if3 x at_ a b c u v t line l m n hx hu hv ht ihu ihv iht =>
  exact costm_if hx (fun cb mk w L kv hm hc hk hL hl => cotests_if3 hc hk ihu ihv iht hL (by simp only [List.length_append, List.length_singleton] at hl; omega))
 | loop x at_ a b u v line l m hx hu hv ihu ihv =>
  exact costm_while hx (fun cb mk w L kv hm hc hk hL hl => by subst hm; exact cotests_loop (o := []) hc hk ihu ihv hL (by simp only [List.length_append, List.length_singleton] at hl; omega))
 | blk x at_ a line ks l hx h ih => exact coblock_any hx (rows hx) ih
 | seqN a at_ => exact CoRow.nil _
 | seqC u at_ a b c ks l m h h2 ih ih2 => exact CoRow.cons ih ih2
structure CodeAt (w0 w : World) (iv ev : Value) (c : CodeM) : Prop where
 ins : Own w 39 4 iv c.ins.length (insCells c.ins)
 ent : Own w 3 1 ev c.entry.length (ints c.entry)
 newi : ∀ b, blk iv = some b → w0.heap.size ≤ b
 newe : ∀ b, blk ev = some b → w0.heap.size ≤ b
theorem CodeAt.no {w0 w w' : World} {iv ev : Value} {c : CodeM} (h : CodeAt w0 w iv ev c) (f : Fr nob w w') : CodeAt w0 w' iv ev c := ⟨h.ins.fr f (fun _ _ x => x), h.ent.fr f (fun _ _ x => x), h.newi, h.newe⟩
structure CoF (g : PgV) (w0 : World) (cb j : Nat) (w : World) (L : List InsM) (ev : Value) (es : List Nat) : Prop where
 co : Co g cb w L
 ent : Own w 3 1 ev es.length (ints es)
 newe : ∀ b, blk ev = some b → w0.heap.size ≤ b
 fr : Fr nob w0 w
 cb : w0.heap.size ≤ cb
 rest : ∃ a b n en, FnsCd g.p j (g.p.fs.drop j) a b L.length n en ∧ (compM g.p).ins = L ++ n ∧ (compM g.p).entry = es ++ en
section
variable {g : PgV} {w0 w w' : World} {cb j : Nat} {L : List InsM} {ev : Value} {es : List Nat}
theorem CoF.len (h : CoF g w0 cb j w L ev es) : (compM g.p).ins.length ≤ 1000 ∧ L.length ≤ (compM g.p).ins.length := by
 obtain ⟨a, b, n, en, _, e, _⟩ := h.rest
 have hi := h.co.pg.is
 have h1 := (comp_cd hi).len
 have h3 := hi.tree.ok.few
 have h6 := hi.tree.ok.fewf
 refine ⟨by omega, ?_⟩
 rw [e, List.length_append]; omega
theorem CoF.no (h : CoF g w0 cb j w L ev es) (f : Fr nob w w') : CoF g w0 cb j w' L ev es := ⟨h.co.no f, h.ent.fr f (fun _ _ x => x), h.newe, h.fr.tr f, h.cb, h.rest⟩
theorem CoF.app (h : CoF g w0 cb j w L ev es) (pg0 : PgAt g w0) {w1 w2 : World} {A : Option Addr} {c k : Nat} (hf0 : Fr nob w w1) (ho : Own w2 3 1 (.slice A (es.length + 1) c) (es.length + 1) (ints es ++ [.int .i64 (k : Nat)])) (hf : Fr (obl (blk ev)) w1 w2)
   (hv : blk (.slice A (es.length + 1) c) = blk ev ∨ blk (.slice A (es.length + 1) c) = some w1.heap.size) :
   Co g cb w2 L ∧ Own w2 3 1 (.slice A (es.length + 1) c) (es ++ [k]).length (ints (es ++ [k])) ∧ (∀ b, blk (.slice A (es.length + 1) c) = some b → w0.heap.size ≤ b) ∧ Fr nob w0 w2 := by
 have f1 : Fr nob w0 w1 := h.fr.tr hf0
 have f2 : Fr nob w0 w2 := f1.trans hf (fun _ _ x => x) (fun b hb hm => by have := h.newe b hm; omega)
 obtain ⟨A1, c1, hb, hown, hnew⟩ := (h.co.no hf0).ex
 have hent : Own w1 3 1 ev es.length (ints es) := h.ent.fr hf0 (fun _ _ x => x)
 refine ⟨⟨pg0.no f2, A1, c1, hb.fr hf (fun hm => ?_), hown.fr hf (fun b hb' hm => ?_), hnew⟩, ?_, fun b hb' => ?_, f2⟩
 · exact hent.blk_ne hb (by decide) hm
 · exact hown.blk_ne' hent (by decide) hm hb'
 · rw [List.length_append, List.length_singleton]
   unfold ints at ho ⊢
   rw [List.map_append]; exact ho
 · rcases hv with e | e
   · exact h.newe b (e ▸ hb')
   · rw [e] at hb'; injection hb' with hb'
     have := f1.size; omega
theorem CoF.step (h : CoF g w0 cb j w L ev es) {f : FuncM} (hf : g.p.fs[j]? = some f) : ∃ m, CoOk 11 g f.body L.length m ∧ L.length + m.length ≤ 1000 ∧
  (∀ (w' : World) (ev' : Value), Co g cb w' (L ++ m ++ [⟨22, (f.ret : Int), 0, []⟩]) → Own w' 3 1 ev' (es ++ [L.length]).length (ints (es ++ [L.length])) → (∀ b, blk ev' = some b → w0.heap.size ≤ b) → Fr nob w0 w' → CoF g w0 cb (j + 1) w' (L ++ m ++ [⟨22, (f.ret : Int), 0, []⟩]) ev' (es ++ [L.length])) := by
 have hlen := h.len
 obtain ⟨a, b, n, en, hc, e1, e2⟩ := h.rest
 have hd : g.p.fs.drop j = f :: g.p.fs.drop (j + 1) := by
  obtain ⟨hlt, hfe⟩ := List.getElem?_eq_some_iff.1 hf
  rw [List.drop_eq_getElem_cons hlt, hfe]
 rw [hd] at hc
 cases hc with
 | cons _ _ c _ _ _ _ m n en hb h2 =>
  refine ⟨m, co_any h.co.pg.is hb, ?_, fun w' ev' hco hent hnew hfr => ⟨hco, hent, hnew, hfr, h.cb, c, b, n, en, ?_, ?_, ?_⟩⟩
  · rw [e1] at hlen; simp only [List.length_append] at hlen; omega
  · rw [List.length_append, List.length_append, List.length_singleton]; exact h2
  · rw [e1]; simp only [List.append_assoc]
  · rw [e2]; simp only [List.append_assoc, List.singleton_append]
theorem CoF.fin (h : CoF g w0 cb g.p.fs.length w L ev es) : L = (compM g.p).ins ∧ es = (compM g.p).entry := by
 obtain ⟨a, b, n, en, hc, e1, e2⟩ := h.rest
 rw [List.drop_length] at hc
 cases hc
 rw [e1, e2]; simp
theorem coFB {w1 w3 : World} {T j : Nat} {a b c d e : Value} {o : Obj} {v : Value} {xs : List Value} (hb : Blk w1 T 43 #[a, b, c, d, e]) (hf : Fr (obl (blk v)) (w1.alloc o) w3) (ho : Own (w1.alloc o) 3 1 v j xs) : Blk w3 T 43 #[a, b, c, d, e] :=
 (hb.alloc o).fr hf (fun hm => ho.blk_ne (hb.alloc o) (by decide) hm)
set_option maxHeartbeats 4000000 in
set_option maxRecDepth 100000 in
theorem coall_any (h : PgAt g w) : Calls Tryd.prog 6 #[g.val] w fun en w' => ∃ iv ev, en = .returned (.agg #[iv, ev]) ∧ CodeAt w w' iv ev (compM g.p) ∧ Fr nob w w' := by
 have P0 := hid h
 have hf6 : (g.p.fs.length : Int) ≤ 6 := by have := h.is.tree.ok.fewf; omega
 unfold PgV.val
 have hent0 : FnsCd g.p 0 (g.p.fs.drop 0) 0 g.p.ns.length 0 (compM g.p).ins (compM g.p).entry := by rw [List.drop_zero]; exact comp_cd h.is
 have HE0 := hid hent0
 clear h hent0
 go_enter Tryd.func6, Tryd.ntmps6
 go_wp2_with fail
 have FA := hid (show Fr nob w (((w.alloc (.cells #[.slice (some ⟨g.nb, 0, none⟩) g.p.ns.length g.nc, .slice (some ⟨g.fb, 0, none⟩) g.p.fs.length g.fc, .slice (some ⟨g.tb, 0, none⟩) g.p.ns.length g.tc, .slice (some ⟨g.sb, 0, none⟩) g.p.ns.length g.sc, .slice g.ua g.un g.uc, .slice g.za g.zn g.zc] 29)).alloc (.cells #[.slice none 0 0, .slice none 0 0] 35)).alloc (.cells (coCells g (.slice none 0 0)) 51)) from (((Fr.refl nob w).alloc _).alloc _).alloc _)
 have RBK := hid ((Blk.new (w.alloc (.cells #[.slice (some ⟨g.nb, 0, none⟩) g.p.ns.length g.nc, .slice (some ⟨g.fb, 0, none⟩) g.p.fs.length g.fc, .slice (some ⟨g.tb, 0, none⟩) g.p.ns.length g.tc, .slice (some ⟨g.sb, 0, none⟩) g.p.ns.length g.sc, .slice g.ua g.un g.uc, .slice g.za g.zn g.zc] 29)) 35 #[.slice none 0 0, .slice none 0 0]).alloc (.cells (coCells g (.slice none 0 0)) 51))
 have CBK := hid (Blk.new ((w.alloc (.cells #[.slice (some ⟨g.nb, 0, none⟩) g.p.ns.length g.nc, .slice (some ⟨g.fb, 0, none⟩) g.p.fs.length g.fc, .slice (some ⟨g.tb, 0, none⟩) g.p.ns.length g.tc, .slice (some ⟨g.sb, 0, none⟩) g.p.ns.length g.sc, .slice g.ua g.un g.uc, .slice g.za g.zn g.zc] 29)).alloc (.cells #[.slice none 0 0, .slice none 0 0] 35)) 51 (coCells g (.slice none 0 0)))
 rw [World.size_alloc] at RBK
 rw [World.size_alloc, World.size_alloc] at CBK
 have HSZ := hid (show w.heap.size ≤ w.heap.size + 1 ∧ w.heap.size ≤ w.heap.size + 1 + 1 ∧ w.heap.size + 1 ≠ w.heap.size + 1 + 1 from ⟨by omega, by omega, by omega⟩)
 unfold coCells at FA RBK CBK
 generalize (((w.alloc (.cells #[.slice (some ⟨g.nb, 0, none⟩) g.p.ns.length g.nc, .slice (some ⟨g.fb, 0, none⟩) g.p.fs.length g.fc, .slice (some ⟨g.tb, 0, none⟩) g.p.ns.length g.tc, .slice (some ⟨g.sb, 0, none⟩) g.p.ns.length g.sc, .slice g.ua g.un g.uc, .slice g.za g.zn g.zc] 29)).alloc (.cells #[.slice none 0 0, .slice none 0 0] 35)).alloc (.cells #[.slice (some ⟨g.nb, 0, none⟩) g.p.ns.length g.nc, .slice (some ⟨g.fb, 0, none⟩) g.p.fs.length g.fc, .slice (some ⟨g.tb, 0, none⟩) g.p.ns.length g.tc, .slice (some ⟨g.sb, 0, none⟩) g.p.ns.length g.sc, .slice g.ua g.un g.uc, .slice g.za g.zn g.zc, .slice none 0 0] 51)) = w1 at *
 generalize w.heap.size + 1 + 1 = CB at *
 generalize w.heap.size + 1 = RB at *
 have C0 := hid (show CoF g w CB 0 w1 [] (.slice none 0 0) [] from ⟨⟨P0.out.no FA.out, none, 0, CBK.out, Own.nil _ _ _, fun b hb => by simp [blk] at hb⟩, Own.nil _ _ _, fun b hb => by simp [blk] at hb, FA.out, HSZ.out.2.1, 0, _, _, _, HE0.out, rfl, rfl⟩)
 clear FA CBK HE0
 go_loopw [4, 13] (fun ev i wr => ∃ (j : Nat) (L : List InsM) (es : List Nat) (A : Option Addr) (c : Nat), j ≤ g.p.fs.length ∧ ev = .slice A j c ∧ i = .int .i64 j ∧ Hid (es.length = j) ∧ Hid (CoF g w CB j wr L (.slice A j c) es) ∧ Hid (Blk wr RB 35 #[.slice none 0 0, .slice none 0 0])) (fun _ i _ => g.p.fs.length - (intOf i).toNat)
 case atStart => exact ⟨0, [], [], none, 0, Nat.zero_le _, rfl, rfl, hid rfl, C0, RBK⟩
 case round =>
  obtain ⟨j, L, es, A, c, hj, rfl, rfl, HES, C, RK⟩ := hrel
  clear C0 RBK
  obtain ⟨IA, IC, hib, -, -⟩ := C.out.co.ex
  have c6 : wr.cell? ⟨CB, 6, none⟩ = some (.slice IA L.length IC) := (hib.cell 6).trans rfl
  have clt := hib.lt
  have hlen := C.out.len
  by_cases hlt : j < g.p.fs.length
  · have hlt2 : (j : Int) < (g.p.fs.length : Int) := by omega
    obtain ⟨f, hf⟩ : ∃ f, g.p.fs[j]? = some f := ⟨_, List.getElem?_eq_getElem hlt⟩
    have TA := C.out.co.pg.tree
    obtain ⟨pv, hpv⟩ : ∃ pv, g.pvs[j]? = some pv := ⟨_, List.getElem?_eq_getElem (by have := TA.samef; omega)⟩
    obtain ⟨PA, PC, rfl, _, _⟩ := (TA.pars.get hf hpv).cap
    obtain ⟨fb, e, hcell⟩ := TA.fns.some (by omega)
    injection e with e
    injection e with e
    subst e
    have e0 := hcell (j * 5 + 0) _ (fnCells_all hf hpv 0 _ rfl)
    have e1 := hcell (j * 5 + 1) _ (fnCells_all hf hpv 1 _ rfl)
    have e2 := hcell (j * 5 + 2) _ (fnCells_all hf hpv 2 _ rfl)
    have e3 := hcell (j * 5 + 3) _ (fnCells_all hf hpv 3 _ rfl)
    have e4 := hcell (j * 5 + 4) _ (fnCells_all hf hpv 4 _ rfl)
    rw [Nat.add_zero] at e0
    generalize hpl : f.params.length = pl at *
    have HST := hid (C.out.step hf)
    have HJ := hid hlt
    clear hf hpv hcell TA hib hlt hj hpl
    have FN := hid (show Fr nob wr (wr.alloc (.cells #[.string (bs f.name), .int .i64 (f.line : Nat), .slice PA pl PC, .int .i64 (f.ret : Nat), .int .i64 (f.body : Nat)] 43)) from (Fr.refl nob wr).alloc _)
    have FB := hid (Blk.new wr 43 #[.string (bs f.name), .int .i64 (f.line : Nat), .slice PA pl PC, .int .i64 (f.ret : Nat), .int .i64 (f.body : Nat)])
    have cn : ¬ CB = wr.heap.size := by omega
    have hlL : (L.length : Int) ≤ 1000 := by omega
    have hj6 : (j : Int) ≤ 6 := by omega
    generalize hLL : L.length = LL at *
    have HLL := hid hLL
    clear hLL hlen
    have HOE := hid (show Own ((wr.alloc (.cells #[.string (bs f.name), .int .i64 (f.line : Nat), .slice PA pl PC, .int .i64 (f.ret : Nat), .int .i64 (f.body : Nat)] 43)).alloc (.cells #[.int .i64 (LL : Nat)] 3)) 3 1 (.slice A j c) j (ints es) from by
      have := (C.out.ent.fr FN.out (fun _ _ x => x)).alloc (.cells #[.int .i64 (LL : Nat)] 3)
      rw [HES.out] at this
      exact this)
    have hrd : Rd ((wr.alloc (.cells #[.string (bs f.name), .int .i64 (f.line : Nat), .slice PA pl PC, .int .i64 (f.ret : Nat), .int .i64 (f.body : Nat)] 43)).alloc (.cells #[.int .i64 (LL : Nat)] 3)) 1 (.slice (some ⟨wr.heap.size + 1, 0, none⟩) 1 1) 1 [.int .i64 (LL : Nat)] := by
      have h := Blk.new (wr.alloc (.cells #[.string (bs f.name), .int .i64 (f.line : Nat), .slice PA pl PC, .int .i64 (f.ret : Nat), .int .i64 (f.body : Nat)] 43)) 3 #[.int .i64 (LL : Nat)]
      rw [World.size_alloc] at h
      exact Rd.ofBlk (n := 1) (cs := [.int .i64 (LL : Nat)]) h rfl (by decide)
    have HRD := hid hrd
    clear hrd
    go_wp2_with (at_builtin; revert HSZ)
    intro HSZ
    refine wpList_append (v := .slice A j c) (n := j) (m := 1) (xs := ints es) (news := [.int .i64 (LL : Nat)]) rfl _ _ rfl TyInts rfl rfl HOE.out HRD.out (by simp [Value.oneCell']) (by omega) (by unfold maxLen; omega) ?_
    intro A3 c3 w3 ho3 hf3 hv3
    have FB3 := hid (coFB FB.out hf3 HOE.out)
    have d4 := (FB3.out.cell 4).trans rfl
    have dlt := FB3.out.lt
    obtain ⟨m, hm1, hm2, hm3⟩ := HST.out
    have HCA := hid (C.out.app (es := es) P0.out (FN.out.alloc (.cells #[.int .i64 (LL : Nat)] 3)) (k := LL) (by rw [HES.out]; exact ho3) hf3 (by rw [HES.out]; exact hv3))
    have RK3 := hid (((RK.out.fr FN.out (fun x => x)).alloc (.cells #[.int .i64 (LL : Nat)] 3)).fr hf3 (fun hm => HOE.out.blk_ne ((RK.out.fr FN.out (fun x => x)).alloc (.cells #[.int .i64 (LL : Nat)] 3)) (by decide) hm))
    have HM1 := hid hm1
    have HM2 := hid hm2
    have HM3 := hid hm3
    rw [HES.out] at HCA
    have HCB := hid C.out.cb
    clear hm1 hm2 hm3 HST ho3 hf3 hv3 HOE HRD FB FN C RK c6 clt e0 e1 e2 e3 e4 cn
    go_wp2_with fail
    refine (HM1.out CB w3 L HCA.out.1 HLL.out (by have := HM2.out; omega)).mono ?_
    rintro en w4 ⟨rfl, hc4, hf4⟩
    have S4 := hid hc4
    have F4 := hid hf4
    have RK4 := hid (hf4.blk RK3.out (by decide))
    have OE4 := hid (hf4.own HCA.out.2.1 (by decide))
    have FB4 := hid (hf4.blk FB3.out (by decide))
    have d3 := (FB4.out.cell 3).trans rfl
    clear hc4 hf4 d4 dlt FB3
    go_wp2_with fail
    refine (coput_any S4.out ⟨22, (f.ret : Int), 0, []⟩ rfl rfl rfl rfl (by have := HM2.out; have := HLL.out; rw [List.length_append]; omega)).mono ?_
    rintro en w5 ⟨rfl, hc5, hf5⟩
    have RK5 := hid (hf5.blk RK4.out (by decide))
    have OE5 := hid (hf5.own OE4.out (by decide))
    have FR5 := hid ((F4.out.tr hf5).low HCB.out HCA.out.2.2.2)
    have C5 := hid (HM3.out w5 (.slice A3 (j + 1) c3) hc5 OE5.out HCA.out.2.2.1 FR5.out)
    clear hc5 hf5 d3 FB4
    go_wp2_with fail
    go_roundw
    case rel => exact ⟨j + 1, _, _, A3, c3, by have := HJ.out; omega, rfl, by go_num, hid (by rw [List.length_append, HES.out]; rfl), C5, RK5⟩
    case measure => simp [intOf]; have := HJ.out; omega
  · have hj2 : j = g.p.fs.length := by omega
    subst hj2
    have hlt2 : ¬ (g.p.fs.length : Int) < (g.p.fs.length : Int) := by omega
    have CN := hid C.out.newe
    have HN := hid (show ∀ b, blk (.slice IA L.length IC) = some b → w.heap.size ≤ b from fun b hb => by
      obtain ⟨IA', IC', hb', -, hn'⟩ := C.out.co.ex
      have h1 := hb'.symm.trans hib
      injection h1 with h1
      injection h1 with h1 _
      have e := congrArg (fun a => a[6]?) h1
      simp [coCells] at e
      rw [e.1, e.2] at hn'
      have := hn' b hb
      have := C.out.cb
      omega)
    have HI := hid (show Own wr 39 4 (.slice IA L.length IC) L.length (insCells L) from by
      obtain ⟨IA', IC', hb', ho', -⟩ := C.out.co.ex
      have h1 := hb'.symm.trans hib
      injection h1 with h1
      injection h1 with h1 _
      have e := congrArg (fun a => a[6]?) h1
      simp [coCells] at e
      rw [e.1, e.2] at ho'
      exact ho')
    have HFIN := hid C.out.fin
    have HE := hid C.out.ent
    have HF := hid C.out.fr
    have r0 : wr.cell? ⟨RB, 0, none⟩ = some (.slice none 0 0) := (RK.out.cell 0).trans rfl
    have r1 : wr.cell? ⟨RB, 1, none⟩ = some (.slice none 0 0) := (RK.out.cell 1).trans rfl
    have z0 := RK.out.frozen 0
    have z1 := RK.out.frozen 1
    have rlt := RK.out.lt
    have BE := hid ((RK.out.setCell 0 (.slice IA L.length IC)).setCell 1 (.slice A g.p.fs.length c))
    have FE := hid (show Fr nob w ((wr.setCell ⟨RB, 0, none⟩ (.slice IA L.length IC)).setCell ⟨RB, 1, none⟩ (.slice A g.p.fs.length c)) from (HF.out.setCell ⟨RB, 0, none⟩ _ (fun h => by have h : RB < w.heap.size := h; have := HSZ.out.1; omega)).setCell ⟨RB, 1, none⟩ _ (fun h => by have h : RB < w.heap.size := h; have := HSZ.out.1; omega))
    have HI2 := hid ((HI.out.far (p := ⟨RB, 0, none⟩) (fun h => HI.out.blk_ne RK.out (by decide) h) (.slice IA L.length IC)).far (p := ⟨RB, 1, none⟩) (fun h => HI.out.blk_ne RK.out (by decide) h) (.slice A g.p.fs.length c))
    have HE2 := hid ((HE.out.far (p := ⟨RB, 0, none⟩) (fun h => HE.out.blk_ne RK.out (by decide) h) (.slice IA L.length IC)).far (p := ⟨RB, 1, none⟩) (fun h => HE.out.blk_ne RK.out (by decide) h) (.slice A g.p.fs.length c))
    have HLEN := hid (show L.length ≤ 1000 from by omega)
    clear hib hlen hlt HE HI C RK
    generalize hLL : L.length = LL at *
    have HLL := hid hLL
    clear hLL
    go_wp2_with fail
    have y0 := (BE.out.cell 0).trans rfl
    have y1 := (BE.out.cell 1).trans rfl
    clear r0 r1 z0 z1 rlt
    generalize (wr.setCell ⟨RB, 0, none⟩ (.slice IA LL IC)).setCell ⟨RB, 1, none⟩ (.slice A g.p.fs.length c) = wz at *
    refine bodyPost_ret (v := .agg #[.slice IA LL IC, .slice A g.p.fs.length c]) (by simp [results, Tryd.results6, go_sem, y0, y1]) rfl ⟨_, _, rfl, ⟨?_, ?_, ?_, ?_⟩, FE.out⟩
    · have := HI2.out
      rw [← HLL.out, HFIN.out.1] at this
      rw [← HLL.out, HFIN.out.1]; exact this
    · have := HE2.out
      rw [HES.out, HFIN.out.2] at this
      rw [show (compM g.p).entry.length = g.p.fs.length by rw [← HFIN.out.2, HES.out]]; exact this
    · exact HN.out
    · exact CN.out
set_option maxHeartbeats 1600000 in
set_option maxRecDepth 100000 in
theorem comain_any (h : PgAt g w) : Calls Tryd.prog 7 #[g.val] w fun en w' => en = .returned (.int .i64 (idxZ (findF g.p.fs [109, 97, 105, 110]))) ∧ Fr nob w w' := by
 unfold PgV.val
 have HP := hid (Blk.new w 29 #[.slice (some ⟨g.nb, 0, none⟩) g.p.ns.length g.nc, .slice (some ⟨g.fb, 0, none⟩) g.p.fs.length g.fc, .slice (some ⟨g.tb, 0, none⟩) g.p.ns.length g.tc, .slice (some ⟨g.sb, 0, none⟩) g.p.ns.length g.sc, .slice g.ua g.un g.uc, .slice g.za g.zn g.zc])
 have FA := hid (show Fr nob w (w.alloc (.cells #[.slice (some ⟨g.nb, 0, none⟩) g.p.ns.length g.nc, .slice (some ⟨g.fb, 0, none⟩) g.p.fs.length g.fc, .slice (some ⟨g.tb, 0, none⟩) g.p.ns.length g.tc, .slice (some ⟨g.sb, 0, none⟩) g.p.ns.length g.sc, .slice g.ua g.un g.uc, .slice g.za g.zn g.zc] 29)) from (Fr.refl nob w).alloc _)
 have P1 := h.no FA.out
 have HIX := hid (idxfn_any (caps := #[]) (q := fun f => decide (f.name = [109, 97, 105, 110])) enters_comain1 (fun f PA PC w' _ hf => comain1_any w' f PA PC) P1.tree.fns P1.tree.pars P1.tree.samef)
 obtain ⟨Z, hZ⟩ : ∃ Z, idxZ (g.p.fs.findIdx? fun f => decide (f.name = [109, 97, 105, 110])) = Z := ⟨_, rfl⟩
 rw [hZ] at HIX
 have hz2 : idxZ (findF g.p.fs [109, 97, 105, 110]) = Z := hZ
 rw [hz2]
 clear h P1 hZ hz2
 go_enter Tryd.func7, Tryd.ntmps7
 go_wp2_with fail
 refine HIX.out.mono ?_
 rintro en w2 ⟨rfl, hf⟩
 have F2 := hid (FA.out.tr hf)
 clear hf
 go_wp2_with fail
 go_ret
 exact ⟨rfl, F2.out⟩
end
end Go.Proofs.YtlbjicjinnnboaaDoor
