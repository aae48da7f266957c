/- MQ1: CpKit, CpEx. -/
import Derived.Test.YtlbjicjinnnboaaGreatDoorMO0
import Derived.Test.YtlbjicjinnnboaaGreatDoorMK1
import Derived.StillTailTactics
set_option linter.unusedVariables false
set_option linter.unusedSimpArgs false
/- Programs as instructions: the steps of the document's functions. -/
namespace Go.Proofs.YtlbjicjinnnboaaGreatDoor
open Go.RowKit
open Pw
structure CpW (g : PgV) (w0 : World) (B k line n : Nat) (nm : List UInt8) (kv : Value) (l : List Nat) (w : World) : Prop where
 s : CpK g B k line n nm kv l w
 f : Fr nob w0 w
section
variable {g : PgV} {w0 w w' : World} {B k line n m : Nat} {nm : List UInt8} {kv v : Value} {l : List Nat} {L M : List InsM} {A : Option Addr} {c : Nat}
theorem InsAt.drew (h : InsAt w0 w v n L) : InsAt w0 w.drew v n L := h.no (Fr.refl nob w).drew
theorem CpW.no (h : CpW g w0 B k line n nm kv l w) (f : Fr nob w w') : CpW g w0 B k line n nm kv l w' := ⟨h.s.no f, h.f.tr f⟩
theorem CpW.drew (h : CpW g w0 B k line n nm kv l w) : CpW g w0 B k line n nm kv l w.drew := h.no (Fr.refl nob w).drew
theorem CpW.ex (h : PgAt g w) (ho : Own w 3 1 kv l.length (ints l)) (k line n : Nat) (nm : List UInt8) : ∃ w1, ((w.alloc (.cells #[.slice (some ⟨g.nb, 0, none⟩) g.p.ns.length g.nc, .slice (some ⟨g.fb, 0, none⟩) g.p.fs.length g.fc, .slice (some ⟨g.tb, 0, none⟩) g.p.ns.length g.tc, .slice (some ⟨g.sb, 0, none⟩) g.p.ns.length g.sc, .slice g.ua g.un g.uc, .slice g.za g.zn g.zc] 29)).alloc (.cells #[.int .i64 k, .int .i64 line, .int .i64 n, .string (bs nm), kv] 50)) = w1 ∧ Hid (CpW g w w.heap.size k line n nm kv l w1) :=
 ⟨_, rfl, hid ⟨CpK.new h ho k line n nm, ((Fr.refl nob w).alloc _).alloc _⟩⟩
abbrev CpC (g : PgV) (B k n : Nat) (nm : List UInt8) (kv : Value) (w : World) : Prop := w.cell? ⟨B, 0, none⟩ = some (.slice (some ⟨g.nb, 0, none⟩) g.p.ns.length g.nc) ∧ w.cell? ⟨B, 1, none⟩ = some (.slice (some ⟨g.fb, 0, none⟩) g.p.fs.length g.fc) ∧ w.cell? ⟨B, 2, none⟩ = some (.slice (some ⟨g.tb, 0, none⟩) g.p.ns.length g.tc) ∧ w.cell? ⟨B, 3, none⟩ = some (.slice (some ⟨g.sb, 0, none⟩) g.p.ns.length g.sc) ∧ w.cell? ⟨B, 4, none⟩ = some (.slice g.ua g.un g.uc) ∧ w.cell? ⟨B, 5, none⟩ = some (.slice g.za g.zn g.zc) ∧
 w.cell? ⟨B + 1, 0, none⟩ = some (.int .i64 k) ∧ w.cell? ⟨B + 1, 2, none⟩ = some (.int .i64 n) ∧ w.cell? ⟨B + 1, 3, none⟩ = some (.string (bs nm)) ∧ w.cell? ⟨B + 1, 4, none⟩ = some kv
theorem CpW.call {F a at_ : Nat} {ai : Int} {Q : Ending → World → Prop} (S : CpW g w0 B k line n nm kv l w) (h : CpOk F g a at_ L) (hai : ai = (at_ : Nat)) (K : ∀ w' A c n', Hid (CpW g w0 B k line n nm kv l w') → Hid (InsAt w0 w' (.slice A n' c) n' L) → Hid (n' = L.length) → (n' : Int) ≤ 3000 → Fr nob w w' → (∀ b, blk (.slice A n' c) = some b → w.heap.size ≤ b) → Q (.returned (.slice A n' c)) w') :
  Calls Tryz.prog F #[.agg #[.slice (some ⟨g.nb, 0, none⟩) g.p.ns.length g.nc, .slice (some ⟨g.fb, 0, none⟩) g.p.fs.length g.fc, .slice (some ⟨g.tb, 0, none⟩) g.p.ns.length g.tc, .slice (some ⟨g.sb, 0, none⟩) g.p.ns.length g.sc, .slice g.ua g.un g.uc, .slice g.za g.zn g.zc], .int .i64 (a : Nat), .int .i64 ai] w Q := by
 refine (h.2.2 w ai S.s.pg hai).mono ?_
 rintro en w' ⟨A, c, n', rfl, hi, hf⟩
 exact K w' A c n' (hid (S.no hf)) (hid (hi.older S.f)) (hid hi.len) (by have := hi.len; have := h.1; omega) hf hi.new
theorem CpW.one {Q : Ending → World → Prop} {o a b : Int} {s : ByteArray} (S : CpW g w0 B k line n nm kv l w) (x : InsM) (ho : o = (x.op : Nat)) (ha : a = x.a) (hb : b = (x.b : Nat)) (hs : s = bs x.s) (K : ∀ w' A c, Hid (CpW g w0 B k line n nm kv l w') → Hid (InsAt w0 w' (.slice A 1 c) 1 [x]) → Fr nob w w' → (∀ b, blk (.slice A 1 c) = some b → w.heap.size ≤ b) → Q (.returned (.slice A 1 c)) w') :
  Calls Tryz.prog 41 #[.int .i64 o, .int .i64 a, .int .i64 b, .string s] w Q := by
 refine (one_any w x ho ha hb hs).mono ?_
 rintro en w' ⟨A, c, rfl, hi, hf⟩
 exact K w' A c (hid (S.no hf)) (hid (hi.older S.f)) hf hi.new
theorem InsAt.lat {u : Value} (h : InsAt w0 w v n L) (hn : ∀ b, blk u = some b → w.heap.size ≤ b) : ∀ b, blk u = some b → blk v ≠ some b := fun b hb he => by
 have h1 := h.own.blk_lt he
 have h2 := hn b hb
 omega
variable {o : Oper} {a : Act} {Q : Exit → Act → World → Prop} {ops : Array Oper} {rest : List Oper}
theorem CpW.app {n' : Nat} (S : CpW g w0 B k line n nm kv l w) (I : InsAt w0 w (.slice A n' c) n' L) (J : InsAt w0 w v m M) (hgd : o.guard = none) (s x : Operand) (ho : o.op = .call { callee := .builtin .append, args := #[s, x], argTypes := #[35, 35] }) (hs : a.eval s = .slice A n' c) (hx : a.eval x = v) (hb : n' + m ≤ 100000)
  (K : ∀ A' c' w', Hid (CpW g w0 B k line n nm kv l w') → Hid (InsAt w0 w' (.slice A' (n' + m) c') (n' + m) (L ++ M)) → Fr (obl (blk (.slice A n' c))) w w' → (blk (.slice A' (n' + m) c') = blk (.slice A n' c) ∨ blk (.slice A' (n' + m) c') = some w.heap.size) → wpList Tryz.prog ops Q rest (a.put o.dst (.slice A' (n' + m) c')) w') : wpList Tryz.prog ops Q (o :: rest) a w :=
 wpList_append hgd s x ho TyIns hs hx I.own J.own.rd (insCells_one _) (by omega) (by unfold maxLen; omega) fun A' c' w' ho' hf hv => by
  have j := I.app S.f ho' hf hv J.len
  exact K A' c' w' (hid ⟨S.s.stay I.own hf, j.2⟩) (hid j.1) hf hv
theorem CpOk.intro {F x at_ : Nat} (hx : g.p.ns[x]? = some ⟨k, line, n, nm, l⟩) (hat : at_ ≤ 3000) (hb : L.length ≤ 3000)
  (H : ∀ (w : World) (ai : Int) (KA : Option Addr) (KC : Nat), Hid (ai = (at_ : Nat)) → Hid (PgAt g w) → Hid (Own w 3 1 (.slice KA l.length KC) l.length (ints l)) → Hid (∀ w', PgAt g w' → w'.cell? ⟨g.sb, x, none⟩ = some (.int .i64 (slotP g.p x))) → Hid (∀ w', PgAt g w' → w'.cell? ⟨g.tb, x, none⟩ = some (.int .i64 (typeP g.p x : Nat))) →
    ((x : Int) < (g.p.ns.length : Int) ∧ (g.p.ns.length : Int) ≤ 300 ∧ 0 ≤ ai ∧ ai ≤ 3000) → (¬ g.nb = w.heap.size ∧ w.cell? ⟨g.nb, x * 5, none⟩ = some (.int .i64 (k : Nat)) ∧ w.cell? ⟨g.nb, x * 5 + 1, none⟩ = some (.int .i64 (line : Nat)) ∧ w.cell? ⟨g.nb, x * 5 + 2, none⟩ = some (.int .i64 (n : Nat)) ∧ w.cell? ⟨g.nb, x * 5 + 3, none⟩ = some (.string (bs nm)) ∧ w.cell? ⟨g.nb, x * 5 + 4, none⟩ = some (.slice KA l.length KC) ∧ g.nb < w.heap.size) →
    (l ≠ [] → ∃ kb, KA = some ⟨kb, 0, none⟩) → Calls Tryz.prog F #[.agg #[.slice (some ⟨g.nb, 0, none⟩) g.p.ns.length g.nc, .slice (some ⟨g.fb, 0, none⟩) g.p.fs.length g.fc, .slice (some ⟨g.tb, 0, none⟩) g.p.ns.length g.tc, .slice (some ⟨g.sb, 0, none⟩) g.p.ns.length g.sc, .slice g.ua g.un g.uc, .slice g.za g.zn g.zc], .int .i64 (x : Nat), .int .i64 ai] w fun en w' => ∃ A c n, en = .returned (.slice A n c) ∧ InsAt w w' (.slice A n c) n L ∧ Fr nob w w') : CpOk F g x at_ L := by
 refine ⟨hb, hat, fun w ai h hai => ?_⟩
 obtain ⟨lv, hlv, x0, x1, x2, x3, x4, nlt, xlt⟩ := h.node hx
 dsimp only at x0 x1 x2 x3 x4 hlv
 obtain ⟨KA, KC, rfl, -, -⟩ := hlv.cap
 refine H w ai KA KC (hid hai) (hid h) (hid hlv) (hid fun w' h => h.slot xlt) (hid fun w' h => h.type xlt) ⟨by omega, h.len, by omega, by omega⟩ ⟨by omega, x0, x1, x2, x3, x4, nlt⟩ fun hl => ?_
 obtain ⟨kb, e, _⟩ := hlv.some (by cases l with
  | nil => exact absurd rfl hl
  | cons a l => simp)
 exact ⟨kb, e⟩
theorem CpW.k0 (h : CpW g w0 B k line n nm kv [] w) : CpC g B k n nm kv w := h.s.cells
theorem CpW.k1 {kb p q a : Nat} (h : CpW g w0 B k line n nm (.slice (some ⟨kb, 0, none⟩) p q) [a] w) : CpC g B k n nm (.slice (some ⟨kb, 0, none⟩) p q) w ∧ w.cell? ⟨kb, 0, none⟩ = some (.int .i64 (a : Nat)) := ⟨h.s.cells, h.s.kid 0 a rfl⟩
theorem CpW.k2 {kb p q a b : Nat} (h : CpW g w0 B k line n nm (.slice (some ⟨kb, 0, none⟩) p q) [a, b] w) : CpC g B k n nm (.slice (some ⟨kb, 0, none⟩) p q) w ∧ w.cell? ⟨kb, 0, none⟩ = some (.int .i64 (a : Nat)) ∧ w.cell? ⟨kb, 1, none⟩ = some (.int .i64 (b : Nat)) := ⟨h.s.cells, h.s.kid 0 a rfl, h.s.kid 1 b rfl⟩
theorem CpW.k3 {kb p q a b d : Nat} (h : CpW g w0 B k line n nm (.slice (some ⟨kb, 0, none⟩) p q) [a, b, d] w) : CpC g B k n nm (.slice (some ⟨kb, 0, none⟩) p q) w ∧ w.cell? ⟨kb, 0, none⟩ = some (.int .i64 (a : Nat)) ∧ w.cell? ⟨kb, 1, none⟩ = some (.int .i64 (b : Nat)) ∧ w.cell? ⟨kb, 2, none⟩ = some (.int .i64 (d : Nat)) := ⟨h.s.cells, h.s.kid 0 a rfl, h.s.kid 1 b rfl, h.s.kid 2 d rfl⟩
end
section
variable {g : PgV} {at0 x at_ line n a b c k : Nat} {nm : List UInt8} {ks : List Nat} {l1 l2 l3 : List InsM}
set_option maxHeartbeats 2000000 in
set_option maxRecDepth 100000 in
theorem cp_int (hx : g.p.ns[x]? = some ⟨1, line, n, [], []⟩) (hat : at_ ≤ 3000) (hb : ([⟨2, (n : Nat), 0, []⟩] : List InsM).length ≤ 3000) : CpOk 106 g x at_ ([⟨2, (n : Nat), 0, []⟩]) := by
 refine CpOk.intro hx hat hb fun w ai KA KC HAI S0 HO SL TY hv hc hk => ?_
 clear hk hx hat hb
 go_enter Tryz.func106, Tryz.ntmps106
 go_wp2_with fail
 obtain ⟨w1, hw1, S1⟩ := CpW.ex S0.out HO.out 1 line n []
 erw [hw1]
 clear hc S0 HO hw1
 generalize w.heap.size = B at *
 refine S1.out.one ⟨2, (n : Nat), 0, []⟩ rfl rfl rfl rfl fun w2 A_o c_o S2 I2_o hf hw => ?_
 clear hf hw
 go_wp2_with fail
 go_ret
 exact ⟨_, _, _, rfl, I2_o.out, S2.out.f⟩
set_option maxHeartbeats 2000000 in
set_option maxRecDepth 100000 in
theorem cp_bool (hx : g.p.ns[x]? = some ⟨2, line, n, [], []⟩) (hat : at_ ≤ 3000) (hb : ([⟨3, (n : Nat), 0, []⟩] : List InsM).length ≤ 3000) : CpOk 106 g x at_ ([⟨3, (n : Nat), 0, []⟩]) := by
 refine CpOk.intro hx hat hb fun w ai KA KC HAI S0 HO SL TY hv hc hk => ?_
 clear hk hx hat hb
 go_enter Tryz.func106, Tryz.ntmps106
 go_wp2_with fail
 obtain ⟨w1, hw1, S1⟩ := CpW.ex S0.out HO.out 2 line n []
 erw [hw1]
 clear hc S0 HO hw1
 generalize w.heap.size = B at *
 refine S1.out.one ⟨3, (n : Nat), 0, []⟩ rfl rfl rfl rfl fun w2 A_o c_o S2 I2_o hf hw => ?_
 clear hf hw
 go_wp2_with fail
 go_ret
 exact ⟨_, _, _, rfl, I2_o.out, S2.out.f⟩
set_option maxHeartbeats 2000000 in
set_option maxRecDepth 100000 in
theorem cp_text (hx : g.p.ns[x]? = some ⟨3, line, 0, nm, []⟩) (hat : at_ ≤ 3000) (hb : ([⟨4, 0, 0, nm⟩] : List InsM).length ≤ 3000) : CpOk 106 g x at_ ([⟨4, 0, 0, nm⟩]) := by
 refine CpOk.intro hx hat hb fun w ai KA KC HAI S0 HO SL TY hv hc hk => ?_
 clear hk hx hat hb
 go_enter Tryz.func106, Tryz.ntmps106
 go_wp2_with fail
 obtain ⟨w1, hw1, S1⟩ := CpW.ex S0.out HO.out 3 line 0 nm
 erw [hw1]
 clear hc S0 HO hw1
 generalize w.heap.size = B at *
 refine S1.out.one ⟨4, 0, 0, nm⟩ rfl rfl rfl rfl fun w2 A_o c_o S2 I2_o hf hw => ?_
 clear hf hw
 go_wp2_with fail
 go_ret
 exact ⟨_, _, _, rfl, I2_o.out, S2.out.f⟩
set_option maxHeartbeats 2000000 in
set_option maxRecDepth 100000 in
theorem cp_var (hx : g.p.ns[x]? = some ⟨4, line, 0, nm, []⟩) (hat : at_ ≤ 3000) (hb : ([⟨5, slotP g.p x, typeP g.p x, []⟩] : List InsM).length ≤ 3000) : CpOk 106 g x at_ ([⟨5, slotP g.p x, typeP g.p x, []⟩]) := by
 refine CpOk.intro hx hat hb fun w ai KA KC HAI S0 HO SL TY hv hc hk => ?_
 clear hk hx hat hb
 go_enter Tryz.func106, Tryz.ntmps106
 go_wp2_with fail
 obtain ⟨w1, hw1, S1⟩ := CpW.ex S0.out HO.out 4 line 0 nm
 erw [hw1]
 clear hc S0 HO hw1
 generalize w.heap.size = B at *
 have P := S1.out.k0
 have sl := SL.out _ S1.out.s.pg
 have ty := TY.out _ S1.out.s.pg
 go_still_tail 10, (by kernel_rfl)
 change wpList _ _ _ _ _ w1.drew
 have S2 := hid S1.out.drew
 clear P
 have P := S2.out.k0
 have sl := SL.out _ S2.out.s.pg
 have ty := TY.out _ S2.out.s.pg
 go_wp2_with fail
 clear P sl ty
 refine S2.out.one ⟨5, slotP g.p x, typeP g.p x, []⟩ rfl rfl rfl rfl fun w3 A_o c_o S3 I3_o hf hw => ?_
 clear hf hw
 go_wp2_with fail
 go_ret
 exact ⟨_, _, _, rfl, I3_o.out, S3.out.f⟩
set_option maxHeartbeats 2000000 in
set_option maxRecDepth 100000 in
theorem cp_index (hx : g.p.ns[x]? = some ⟨5, line, 0, nm, [a]⟩) (h_a : CpOk 106 g a (at_) l1) (hat : at_ ≤ 3000) (hb : (l1 ++ [⟨11, slotP g.p x, 0, []⟩] : List InsM).length ≤ 3000) : CpOk 106 g x at_ (l1 ++ [⟨11, slotP g.p x, 0, []⟩]) := by
 refine CpOk.intro hx hat hb fun w ai KA KC HAI S0 HO SL TY hv hc hk => ?_
 obtain ⟨kb, rfl⟩ := hk (by simp)
 have H_a := hid h_a
 clear hk hx hat hb h_a
 go_enter Tryz.func106, Tryz.ntmps106
 go_wp2_with fail
 obtain ⟨w1, hw1, S1⟩ := CpW.ex S0.out HO.out 5 line 0 nm
 erw [hw1]
 clear hc S0 HO hw1
 generalize w.heap.size = B at *
 have P := S1.out.k1
 go_still_tail 6, (by kernel_rfl)
 change wpList _ _ _ _ _ w1.drew
 have S2 := hid S1.out.drew
 clear P
 have P := S2.out.k1
 go_wp2_with fail
 clear P
 refine S2.out.call H_a.out (by have := HAI.out;  omega) fun w3 A_x c_x n_x S3 I3_x N_x M_x hf hw => ?_
 clear hf hw
 have P := S3.out.k1
 have sl := SL.out _ S3.out.s.pg
 go_wp2_with fail
 refine S3.out.one ⟨11, slotP g.p x, 0, []⟩ rfl rfl rfl rfl fun w4 A_o c_o S4 I4_o hf hw => ?_
 have E1 := hid (I3_x.out.lat hw)
 have I4_x := hid (I3_x.out.no hf)
 clear hf hw
 clear P sl
 go_wp2_with (at_builtin; refine S4.out.app I4_x.out I4_o.out rfl _ _ rfl rfl rfl (by omega) fun A_r c_r w5 S5 I5_r hf hv => ?_; clear hf hv)
 go_ret
 exact ⟨_, _, _, rfl, I5_r.out, S5.out.f⟩
set_option maxHeartbeats 2000000 in
set_option maxRecDepth 100000 in
theorem cp_len (hx : g.p.ns[x]? = some ⟨6, line, 0, [], [a]⟩) (h_a : CpOk 106 g a (at_) l1) (hat : at_ ≤ 3000) (hb : (l1 ++ [⟨10, 0, 0, []⟩] : List InsM).length ≤ 3000) : CpOk 106 g x at_ (l1 ++ [⟨10, 0, 0, []⟩]) := by
 refine CpOk.intro hx hat hb fun w ai KA KC HAI S0 HO SL TY hv hc hk => ?_
 obtain ⟨kb, rfl⟩ := hk (by simp)
 have H_a := hid h_a
 clear hk hx hat hb h_a
 go_enter Tryz.func106, Tryz.ntmps106
 go_wp2_with fail
 obtain ⟨w1, hw1, S1⟩ := CpW.ex S0.out HO.out 6 line 0 []
 erw [hw1]
 clear hc S0 HO hw1
 generalize w.heap.size = B at *
 have P := S1.out.k1
 go_still_tail 6, (by kernel_rfl)
 change wpList _ _ _ _ _ w1.drew
 have S2 := hid S1.out.drew
 clear P
 have P := S2.out.k1
 go_wp2_with fail
 clear P
 refine S2.out.call H_a.out (by have := HAI.out;  omega) fun w3 A_x c_x n_x S3 I3_x N_x M_x hf hw => ?_
 clear hf hw
 have P := S3.out.k1
 go_wp2_with fail
 refine S3.out.one ⟨10, 0, 0, []⟩ rfl rfl rfl rfl fun w4 A_o c_o S4 I4_o hf hw => ?_
 have E1 := hid (I3_x.out.lat hw)
 have I4_x := hid (I3_x.out.no hf)
 clear hf hw
 clear P
 go_wp2_with (at_builtin; refine S4.out.app I4_x.out I4_o.out rfl _ _ rfl rfl rfl (by omega) fun A_r c_r w5 S5 I5_r hf hv => ?_; clear hf hv)
 go_ret
 exact ⟨_, _, _, rfl, I5_r.out, S5.out.f⟩
set_option maxHeartbeats 2000000 in
set_option maxRecDepth 100000 in
theorem cp_neg (hx : g.p.ns[x]? = some ⟨7, line, 0, [], [a]⟩) (h_a : CpOk 106 g a (at_) l1) (hat : at_ ≤ 3000) (hb : (l1 ++ [⟨8, 0, 0, []⟩] : List InsM).length ≤ 3000) : CpOk 106 g x at_ (l1 ++ [⟨8, 0, 0, []⟩]) := by
 refine CpOk.intro hx hat hb fun w ai KA KC HAI S0 HO SL TY hv hc hk => ?_
 obtain ⟨kb, rfl⟩ := hk (by simp)
 have H_a := hid h_a
 clear hk hx hat hb h_a
 go_enter Tryz.func106, Tryz.ntmps106
 go_wp2_with fail
 obtain ⟨w1, hw1, S1⟩ := CpW.ex S0.out HO.out 7 line 0 []
 erw [hw1]
 clear hc S0 HO hw1
 generalize w.heap.size = B at *
 have P := S1.out.k1
 go_still_tail 6, (by kernel_rfl)
 change wpList _ _ _ _ _ w1.drew
 have S2 := hid S1.out.drew
 clear P
 have P := S2.out.k1
 go_wp2_with fail
 clear P
 refine S2.out.call H_a.out (by have := HAI.out;  omega) fun w3 A_x c_x n_x S3 I3_x N_x M_x hf hw => ?_
 clear hf hw
 have P := S3.out.k1
 go_wp2_with fail
 refine S3.out.one ⟨8, 0, 0, []⟩ rfl rfl rfl rfl fun w4 A_o c_o S4 I4_o hf hw => ?_
 have E1 := hid (I3_x.out.lat hw)
 have I4_x := hid (I3_x.out.no hf)
 clear hf hw
 clear P
 go_wp2_with (at_builtin; refine S4.out.app I4_x.out I4_o.out rfl _ _ rfl rfl rfl (by omega) fun A_r c_r w5 S5 I5_r hf hv => ?_; clear hf hv)
 go_ret
 exact ⟨_, _, _, rfl, I5_r.out, S5.out.f⟩
set_option maxHeartbeats 2000000 in
set_option maxRecDepth 100000 in
theorem cp_not (hx : g.p.ns[x]? = some ⟨8, line, 0, [], [a]⟩) (h_a : CpOk 106 g a (at_) l1) (hat : at_ ≤ 3000) (hb : (l1 ++ [⟨9, 0, 0, []⟩] : List InsM).length ≤ 3000) : CpOk 106 g x at_ (l1 ++ [⟨9, 0, 0, []⟩]) := by
 refine CpOk.intro hx hat hb fun w ai KA KC HAI S0 HO SL TY hv hc hk => ?_
 obtain ⟨kb, rfl⟩ := hk (by simp)
 have H_a := hid h_a
 clear hk hx hat hb h_a
 go_enter Tryz.func106, Tryz.ntmps106
 go_wp2_with fail
 obtain ⟨w1, hw1, S1⟩ := CpW.ex S0.out HO.out 8 line 0 []
 erw [hw1]
 clear hc S0 HO hw1
 generalize w.heap.size = B at *
 have P := S1.out.k1
 go_still_tail 6, (by kernel_rfl)
 change wpList _ _ _ _ _ w1.drew
 have S2 := hid S1.out.drew
 clear P
 have P := S2.out.k1
 go_wp2_with fail
 clear P
 refine S2.out.call H_a.out (by have := HAI.out;  omega) fun w3 A_x c_x n_x S3 I3_x N_x M_x hf hw => ?_
 clear hf hw
 have P := S3.out.k1
 go_wp2_with fail
 refine S3.out.one ⟨9, 0, 0, []⟩ rfl rfl rfl rfl fun w4 A_o c_o S4 I4_o hf hw => ?_
 have E1 := hid (I3_x.out.lat hw)
 have I4_x := hid (I3_x.out.no hf)
 clear hf hw
 clear P
 go_wp2_with (at_builtin; refine S4.out.app I4_x.out I4_o.out rfl _ _ rfl rfl rfl (by omega) fun A_r c_r w5 S5 I5_r hf hv => ?_; clear hf hv)
 go_ret
 exact ⟨_, _, _, rfl, I5_r.out, S5.out.f⟩
set_option maxHeartbeats 2000000 in
set_option maxRecDepth 100000 in
theorem cp_bin (hx : g.p.ns[x]? = some ⟨9, line, 0, nm, [a, b]⟩) (h_a : CpOk 106 g a (at_) l1) (h_b : CpOk 106 g b (at_ + l1.length) l2) (hn1 : nm ≠ [38, 38]) (hn2 : nm ≠ [124, 124]) (hat : at_ ≤ 3000) (hb : (l1 ++ l2 ++ [⟨7, 0, 0, nm⟩] : List InsM).length ≤ 3000) : CpOk 106 g x at_ (l1 ++ l2 ++ [⟨7, 0, 0, nm⟩]) := by
 refine CpOk.intro hx hat hb fun w ai KA KC HAI S0 HO SL TY hv hc hk => ?_
 obtain ⟨kb, rfl⟩ := hk (by simp)
 have H_a := hid h_a
 have H_b := hid h_b
 have e1 : ((bs nm).toList == [38, 38]) = false := by rw [bs_toList]; exact beq_eq_false_iff_ne.2 hn1
 have e2 : ((bs nm).toList == [124, 124]) = false := by rw [bs_toList]; exact beq_eq_false_iff_ne.2 hn2
 clear hn1 hn2
 clear hk hx hat hb h_a h_b
 go_enter Tryz.func106, Tryz.ntmps106
 go_wp2_with fail
 obtain ⟨w1, hw1, S1⟩ := CpW.ex S0.out HO.out 9 line 0 nm
 erw [hw1]
 clear hc S0 HO hw1
 generalize w.heap.size = B at *
 have P := S1.out.k2
 go_still_tail 6, (by kernel_rfl)
 change wpList _ _ _ _ _ w1.drew
 have S2 := hid S1.out.drew
 clear P
 have P := S2.out.k2
 go_wp2_with fail
 clear P
 refine S2.out.call H_a.out (by have := HAI.out;  omega) fun w3 A_x c_x n_x S3 I3_x N_x M_x hf hw => ?_
 clear hf hw
 have P := S3.out.k2
 go_wp2_with fail
 have v0 : IntKind.i64.wrap (ai + (n_x : Int)) = ai + (n_x : Int) := IntWalk.i64_in _ (by omega)
 go_still_tail 9, (by kernel_rfl)
 change wpList _ _ _ _ _ w3.drew
 have S4 := hid S3.out.drew
 have I4_x := hid (I3_x.out.drew)
 clear P v0
 have P := S4.out.k2
 go_wp2_with fail
 clear P
 refine S4.out.call H_b.out (by have := HAI.out; have := N_x.out; omega) fun w5 A_y c_y n_y S5 I5_y N_y M_y hf hw => ?_
 have E1 := hid (I4_x.out.lat hw)
 have I5_x := hid (I4_x.out.no hf)
 clear hf hw
 have P := S5.out.k2
 go_wp2_with fail
 have IX := hid (I5_x.out.drew)
 have IY := hid (I5_y.out.drew)
 have SK := hid (S5.out.drew)
 have DXY := hid (E1.out)
 clear I5_x I5_y S5 P
 have q3 := SK.out.s.cells.2.2.2.2.2.2.2.2.1
 go_region_law (first | ((refine step_append (v := .slice A_r (n_x + n_y) c_r) (n := n_x + n_y) (m := 1) (xs := insCells (l1 ++ l2)) (news := insCells ([⟨7, 0, 0, nm⟩] : List InsM)) rfl _ _ rfl TyIns rfl rfl R.out.own O.out.own.rd (insCells_one _) (by omega) (by unfold maxLen; omega) ?_); go_loud (intro A_z c_z wz ho hf hv); go_loud (have J := R.out.app SK.out.f ho hf hv O.out.len); go_loud (have Z := hid J.1); go_loud (have SZ := hid (CpW.mk (SK.out.s.stay R.out.own hf) J.2)); go_loud (clear J ho hf hv)) | ((refine step_append (v := .slice A_x n_x c_x) (n := n_x) (m := n_y) (xs := insCells l1) (news := insCells l2) rfl _ _ rfl TyIns rfl rfl IX.out.own IY.out.own.rd (insCells_one _) (by omega) (by unfold maxLen; omega) ?_); go_loud (intro A_r c_r wr ho hf hv); go_loud (have J := IX.out.app SK.out.f ho hf hv IY.out.len); go_loud (have SK := hid (CpW.mk (SK.out.s.stay IX.out.own hf) J.2)); go_loud (have R := hid J.1); (try (have O := hid (O.out.stay hf DXO.out))); go_loud (clear J ho hf hv IX IY); go_loud (have q3 := SK.out.s.cells.2.2.2.2.2.2.2.2.1)) | (go_simp; go_at_call 41; go_loud (refine SK.out.one ⟨7, 0, 0, nm⟩ rfl rfl rfl rfl fun wo A_o c_o SO O hf hw => ?_); (try (have R := hid (R.out.no hf))); (try (have DXO := hid (IX.out.lat hw))); (try (have IX := hid (IX.out.no hf))); (try (have IY := hid (IY.out.no hf))); go_loud (have SK := SO); go_loud (clear hf hw SO); go_loud (have q3 := SK.out.s.cells.2.2.2.2.2.2.2.2.1)))
 all_goals
  go_wp2_with fail
  go_ret
  exact ⟨_, _, _, rfl, by first | exact Z.out | exact Z.out.no ((Fr.refl nob _).drewN _), by first | exact SZ.out.f | exact SZ.out.f.drewN _⟩
set_option maxHeartbeats 2000000 in
set_option maxRecDepth 100000 in
theorem cp_and (hx : g.p.ns[x]? = some ⟨9, line, 0, [38, 38], [a, b]⟩) (h_a : CpOk 106 g a (at_) l1) (h_b : CpOk 106 g b (at_ + l1.length + 1) l2) (hat : at_ ≤ 3000) (hb : (l1 ++ [⟨18, ((at_ + l1.length + 1 + l2.length : Nat) : Int), 0, []⟩] ++ l2 : List InsM).length ≤ 3000) : CpOk 106 g x at_ (l1 ++ [⟨18, ((at_ + l1.length + 1 + l2.length : Nat) : Int), 0, []⟩] ++ l2) := by
 refine CpOk.intro hx hat hb fun w ai KA KC HAI S0 HO SL TY hv hc hk => ?_
 obtain ⟨kb, rfl⟩ := hk (by simp)
 have H_a := hid h_a
 have H_b := hid h_b
 have e1 : ((bs [38, 38]).toList == [38, 38]) = true := by kernel_rfl
 have e2 : ((bs [38, 38]).toList == [124, 124]) = false := by kernel_rfl
 clear hk hx hat hb h_a h_b
 go_enter Tryz.func106, Tryz.ntmps106
 go_wp2_with fail
 obtain ⟨w1, hw1, S1⟩ := CpW.ex S0.out HO.out 9 line 0 [38, 38]
 erw [hw1]
 clear hc S0 HO hw1
 generalize w.heap.size = B at *
 have P := S1.out.k2
 go_still_tail 6, (by kernel_rfl)
 change wpList _ _ _ _ _ w1.drew
 have S2 := hid S1.out.drew
 clear P
 have P := S2.out.k2
 go_wp2_with fail
 clear P
 refine S2.out.call H_a.out (by have := HAI.out;  omega) fun w3 A_x c_x n_x S3 I3_x N_x M_x hf hw => ?_
 clear hf hw
 have P := S3.out.k2
 go_wp2_with fail
 have v0 : IntKind.i64.wrap (ai + (n_x : Int)) = ai + (n_x : Int) := IntWalk.i64_in _ (by omega)
 have v1 : IntKind.i64.wrap (ai + (n_x : Int) + 1) = ai + (n_x : Int) + 1 := IntWalk.i64_in _ (by omega)
 go_still_tail 10, (by kernel_rfl)
 change wpList _ _ _ _ _ w3.drew
 have S4 := hid S3.out.drew
 have I4_x := hid (I3_x.out.drew)
 clear P v0 v1
 have P := S4.out.k2
 go_wp2_with fail
 clear P
 refine S4.out.call H_b.out (by have := HAI.out; have := N_x.out; omega) fun w5 A_y c_y n_y S5 I5_y N_y M_y hf hw => ?_
 have E1 := hid (I4_x.out.lat hw)
 have I5_x := hid (I4_x.out.no hf)
 clear hf hw
 have P := S5.out.k2
 go_wp2_with fail
 refine S5.out.one ⟨18, ((at_ + l1.length + 1 + l2.length : Nat) : Int), 0, []⟩ rfl (by have := HAI.out; have := N_x.out; have := N_y.out; show _ = (((at_ + l1.length + 1 + l2.length : Nat) : Int) : Int); omega) rfl rfl fun w6 A_o c_o S6 I6_o hf hw => ?_
 have E2 := hid (I5_x.out.lat hw)
 have E3 := hid (I5_y.out.lat hw)
 have I6_x := hid (I5_x.out.no hf)
 have I6_y := hid (I5_y.out.no hf)
 clear hf hw
 clear P
 go_wp2_with (first | (at_builtin; refine S6.out.app I6_x.out I6_o.out rfl _ _ rfl rfl rfl (by omega) fun A_r c_r w7 S7 I7_r hf hv => ?_; have I7_y := hid (I6_y.out.stay hf (E1.out)); have E4 := hid (I6_y.out.sepd (E1.out) hv); clear hf hv) | (at_builtin; refine S7.out.app I7_r.out I7_y.out rfl _ _ rfl rfl rfl (by omega) fun A_z c_z w8 S8 I8_z hf hv => ?_; clear hf hv))
 go_ret
 exact ⟨_, _, _, rfl, I8_z.out, S8.out.f⟩
set_option maxHeartbeats 2000000 in
set_option maxRecDepth 100000 in
theorem cp_or (hx : g.p.ns[x]? = some ⟨9, line, 0, [124, 124], [a, b]⟩) (h_a : CpOk 106 g a (at_) l1) (h_b : CpOk 106 g b (at_ + l1.length + 1) l2) (hat : at_ ≤ 3000) (hb : (l1 ++ [⟨19, ((at_ + l1.length + 1 + l2.length : Nat) : Int), 0, []⟩] ++ l2 : List InsM).length ≤ 3000) : CpOk 106 g x at_ (l1 ++ [⟨19, ((at_ + l1.length + 1 + l2.length : Nat) : Int), 0, []⟩] ++ l2) := by
 refine CpOk.intro hx hat hb fun w ai KA KC HAI S0 HO SL TY hv hc hk => ?_
 obtain ⟨kb, rfl⟩ := hk (by simp)
 have H_a := hid h_a
 have H_b := hid h_b
 have e1 : ((bs [124, 124]).toList == [38, 38]) = false := by kernel_rfl
 have e2 : ((bs [124, 124]).toList == [124, 124]) = true := by kernel_rfl
 clear hk hx hat hb h_a h_b
 go_enter Tryz.func106, Tryz.ntmps106
 go_wp2_with fail
 obtain ⟨w1, hw1, S1⟩ := CpW.ex S0.out HO.out 9 line 0 [124, 124]
 erw [hw1]
 clear hc S0 HO hw1
 generalize w.heap.size = B at *
 have P := S1.out.k2
 go_still_tail 6, (by kernel_rfl)
 change wpList _ _ _ _ _ w1.drew
 have S2 := hid S1.out.drew
 clear P
 have P := S2.out.k2
 go_wp2_with fail
 clear P
 refine S2.out.call H_a.out (by have := HAI.out;  omega) fun w3 A_x c_x n_x S3 I3_x N_x M_x hf hw => ?_
 clear hf hw
 have P := S3.out.k2
 go_wp2_with fail
 have v0 : IntKind.i64.wrap (ai + (n_x : Int)) = ai + (n_x : Int) := IntWalk.i64_in _ (by omega)
 have v1 : IntKind.i64.wrap (ai + (n_x : Int) + 1) = ai + (n_x : Int) + 1 := IntWalk.i64_in _ (by omega)
 go_still_tail 10, (by kernel_rfl)
 change wpList _ _ _ _ _ w3.drew
 have S4 := hid S3.out.drew
 have I4_x := hid (I3_x.out.drew)
 clear P v0 v1
 have P := S4.out.k2
 go_wp2_with fail
 clear P
 refine S4.out.call H_b.out (by have := HAI.out; have := N_x.out; omega) fun w5 A_y c_y n_y S5 I5_y N_y M_y hf hw => ?_
 have E1 := hid (I4_x.out.lat hw)
 have I5_x := hid (I4_x.out.no hf)
 clear hf hw
 have P := S5.out.k2
 go_wp2_with fail
 refine S5.out.one ⟨19, ((at_ + l1.length + 1 + l2.length : Nat) : Int), 0, []⟩ rfl (by have := HAI.out; have := N_x.out; have := N_y.out; show _ = (((at_ + l1.length + 1 + l2.length : Nat) : Int) : Int); omega) rfl rfl fun w6 A_o c_o S6 I6_o hf hw => ?_
 have E2 := hid (I5_x.out.lat hw)
 have E3 := hid (I5_y.out.lat hw)
 have I6_x := hid (I5_x.out.no hf)
 have I6_y := hid (I5_y.out.no hf)
 clear hf hw
 clear P
 go_wp2_with (first | (at_builtin; refine S6.out.app I6_x.out I6_o.out rfl _ _ rfl rfl rfl (by omega) fun A_r c_r w7 S7 I7_r hf hv => ?_; have I7_y := hid (I6_y.out.stay hf (E1.out)); have E4 := hid (I6_y.out.sepd (E1.out) hv); clear hf hv) | (at_builtin; refine S7.out.app I7_r.out I7_y.out rfl _ _ rfl rfl rfl (by omega) fun A_z c_z w8 S8 I8_z hf hv => ?_; clear hf hv))
 go_ret
 exact ⟨_, _, _, rfl, I8_z.out, S8.out.f⟩
set_option maxHeartbeats 2000000 in
set_option maxRecDepth 100000 in
theorem cr_input (hx : g.p.ns[x]? = some ⟨19, line, 0, [], []⟩) (hat : at_ ≤ 3000) (hb : ([⟨14, 0, 0, []⟩] : List InsM).length ≤ 3000) : CpOk 105 g x at_ ([⟨14, 0, 0, []⟩]) := by
 refine CpOk.intro hx hat hb fun w ai KA KC HAI S0 HO SL TY hv hc hk => ?_
 clear hk hx hat hb
 go_enter Tryz.func105, Tryz.ntmps105
 go_wp2_with fail
 obtain ⟨w1, hw1, S1⟩ := CpW.ex S0.out HO.out 19 line 0 []
 erw [hw1]
 clear hc S0 HO hw1
 generalize w.heap.size = B at *
 refine S1.out.one ⟨14, 0, 0, []⟩ rfl rfl rfl rfl fun w2 A_o c_o S2 I2_o hf hw => ?_
 clear hf hw
 go_wp2_with fail
 go_ret
 exact ⟨_, _, _, rfl, I2_o.out, S2.out.f⟩
set_option maxHeartbeats 2000000 in
set_option maxRecDepth 100000 in
theorem cr_new (hx : g.p.ns[x]? = some ⟨20, line, 0, [], [a]⟩) (h_a : CpOk 106 g a (at_) l1) (hat : at_ ≤ 3000) (hb : (l1 ++ [⟨13, 0, 0, []⟩] : List InsM).length ≤ 3000) : CpOk 105 g x at_ (l1 ++ [⟨13, 0, 0, []⟩]) := by
 refine CpOk.intro hx hat hb fun w ai KA KC HAI S0 HO SL TY hv hc hk => ?_
 obtain ⟨kb, rfl⟩ := hk (by simp)
 have H_a := hid h_a
 clear hk hx hat hb h_a
 go_enter Tryz.func105, Tryz.ntmps105
 go_wp2_with fail
 obtain ⟨w1, hw1, S1⟩ := CpW.ex S0.out HO.out 20 line 0 []
 erw [hw1]
 clear hc S0 HO hw1
 generalize w.heap.size = B at *
 have P := S1.out.k1
 go_still_tail 6, (by kernel_rfl)
 change wpList _ _ _ _ _ w1.drew
 have S2 := hid S1.out.drew
 clear P
 have P := S2.out.k1
 go_wp2_with fail
 clear P
 refine S2.out.call H_a.out (by have := HAI.out;  omega) fun w3 A_x c_x n_x S3 I3_x N_x M_x hf hw => ?_
 clear hf hw
 have P := S3.out.k1
 go_wp2_with fail
 refine S3.out.one ⟨13, 0, 0, []⟩ rfl rfl rfl rfl fun w4 A_o c_o S4 I4_o hf hw => ?_
 have E1 := hid (I3_x.out.lat hw)
 have I4_x := hid (I3_x.out.no hf)
 clear hf hw
 clear P
 go_wp2_with (at_builtin; refine S4.out.app I4_x.out I4_o.out rfl _ _ rfl rfl rfl (by omega) fun A_r c_r w5 S5 I5_r hf hv => ?_; clear hf hv)
 go_ret
 exact ⟨_, _, _, rfl, I5_r.out, S5.out.f⟩
set_option maxHeartbeats 2000000 in
set_option maxRecDepth 100000 in
theorem cr_call (hx : g.p.ns[x]? = some ⟨21, line, n, nm, ks⟩) (h_c : CpOk 107 g x (at_) l1) (hat : at_ ≤ 3000) (hb : (l1 : List InsM).length ≤ 3000) : CpOk 105 g x at_ (l1) := by
 refine CpOk.intro hx hat hb fun w ai KA KC HAI S0 HO SL TY hv hc hk => ?_
 have H_c := hid h_c
 clear hk hx hat hb h_c
 go_enter Tryz.func105, Tryz.ntmps105
 go_wp2_with fail
 obtain ⟨w1, hw1, S1⟩ := CpW.ex S0.out HO.out 21 line n nm
 erw [hw1]
 clear hc S0 HO hw1
 generalize w.heap.size = B at *
 refine S1.out.call H_c.out (by have := HAI.out;  omega) fun w2 A_x c_x n_x S2 I2_x N_x M_x hf hw => ?_
 clear hf hw
 go_wp2_with fail
 go_ret
 exact ⟨_, _, _, rfl, I2_x.out, S2.out.f⟩
set_option maxHeartbeats 2000000 in
set_option maxRecDepth 100000 in
theorem cr_expr (hx : g.p.ns[x]? = some ⟨k, line, n, nm, ks⟩) (h_c : CpOk 106 g x (at_) l1) (hk9 : k < 19) (hat : at_ ≤ 3000) (hb : (l1 : List InsM).length ≤ 3000) : CpOk 105 g x at_ (l1) := by
 refine CpOk.intro hx hat hb fun w ai KA KC HAI S0 HO SL TY hv hc hk => ?_
 have H_c := hid h_c
 have e19 : ((k : Int) == 19) = false := beq_eq_false_iff_ne.2 (by omega)
 have e20 : ((k : Int) == 20) = false := beq_eq_false_iff_ne.2 (by omega)
 have e21 : ((k : Int) == 21) = false := beq_eq_false_iff_ne.2 (by omega)
 clear hk9
 clear hk hx hat hb h_c
 go_enter Tryz.func105, Tryz.ntmps105
 go_wp2_with fail
 obtain ⟨w1, hw1, S1⟩ := CpW.ex S0.out HO.out k line n nm
 erw [hw1]
 clear hc S0 HO hw1
 generalize w.heap.size = B at *
 refine S1.out.call H_c.out (by have := HAI.out;  omega) fun w2 A_x c_x n_x S2 I2_x N_x M_x hf hw => ?_
 clear hf hw
 go_wp2_with fail
 go_ret
 exact ⟨_, _, _, rfl, I2_x.out, S2.out.f⟩
end
end Go.Proofs.YtlbjicjinnnboaaGreatDoor
