/- MQ3: CpBlk, CpCal, CpAny, CpAll, CpAllW. -/
import Derived.Test.YtlbjicjinnnboaaGreatDoorMO0
import Derived.Test.YtlbjicjinnnboaaGreatDoorMK1
import Derived.Test.YtlbjicjinnnboaaGreatDoorMSg
import Derived.StillTailTactics
import Derived.Test.YtlbjicjinnnboaaGreatDoorMO2
import Derived.Test.YtlbjicjinnnboaaGreatDoorMQ1
import Derived.Test.YtlbjicjinnnboaaGreatDoorMQ2
import Derived.Test.YtlbjicjinnnboaaGreatDoorMCd
import Derived.Test.YtlbjicjinnnboaaGreatDoorMO3
set_option linter.unusedVariables false
set_option linter.unusedSimpArgs false
/- Programs as instructions: the document's block, and call. -/
namespace Go.Proofs.YtlbjicjinnnboaaGreatDoor
open Go.RowKit
open Pw
def CpRow (F : Nat) (g : PgV) (ks : List Nat) (at_ : Nat) (l : List InsM) : Prop := l.length ≤ 3000 ∧ ∃ cs : List (List InsM), cs.length = ks.length ∧ l = cs.flatten ∧ ∀ (j x : Nat) (c : List InsM), ks[j]? = some x → cs[j]? = some c → CpOk F g x (at_ + (cs.take j).flatten.length) c
theorem cpflat_len {cs : List (List InsM)} {j : Nat} {c : List InsM} (h : cs[j]? = some c) : (cs.take (j + 1)).flatten = (cs.take j).flatten ++ c := by
 rw [List.take_add_one, h, List.flatten_append]; simp
theorem cpflat_le {cs : List (List InsM)} (j : Nat) : (cs.take j).flatten.length ≤ cs.flatten.length := by
 have : cs.flatten = (cs.take j).flatten ++ (cs.drop j).flatten := by rw [← List.flatten_append, List.take_append_drop]
 rw [this, List.length_append]; omega
theorem CpRow.nil {F : Nat} {g : PgV} (at_ : Nat) : CpRow F g [] at_ [] := ⟨Nat.zero_le _, [], rfl, rfl, fun j x c h => by simp at h⟩
theorem CpRow.cons {F : Nat} {g : PgV} {x at_ : Nat} {ks : List Nat} {l m : List InsM} (h : CpOk F g x at_ l) (h2 : CpRow F g ks (at_ + l.length) m) (hl : (l ++ m).length ≤ 3000) : CpRow F g (x :: ks) at_ (l ++ m) := by
 obtain ⟨_, cs, h1, rfl, h3⟩ := h2
 refine ⟨hl, l :: cs, by simp [h1], by simp, fun j y c hj hc => ?_⟩
 cases j with
 | zero =>
  simp at hj hc
  subst hj; subst hc
  simpa using h
 | succ j =>
  have := h3 j y c (by simpa using hj) (by simpa using hc)
  rw [List.take_succ_cons, List.flatten_cons, List.length_append, ← Nat.add_assoc]
  exact this
structure CpL (g : PgV) (B kn : Nat) (KA : Option Addr) (KC : Nat) (ks : List Nat) (w : World) : Prop where
 pg : PgAt g w
 bp : Blk w B 29 #[.slice (some ⟨g.nb, 0, none⟩) g.p.ns.length g.nc, .slice (some ⟨g.fb, 0, none⟩) g.p.fs.length g.fc, .slice (some ⟨g.tb, 0, none⟩) g.p.ns.length g.tc, .slice (some ⟨g.sb, 0, none⟩) g.p.ns.length g.sc, .slice g.ua g.un g.uc, .slice g.za g.zn g.zc]
 kids : Own w 3 1 (.slice KA kn KC) kn (ints ks)
section
variable {g : PgV} {w w' : World} {B kn KC : Nat} {KA : Option Addr} {ks : List Nat}
theorem CpL.no (h : CpL g B kn KA KC ks w) (f : Fr nob w w') : CpL g B kn KA KC ks w' := ⟨h.pg.no f, h.bp.fr f (fun x => x), h.kids.fr f (fun _ _ x => x)⟩
theorem CpL.stay (h : CpL g B kn KA KC ks w) {v : Value} {c : Nat} {xs : List Value} (ho : Own w 45 4 v c xs) (hf : Fr (obl (blk v)) w w') : CpL g B kn KA KC ks w' :=
 ⟨h.pg.stay ho hf, h.bp.fr hf (fun hb => by
  have hb : blk v = some B := hb
  exact ho.blk_ne h.bp (by decide) hb), h.kids.fr hf (fun b hb hm => by
  have hm : blk v = some b := hm
  exact ho.blk_ne' h.kids (by decide) hb hm)⟩
theorem CpL.ex (h : PgAt g w) (hk : Own w 3 1 (.slice KA kn KC) kn (ints ks)) : ∃ w1, w.alloc (.cells #[.slice (some ⟨g.nb, 0, none⟩) g.p.ns.length g.nc, .slice (some ⟨g.fb, 0, none⟩) g.p.fs.length g.fc, .slice (some ⟨g.tb, 0, none⟩) g.p.ns.length g.tc, .slice (some ⟨g.sb, 0, none⟩) g.p.ns.length g.sc, .slice g.ua g.un g.uc, .slice g.za g.zn g.zc] 29) = w1 ∧ CpL g w.heap.size kn KA KC ks w1 ∧ Fr nob w w1 :=
 ⟨_, rfl, ⟨h.no ((Fr.refl nob w).alloc _), Blk.new w _ _, hk.alloc _⟩, (Fr.refl nob w).alloc _⟩
theorem CpL.cells (h : CpL g B kn KA KC ks w) : w.cell? ⟨B, 0, none⟩ = some (.slice (some ⟨g.nb, 0, none⟩) g.p.ns.length g.nc) ∧ w.cell? ⟨B, 1, none⟩ = some (.slice (some ⟨g.fb, 0, none⟩) g.p.fs.length g.fc) ∧ w.cell? ⟨B, 2, none⟩ = some (.slice (some ⟨g.tb, 0, none⟩) g.p.ns.length g.tc) ∧ w.cell? ⟨B, 3, none⟩ = some (.slice (some ⟨g.sb, 0, none⟩) g.p.ns.length g.sc) ∧ w.cell? ⟨B, 4, none⟩ = some (.slice g.ua g.un g.uc) ∧ w.cell? ⟨B, 5, none⟩ = some (.slice g.za g.zn g.zc) :=
 ⟨(h.bp.cell 0).trans rfl, (h.bp.cell 1).trans rfl, (h.bp.cell 2).trans rfl, (h.bp.cell 3).trans rfl, (h.bp.cell 4).trans rfl, (h.bp.cell 5).trans rfl⟩
set_option maxHeartbeats 4000000 in
set_option maxRecDepth 100000 in
theorem cpblock_any {x at_ line : Nat} {l : List InsM} (hx : g.p.ns[x]? = some ⟨18, line, 0, [], ks⟩) (hr : CpRow 69 g ks at_ l) (hat : at_ ≤ 3000) : CpOk 40 g x at_ l := by
 refine ⟨hr.1, hat, fun w ai h hai => ?_⟩
 obtain ⟨lv, hlv, x0, x1, x2, x3, x4, nlt, xlt⟩ := h.node hx
 have n2 : ¬ g.nb = w.heap.size := by omega
 have hx3 : (x : Int) < (g.p.ns.length : Int) := by omega
 have hx4 := h.len
 have hai0 : 0 ≤ ai := by omega
 have hai3 : ai ≤ 3000 := by omega
 dsimp only at x0 x1 x2 x3 x4 hlv
 have hks : ks.length ≤ 300 := h.is.tree.rows _ (List.mem_of_getElem? hx)
 obtain ⟨KA, KC, rfl, -, -⟩ := hlv.cap
 obtain ⟨hl3, cs, hc1, rfl, hc3⟩ := hr
 obtain ⟨kn, hkn⟩ : ∃ kn, kn = ks.length := ⟨_, rfl⟩
 rw [← hkn] at hlv x4 hc1 hks
 have HKN := hid hkn
 have HC1 := hid hc1
 have HC3 := hid hc3
 have HL3 := hid hl3
 have S0 := hid h
 have HO := hid hlv
 have HAI := hid hai
 clear h hlv hx hat xlt hai hc1 hc3 hl3 hkn
 go_enter Tryz.func40, Tryz.ntmps40
 go_wp2_with fail
 obtain ⟨w1, hw1, h1, h2⟩ := CpL.ex S0.out HO.out
 have S1 := hid (h1.no ((Fr.refl nob w1).alloc (.cells #[] 45)))
 have F1 := hid (h2.alloc (.cells #[] 45))
 rw [hw1]
 clear n2 x0 x1 x2 x3 x4 nlt S0 HO h1 h2 hw1
 generalize w1.alloc (.cells #[] 45) = w2 at *
 generalize w1.heap.size = C at *
 generalize w.heap.size = B at *
 go_loopw [8, 9] (fun o i wr => ∃ (j n : Nat) (A : Option Addr) (c : Nat), j ≤ kn ∧ o = .slice A n c ∧ i = .int .i64 j ∧ Hid (n = (cs.take j).flatten.length) ∧ Hid (InsAt w wr (.slice A n c) n (cs.take j).flatten) ∧ Hid (CpL g B kn KA KC ks wr) ∧ Hid (Fr nob w wr)) (fun _ i _ => kn - (intOf i).toNat)
 case atStart => exact ⟨0, 0, _, _, Nat.zero_le _, rfl, rfl, hid rfl, hid (InsAt.nil w w2 0 _), S1, F1⟩
 case round =>
  obtain ⟨j, n, A, c, hj, rfl, rfl, HN, HI, S, F⟩ := hrel
  clear S1 F1
  have hn3 : n ≤ 3000 := by have := HN.out; have := HL3.out; have := cpflat_le (cs := cs) j; omega
  have hn4 : (n : Int) ≤ 3000 := by omega
  have hk4 : (kn : Int) ≤ 300 := by omega
  by_cases hlt : j < kn
  · obtain ⟨u, hu⟩ : ∃ u, ks[j]? = some u := ⟨_, List.getElem?_eq_getElem (by have := HKN.out; omega)⟩
    obtain ⟨d, hd⟩ : ∃ d, cs[j]? = some d := ⟨_, List.getElem?_eq_getElem (by have := HC1.out; omega)⟩
    have HOK := hid (HC3.out j u d hu hd)
    have HT := hid (cpflat_len hd)
    have hdl : d.length ≤ 3000 := HOK.out.1
    obtain ⟨kb, rfl, hcell⟩ := S.out.kids.some (by omega)
    have KID := hid (fun (w' : World) (h : CpL g B kn (some ⟨kb, 0, none⟩) KC ks w') => show w'.cell? ⟨kb, j, none⟩ = some (.int .i64 (u : Nat)) from by
     obtain ⟨b, e, hc⟩ := h.kids.some (by omega)
     injection e with e
     injection e with e
     subst e
     exact hc j (.int .i64 (u : Nat)) (by unfold ints; rw [List.getElem?_map, hu]; rfl))
    have hlt2 : (j : Int) < (kn : Int) := by omega
    have HJ := hid hlt
    clear hu hd hcell hlt hj
    have S2 := hid (S.out.no ((Fr.refl nob wr).drew))
    have F2 := hid (F.out.tr ((Fr.refl nob wr).drew))
    have I2 := hid (HI.out.no ((Fr.refl nob wr).drew))
    obtain ⟨p0, p1, p2, p3, p4, p5⟩ := S.out.cells
    have k0 := KID.out _ S.out
    have v1 : IntKind.i64.wrap (ai + (n : Int)) = ai + (n : Int) := IntWalk.i64_in _ (by omega)
    go_wp2_with fail
    go_still_tail 9, (by kernel_rfl)
    change wpList _ _ _ _ _ wr.drew
    clear p0 p1 p2 p3 p4 p5 k0 S F HI v1
    generalize wr.drew = w3 at *
    obtain ⟨p0, p1, p2, p3, p4, p5⟩ := S2.out.cells
    have k0 := KID.out _ S2.out
    go_wp2_with fail
    clear p0 p1 p2 p3 p4 p5 k0
    refine (HOK.out.2.2 _ _ S2.out.pg (by have := HAI.out; have := HN.out; omega)).mono ?_
    rintro en w4 ⟨A4, c4, n4, rfl, hi, hf⟩
    have S4 := hid (S2.out.no hf)
    have F4 := hid (F2.out.tr hf)
    have I4 := hid (I2.out.no hf)
    have J4 := hid (hi.older F2.out)
    have N4 := hid hi.len
    have hn5 : n4 ≤ 3000 := by have := N4.out; omega
    clear hf hi S2 F2 I2
    go_wp2_with (at_builtin; revert HJ)
    intro HJ
    refine wpList_append (v := .slice A n c) (n := n) (m := n4) (xs := insCells (cs.take j).flatten) (news := insCells d) rfl _ _ rfl TyIns rfl rfl I4.out.own J4.out.own.rd (insCells_one _) (by omega) (by unfold maxLen; omega) ?_
    intro A5 c5 w5 ho hf hv
    have J := I4.out.app F4.out ho hf hv N4.out
    have S5 := hid (S4.out.stay I4.out.own hf)
    have I5 := hid J.1
    have F5 := hid J.2
    clear J ho hf hv I4 J4 F4 S4
    go_wp2_with fail
    go_roundw
    case rel => exact ⟨j + 1, n + n4, A5, c5, by have := HJ.out; omega, rfl, by go_num, hid (by rw [HT.out, List.length_append, ← HN.out, N4.out]), by rw [HT.out]; exact I5, S5, F5⟩
    case measure => simp [intOf]; have := HJ.out; omega
  · have hjn : j = kn := by omega
    subst hjn
    have hlt2 : ¬ (j : Int) < (j : Int) := by omega
    have HE := hid (show (cs.take j).flatten = cs.flatten from by rw [List.take_of_length_le (by have := HC1.out; omega)])
    clear hlt hj
    go_wp2_with fail
    go_ret
    exact ⟨_, _, _, rfl, by rw [← HE.out]; exact HI.out, F.out⟩
end
section
variable {g : PgV} {w w' : World} {ks : List Nat}
theorem CpK.kidR {B k line n : Nat} {nm : List UInt8} {KA : Option Addr} {m KC : Nat} (h : CpK g B k line n nm (.slice KA m KC) ks w) {j u : Nat} (hu : ks[j]? = some u) : ∃ kb, KA = some ⟨kb, 0, none⟩ ∧ w.cell? ⟨kb, j, none⟩ = some (.int .i64 (u : Nat)) := by
 have hj := (List.getElem?_eq_some_iff.1 hu).1
 obtain ⟨A', c', hv, _, _⟩ := h.kids.cap
 injection hv with _ hm _
 subst hm
 obtain ⟨b, e, hc⟩ := h.kids.some (by omega)
 exact ⟨b, e, hc j (.int .i64 (u : Nat)) (by unfold ints; rw [List.getElem?_map, hu]; rfl)⟩
set_option maxHeartbeats 4000000 in
set_option maxRecDepth 100000 in
theorem cpcall_any {x at_ line j0 : Nat} {y : List UInt8} {l : List InsM} (hx : g.p.ns[x]? = some ⟨21, line, 0, y, ks⟩) (hr : CpRow 106 g ks at_ l) (hj0 : findF g.p.fs y = some j0) (hat : at_ ≤ 3000) (hb : (l ++ [⟨20, (j0 : Int), ks.length, []⟩] : List InsM).length ≤ 3000) : CpOk 107 g x at_ (l ++ [⟨20, (j0 : Int), ks.length, []⟩]) := by
 refine ⟨hb, hat, fun w ai h hai => ?_⟩
 obtain ⟨lv, hlv, x0, x1, x2, x3, x4, nlt, xlt⟩ := h.node hx
 have n2 : ¬ g.nb = w.heap.size := by omega
 have hx3 : (x : Int) < (g.p.ns.length : Int) := by omega
 have hx4 := h.len
 have hai0 : 0 ≤ ai := by omega
 have hai3 : ai ≤ 3000 := by omega
 have hf6 : (g.p.fs.length : Int) ≤ 6 := by have := h.is.tree.ok.fewf; omega
 dsimp only at x0 x1 x2 x3 x4 hlv
 have hks : ks.length ≤ 300 := h.is.tree.rows _ (List.mem_of_getElem? hx)
 have HUQ := hid (heads_uniq h.is.heads)
 obtain ⟨KA, KC, rfl, -, -⟩ := hlv.cap
 obtain ⟨hl3, cs, hc1, rfl, hc3⟩ := hr
 have HJ0 := hid hj0
 have HC1 := hid hc1
 have HC3 := hid hc3
 have HL3 := hid hl3
 have S0 := hid h
 have HO := hid hlv
 have HAI := hid hai
 clear h hlv hx hat xlt hai hc1 hc3 hl3 hb hj0
 go_enter Tryz.func107, Tryz.ntmps107
 go_wp2_with fail
 obtain ⟨w1, hw1, h1, h2⟩ := CpK.ex S0.out HO.out 21 line 0 y
 have S1 := hid (h1.no ((Fr.refl nob w1).alloc (.cells #[] 45)))
 have F1 := hid (h2.alloc (.cells #[] 45))
 erw [hw1]
 clear n2 x0 x1 x2 x3 x4 nlt S0 HO h1 h2 hw1
 generalize w1.alloc (.cells #[] 45) = w2 at *
 generalize w1.heap.size = C at *
 generalize w.heap.size = B at *
 go_loopw [8, 9] (fun o i wr => ∃ (j n : Nat) (A : Option Addr) (c : Nat), j ≤ ks.length ∧ o = .slice A n c ∧ i = .int .i64 j ∧ Hid (n = (cs.take j).flatten.length) ∧ Hid (InsAt w wr (.slice A n c) n (cs.take j).flatten) ∧ Hid (CpK g B 21 line 0 y (.slice KA ks.length KC) ks wr) ∧ Hid (Fr nob w wr)) (fun _ i _ => ks.length - (intOf i).toNat)
 case atStart => exact ⟨0, 0, _, _, Nat.zero_le _, rfl, rfl, hid rfl, hid (InsAt.nil w w2 0 _), S1, F1⟩
 case round =>
  obtain ⟨j, n, A, c, hj, rfl, rfl, HN, HI, S, F⟩ := hrel
  clear S1 F1
  have hn3 : n ≤ 3000 := by have := HN.out; have := HL3.out; have := cpflat_le (cs := cs) j; omega
  have hn4 : (n : Int) ≤ 3000 := by omega
  have hk4 : (ks.length : Int) ≤ 300 := by omega
  obtain ⟨p0, p1, p2, p3, p4, p5, q0, q2, q3, q4⟩ := S.out.cells
  by_cases hlt : j < ks.length
  · obtain ⟨u, hu⟩ : ∃ u, ks[j]? = some u := ⟨_, List.getElem?_eq_getElem hlt⟩
    obtain ⟨d, hd⟩ : ∃ d, cs[j]? = some d := ⟨_, List.getElem?_eq_getElem (by have := HC1.out; omega)⟩
    have HOK := hid (HC3.out j u d hu hd)
    have HT := hid (cpflat_len hd)
    have hdl : d.length ≤ 3000 := HOK.out.1
    obtain ⟨kb, rfl, k0⟩ := S.out.kidR hu
    have HU := hid hu
    have hlt2 : (j : Int) < (ks.length : Int) := by omega
    have HJ := hid hlt
    clear hu hd hlt hj
    have S2 := hid (S.out.no ((Fr.refl nob wr).drew))
    have F2 := hid (F.out.tr ((Fr.refl nob wr).drew))
    have I2 := hid (HI.out.no ((Fr.refl nob wr).drew))
    have v1 : IntKind.i64.wrap (ai + (n : Int)) = ai + (n : Int) := IntWalk.i64_in _ (by omega)
    go_wp2_with fail
    go_still_tail 10, (by kernel_rfl)
    change wpList _ _ _ _ _ wr.drew
    clear p0 p1 p2 p3 p4 p5 q0 q2 q3 q4 k0 S F HI v1
    generalize wr.drew = w3 at *
    obtain ⟨p0, p1, p2, p3, p4, p5, q0, q2, q3, q4⟩ := S2.out.cells
    obtain ⟨kb', e, k0⟩ := S2.out.kidR HU.out
    injection e with e
    injection e with e
    subst e
    go_wp2_with fail
    clear p0 p1 p2 p3 p4 p5 q0 q2 q3 q4 k0
    refine (HOK.out.2.2 _ _ S2.out.pg (by have := HAI.out; have := HN.out; omega)).mono ?_
    rintro en w4 ⟨A4, c4, n4, rfl, hi, hf⟩
    have S4 := hid (S2.out.no hf)
    have F4 := hid (F2.out.tr hf)
    have I4 := hid (I2.out.no hf)
    have J4 := hid (hi.older F2.out)
    have N4 := hid hi.len
    have hn5 : n4 ≤ 3000 := by have := N4.out; omega
    clear hf hi S2 F2 I2
    go_wp2_with (at_builtin; revert HJ)
    intro HJ
    refine wpList_append (v := .slice A n c) (n := n) (m := n4) (xs := insCells (cs.take j).flatten) (news := insCells d) rfl _ _ rfl TyIns rfl rfl I4.out.own J4.out.own.rd (insCells_one _) (by omega) (by unfold maxLen; omega) ?_
    intro A5 c5 w5 ho hf hv
    have J := I4.out.app F4.out ho hf hv N4.out
    have S5 := hid (S4.out.stay I4.out.own hf)
    have I5 := hid J.1
    have F5 := hid J.2
    clear J ho hf hv I4 J4 F4 S4
    go_wp2_with fail
    go_roundw
    case rel => exact ⟨j + 1, n + n4, A5, c5, by have := HJ.out; omega, rfl, by go_num, hid (by rw [HT.out, List.length_append, ← HN.out, N4.out]), by rw [HT.out]; exact I5, S5, F5⟩
    case measure => simp [intOf]; have := HJ.out; omega
  · have hjn : j = ks.length := by omega
    have hlt2 : ¬ (j : Int) < (ks.length : Int) := by omega
    have HE := hid (show (cs.take j).flatten = cs.flatten from by rw [List.take_of_length_le (by have := HC1.out; omega)])
    clear hlt hj hjn
    go_wp2_with fail
    clear p0 p1 p2 p3 p4 p5 q0 q2 q3 q4 hlt2
    go_loopw [11, 12] (fun k i wq => ∃ i0 : Nat, i0 ≤ g.p.fs.length ∧ k = .int .i64 (idxZ (findF (g.p.fs.take i0) y)) ∧ i = .int .i64 i0 ∧ Hid (InsAt w wq (.slice A n c) n (cs.take j).flatten) ∧ Hid (CpK g B 21 line 0 y (.slice KA ks.length KC) ks wq) ∧ Hid (Fr nob w wq)) (fun _ i _ => g.p.fs.length - (intOf i).toNat)
    case atStart => exact ⟨0, Nat.zero_le _, rfl, rfl, HI, S, F⟩
    case round =>
     clear HI S F
     obtain ⟨i, hi, rfl, rfl, HI, S, F⟩ := hrel
     obtain ⟨p0, p1, p2, p3, p4, p5, q0, q2, q3, q4⟩ := S.out.cells
     by_cases hlt : i < g.p.fs.length
     · have hlt2 : (i : Int) < (g.p.fs.length : Int) := by omega
       obtain ⟨f, hf⟩ : ∃ f, g.p.fs[i]? = some f := ⟨_, List.getElem?_eq_getElem hlt⟩
       have TA := S.out.pg.tree
       obtain ⟨pv, hpv⟩ : ∃ pv, g.pvs[i]? = some pv := ⟨_, List.getElem?_eq_getElem (by have := TA.samef; omega)⟩
       obtain ⟨fb, e, hcell⟩ := TA.fns.some (by omega)
       injection e with e
       injection e with e
       subst e
       have e0 := hcell (i * 5 + 0) _ (fnCells_all hf hpv 0 _ rfl)
       rw [Nat.add_zero] at e0
       have HT := hid (findF_take HUQ.out hf y)
       have HJ := hid hlt
       clear hf hpv hcell TA hlt hi
       by_cases he : f.name = y
       · have eb : ((bs f.name).toList == (bs y).toList) = true := by rw [he]; simp
         rw [if_pos he] at HT
         clear he
         go_wp2_with fail
         go_quiet (fail)
         go_wp2_with fail
         go_roundw
         case rel => exact ⟨i + 1, by have := HJ.out; omega, by rw [HT.out]; rfl, by go_num, by first | exact HI | exact hid (HI.out.no ((Fr.refl nob _).drewN _)), by first | exact S | exact hid (S.out.no ((Fr.refl nob _).drewN _)), by first | exact F | exact hid (F.out.drewN _)⟩
         case measure => simp [intOf]; have := HJ.out; omega
       · have eb : ((bs f.name).toList == (bs y).toList) = false := by rw [bs_toList, bs_toList]; exact beq_eq_false_iff_ne.2 he
         rw [if_neg he] at HT
         clear he
         go_wp2_with fail
         go_quiet (fail)
         go_wp2_with fail
         go_roundw
         case rel => exact ⟨i + 1, by have := HJ.out; omega, by rw [HT.out], by go_num, by first | exact HI | exact hid (HI.out.no ((Fr.refl nob _).drewN _)), by first | exact S | exact hid (S.out.no ((Fr.refl nob _).drewN _)), by first | exact F | exact hid (F.out.drewN _)⟩
         case measure => simp [intOf]; have := HJ.out; omega
     · have hin : i = g.p.fs.length := by omega
       have hlt2 : ¬ (i : Int) < (g.p.fs.length : Int) := by omega
       have hk : idxZ (findF (g.p.fs.take i) y) = (j0 : Int) := by rw [List.take_of_length_le (by omega), HJ0.out]; rfl
       rw [hk]
       clear hlt hi hin hk
       go_wp2_with fail
       clear p0 p1 p2 p3 p4 p5 q0 q2 q3 q4
       refine (one_any _ ⟨20, (j0 : Int), ks.length, []⟩ rfl rfl rfl rfl).mono ?_
       rintro en w4 ⟨A4, c4, rfl, hi, hf⟩
       have F4 := hid (F.out.tr hf)
       have I4 := hid (HI.out.no hf)
       have J4 := hid (hi.older F.out)
       have N4 := hid hi.len
       clear hf hi S F HI
       go_wp2_with (at_builtin; revert HE)
       intro HE
       refine wpList_append (v := .slice A n c) (n := n) (m := 1) (xs := insCells (cs.take j).flatten) (news := insCells ([⟨20, (j0 : Int), ks.length, []⟩] : List InsM)) rfl _ _ rfl TyIns rfl rfl I4.out.own J4.out.own.rd (insCells_one _) (by omega) (by unfold maxLen; omega) ?_
       intro A5 c5 w5 ho hf hv
       have J := I4.out.app F4.out ho hf hv N4.out
       have I5 := hid J.1
       have F5 := hid J.2
       clear J ho hf hv I4 J4 F4
       go_wp2_with fail
       go_ret
       exact ⟨_, _, _, rfl, by rw [← HE.out]; exact I5.out, F5.out⟩
end
def Serves (g : PgV) (F x : Nat) : Prop := ∃ nd, g.p.ns[x]? = some nd ∧ ((F = 106 ∧ clsE nd.kind = true) ∨ (F = 105 ∧ clsR nd.kind = true) ∨ (F = 107 ∧ nd.kind = 21))
def CpT (g : PgV) (t : Tk) (at_ : Nat) (l : List InsM) : Prop := match t with
 | .ex x => ∀ F, Serves g F x → CpOk F g x at_ l
 | .args ks => ∀ F, (∀ u ∈ ks, Serves g F u) → CpRow F g ks at_ l
 | .stm x => CpOk 69 g x at_ l
 | .blk x => CpOk 40 g x at_ l
 | .seq ks => CpRow 69 g ks at_ l
section
variable {g : PgV}
theorem Serves.split {F x : Nat} {nd : NodeM} (h : Serves g F x) (hx : g.p.ns[x]? = some nd) : (F = 106 ∧ clsE nd.kind = true) ∨ (F = 105 ∧ clsR nd.kind = true) ∨ (F = 107 ∧ nd.kind = 21) := by
 obtain ⟨nd', hx', h⟩ := h
 rw [hx] at hx'; injection hx' with hx'; subst hx'; exact h
theorem Serves.ofE {x u : Nat} (h : Kid (g.p.ns.take x) clsE u) : Serves g 106 u := by
 obtain ⟨nd, h1, h2⟩ := kid_some h
 exact ⟨nd, h1, .inl ⟨rfl, h2⟩⟩
theorem Serves.ofR {x u : Nat} (h : Kid (g.p.ns.take x) clsR u) : Serves g 105 u := by
 obtain ⟨nd, h1, h2⟩ := kid_some h
 exact ⟨nd, h1, .inr (.inl ⟨rfl, h2⟩)⟩
theorem Serves.ofC {x u : Nat} (h : Kid (g.p.ns.take x) clsC u) : Serves g 107 u := by
 obtain ⟨nd, h1, h2⟩ := kid_some h
 exact ⟨nd, h1, .inr (.inr ⟨rfl, by simpa [clsC] using h2⟩)⟩
theorem serve_e {x at_ k line n : Nat} {nm : List UInt8} {ks : List Nat} {l : List InsM} (hx : g.p.ns[x]? = some ⟨k, line, n, nm, ks⟩) (hk : k ≤ 9) (h : CpOk 106 g x at_ l) : ∀ F, Serves g F x → CpOk F g x at_ l := fun F hs => by
 rcases hs.split hx with ⟨rfl, _⟩ | ⟨rfl, _⟩ | ⟨_, h1⟩
 · exact h
 · exact cr_expr hx h (by omega) h.2.1 h.1
 · dsimp only at h1; omega
theorem CpRow.one {F x at_ : Nat} {l : List InsM} (h : CpRow F g [x] at_ l) : CpOk F g x at_ l := by
 obtain ⟨_, cs, h1, rfl, h3⟩ := h
 obtain ⟨c, rfl⟩ := List.length_eq_one_iff.1 (h1.trans rfl)
 simpa using h3 0 x c rfl rfl
theorem CpRow.two {F x y at_ : Nat} {l : List InsM} (h : CpRow F g [x, y] at_ l) : ∃ l1 l2, l = l1 ++ l2 ∧ CpOk F g x at_ l1 ∧ CpOk F g y (at_ + l1.length) l2 := by
 obtain ⟨_, cs, h1, rfl, h3⟩ := h
 match cs, h1 with
 | [c, d], _ => exact ⟨c, d, by simp, by simpa using h3 0 x c rfl rfl, by simpa using h3 1 y d rfl rfl⟩
theorem cp_any (hi : ProgIs g.p) {t : Tk} {a b at_ : Nat} {l : List InsM} (h : Cd g.p t a b at_ l) : at_ + l.length ≤ 3000 → CpT g t at_ l := by
 have ok : ∀ {x : Nat} {nd : NodeM}, g.p.ns[x]? = some nd → NodeOk (g.p.ns.take x) nd := fun hx => hi.tree.ok.nodes _ _ hx
 induction h with
 | leaf x at_ nd i hx hl hi' =>
  intro hb
  have hN := ok hx
  have h1 : [i].length ≤ 3000 := by simp
  have h2 : at_ ≤ 3000 := by omega
  rcases hi' with ⟨h, rfl⟩ | ⟨h, rfl⟩ | ⟨h, rfl⟩ | ⟨h, rfl⟩ | ⟨h, rfl⟩ <;> cases hN <;> simp only [reduceCtorEq] at h hl <;> try omega
  · exact serve_e hx (by omega) (cp_int hx h2 h1)
  · exact serve_e hx (by omega) (cp_bool hx h2 h1)
  · exact serve_e hx (by omega) (cp_text hx h2 h1)
  · exact serve_e hx (by omega) (cp_var hx h2 h1)
  · intro F hs
    rcases hs.split hx with ⟨_, h⟩ | ⟨rfl, _⟩ | ⟨_, h⟩
    · simp [clsE] at h
    · exact cr_input hx h2 h1
    · simp at h
 | un x at_ a u nd i l hx hl hi' h ih =>
  intro hb
  have hN := ok hx
  have h1 : (l ++ [i]).length ≤ 3000 := by omega
  have h2 : at_ ≤ 3000 := by omega
  have ih := ih (by rw [List.length_append] at hb; omega)
  rcases hi' with ⟨h, rfl⟩ | ⟨h, rfl⟩ | ⟨h, rfl⟩ | ⟨h, rfl⟩ | ⟨h, rfl⟩ <;> cases hN <;> simp only [List.cons.injEq, and_true, reduceCtorEq] at h hl <;> try omega
  all_goals
    rename_i hk
    subst hl
    have hu := ih _ (Serves.ofE hk)
  · exact serve_e hx (by omega) (cp_index hx hu h2 h1)
  · exact serve_e hx (by omega) (cp_len hx hu h2 h1)
  · exact serve_e hx (by omega) (cp_neg hx hu h2 h1)
  · exact serve_e hx (by omega) (cp_not hx hu h2 h1)
  · intro F hs
    rcases hs.split hx with ⟨_, h⟩ | ⟨rfl, _⟩ | ⟨_, h⟩
    · simp [clsE] at h
    · exact cr_new hx hu h2 h1
    · simp at h
 | bin x at_ a b u v line y l m hx hy h1 h2 hu hv ihu ihv =>
  intro hb
  have hN := ok hx
  have hlen := hb
  simp only [List.length_append] at hlen
  cases hN with
  | bin _ _ _ _ _ k1 k2 => exact serve_e hx (by omega) (cp_bin hx (ihu (by omega) _ (Serves.ofE k1)) (ihv (by omega) _ (Serves.ofE k2)) h1 h2 (by omega) (by omega))
 | early x at_ a b u v line o y l m hx hy hu hv ihu ihv =>
  intro hb
  have hN := ok hx
  have hlen := hb
  simp only [List.length_append, List.length_singleton] at hlen
  cases hN with
  | bin _ _ _ _ _ k1 k2 =>
    rcases hy with ⟨rfl, rfl⟩ | ⟨rfl, rfl⟩
    · exact serve_e hx (by omega) (cp_and hx (ihu (by omega) _ (Serves.ofE k1)) (ihv (by omega) _ (Serves.ofE k2)) (by omega) (by omega))
    · exact serve_e hx (by omega) (cp_or hx (ihu (by omega) _ (Serves.ofE k1)) (ihv (by omega) _ (Serves.ofE k2)) (by omega) (by omega))
 | call x at_ a line j f y ks l hx hj hf hp h ih =>
  intro hb
  have hN := ok hx
  have hlen := hb
  simp only [List.length_append, List.length_singleton] at hlen
  have hk : ∀ u ∈ ks, Kid (g.p.ns.take x) clsE u := by cases hN; assumption
  have hc := cpcall_any hx (ih (by omega) _ (fun u hu => Serves.ofE (hk u hu))) hj (by omega) (by omega)
  intro F hs
  rcases hs.split hx with ⟨_, h⟩ | ⟨rfl, _⟩ | ⟨rfl, _⟩
  · simp [clsE] at h
  · exact cr_call hx hc (by omega) (by omega)
  · exact hc
 | argN a at_ => intro _ F _; exact CpRow.nil _
 | argC u at_ a b c ks l m h h2 ih ih2 =>
  intro hb F hs
  have hlen := hb
  rw [List.length_append] at hlen
  exact CpRow.cons (ih (by omega) F (hs u (List.mem_cons_self ..))) (ih2 (by omega) F (fun y hy => hs y (List.mem_cons_of_mem _ hy))) (by omega)
 | plain x at_ a nd i l hx hi' hcd ih =>
  intro hb
  have hN := ok hx
  have hlen := hb
  simp only [List.length_cons, List.length_append, List.length_singleton] at hlen
  replace ih := ih (by omega)
  have hb2 : ([⟨1, (x : Int), 0, []⟩] ++ (l ++ [i]) : List InsM).length ≤ 3000 := by simp; omega
  have h2 : at_ ≤ 3000 := by omega
  rcases hi' with ⟨h, hl, rfl⟩ | ⟨h, hl, rfl⟩ | ⟨h, hl, rfl⟩ | ⟨h, hl, rfl⟩ | ⟨h, hl, rfl⟩ | ⟨h, hl, rfl⟩ <;> cases hN <;> simp only [List.length_cons, List.length_nil] at h hl <;> try omega
  · rename_i hk; exact cs_let hx (ih _ (fun u hu => by rw [List.mem_singleton.1 hu]; exact Serves.ofR hk)).one h2 hb2
  · rename_i hk; exact cs_set hx (ih _ (fun u hu => by rw [List.mem_singleton.1 hu]; exact Serves.ofR hk)).one h2 hb2
  · rename_i k1 k2
    obtain ⟨l1, l2, rfl, c1, c2⟩ := (ih _ (fun u hu => by
      simp only [List.mem_cons, List.not_mem_nil, or_false] at hu
      rcases hu with rfl | rfl
      · exact Serves.ofE k1
      · exact Serves.ofE k2)).two
    exact cs_put hx c1 c2 h2 hb2
  · rename_i hk; exact cs_do hx (ih _ (fun u hu => by rw [List.mem_singleton.1 hu]; exact Serves.ofC hk)).one h2 hb2
  · rename_i hk; exact cs_print hx (ih _ (fun u hu => by rw [List.mem_singleton.1 hu]; exact Serves.ofE hk)).one h2 hb2
  · have hl0 : l = [] := by cases hcd; rfl
    subst hl0
    exact cs_ret0 hx h2 hb2
  · rename_i hk; exact cs_ret1 hx (ih _ (fun u hu => by rw [List.mem_singleton.1 hu]; exact Serves.ofE hk)).one h2 hb2
 | if2 x at_ a b u v line l m hx hu hv ihu ihv =>
  intro hb
  have hN := ok hx
  have hlen := hb
  simp only [List.length_cons, List.length_append, List.length_singleton] at hlen
  cases hN with
  | if2 _ _ _ k1 k2 =>
    have ht := ct_if2 hx (ihu (by omega) _ (Serves.ofE k1)) (ihv (by omega)) (by omega) (by simp; omega)
    rw [List.append_nil] at ht
    exact cs_tests hx ht (.inl rfl) (by omega) (by simp; omega)
 | if3 x at_ a b c u v t line l m n hx hu hv ht ihu ihv iht =>
  intro hb
  have hN := ok hx
  have hlen := hb
  simp only [List.length_cons, List.length_append, List.length_singleton] at hlen
  cases hN with
  | if3 _ _ _ _ k1 k2 k3 =>
    have ht := ct_if3 hx (ihu (by omega) _ (Serves.ofE k1)) (ihv (by omega)) (iht (by omega)) (by omega) (by simp; omega)
    exact cs_tests hx ht (.inl rfl) (by omega) (by simp; omega)
 | loop x at_ a b u v line l m hx hu hv ihu ihv =>
  intro hb
  have hN := ok hx
  have hlen := hb
  simp only [List.length_cons, List.length_append, List.length_singleton] at hlen
  cases hN with
  | loop _ _ _ k1 k2 =>
    have ht := ct_loop hx (ihu (by omega) _ (Serves.ofE k1)) (ihv (by omega)) rfl (by omega) (by simp; omega)
    rw [List.append_nil] at ht
    exact cs_tests hx ht (.inr rfl) (by omega) (by simp; omega)
 | blk x at_ a line ks l hx h ih => intro hb; exact cpblock_any hx (ih hb) (by omega)
 | seqN a at_ => intro _; exact CpRow.nil _
 | seqC u at_ a b c ks l m h h2 ih ih2 =>
  intro hb
  have hlen := hb
  rw [List.length_append] at hlen
  exact CpRow.cons (ih (by omega)) (ih2 (by omega)) (by omega)
end
structure CpA (g : PgV) (w0 : World) (B RB CB j n : Nat) (w : World) (L : List InsM) (es : List Nat) (IA : Option Addr) (IC : Nat) (EA : Option Addr) (EC : Nat) : Prop where
 pg : PgAt g w
 bp : Blk w B 29 #[.slice (some ⟨g.nb, 0, none⟩) g.p.ns.length g.nc, .slice (some ⟨g.fb, 0, none⟩) g.p.fs.length g.fc, .slice (some ⟨g.tb, 0, none⟩) g.p.ns.length g.tc, .slice (some ⟨g.sb, 0, none⟩) g.p.ns.length g.sc, .slice g.ua g.un g.uc, .slice g.za g.zn g.zc]
 rb : Blk w RB 37 #[.slice none 0 0, .slice none 0 0]
 cb : Blk w CB 37 #[.slice IA n IC, .slice EA j EC]
 ins : Own w 45 4 (.slice IA n IC) n (insCells L)
 ent : Own w 3 1 (.slice EA j EC) j (ints es)
 newi : ∀ b, blk (.slice IA n IC) = some b → w0.heap.size ≤ b
 newe : ∀ b, blk (.slice EA j EC) = some b → w0.heap.size ≤ b
 fr : Fr nob w0 w
 hn : n = L.length
 hj : j = es.length
 apart : RB ≠ CB ∧ w0.heap.size ≤ CB
section
variable {g : PgV} {w0 w w' w1 w2 : World} {B RB CB j n : Nat} {L : List InsM} {es : List Nat} {IA EA : Option Addr} {IC EC : Nat}
theorem CpA.no (h : CpA g w0 B RB CB j n w L es IA IC EA EC) (f : Fr nob w w') : CpA g w0 B RB CB j n w' L es IA IC EA EC :=
 ⟨h.pg.no f, h.bp.fr f (fun x => x), h.rb.fr f (fun x => x), h.cb.fr f (fun x => x), h.ins.fr f (fun _ _ x => x), h.ent.fr f (fun _ _ x => x), h.newi, h.newe, h.fr.tr f, h.hn, h.hj, h.apart⟩
theorem CpA.boxes (h : CpA g w0 B RB CB j n w L es IA IC EA EC) : (w.cell? ⟨B, 0, none⟩ = some (.slice (some ⟨g.nb, 0, none⟩) g.p.ns.length g.nc) ∧ w.cell? ⟨B, 1, none⟩ = some (.slice (some ⟨g.fb, 0, none⟩) g.p.fs.length g.fc) ∧ w.cell? ⟨B, 2, none⟩ = some (.slice (some ⟨g.tb, 0, none⟩) g.p.ns.length g.tc) ∧ w.cell? ⟨B, 3, none⟩ = some (.slice (some ⟨g.sb, 0, none⟩) g.p.ns.length g.sc) ∧ w.cell? ⟨B, 4, none⟩ = some (.slice g.ua g.un g.uc) ∧ w.cell? ⟨B, 5, none⟩ = some (.slice g.za g.zn g.zc)) ∧
  w.cell? ⟨CB, 0, none⟩ = some (.slice IA n IC) ∧ w.cell? ⟨CB, 1, none⟩ = some (.slice EA j EC) ∧ w.frozen? ⟨CB, 0, none⟩ = false ∧ w.frozen? ⟨CB, 1, none⟩ = false ∧ CB < w.heap.size :=
 ⟨⟨(h.bp.cell 0).trans rfl, (h.bp.cell 1).trans rfl, (h.bp.cell 2).trans rfl, (h.bp.cell 3).trans rfl, (h.bp.cell 4).trans rfl, (h.bp.cell 5).trans rfl⟩, (h.cb.cell 0).trans rfl, (h.cb.cell 1).trans rfl, h.cb.frozen 0, h.cb.frozen 1, h.cb.lt⟩
theorem CpA.entA (h : CpA g w0 B RB CB j n w L es IA IC EA EC) (p0 : PgAt g w0) {A : Option Addr} {c : Nat} (hf0 : Fr nob w w1) (ho : Own w2 3 1 (.slice A (j + 1) c) (j + 1) (ints es ++ [.int .i64 (n : Nat)])) (hf : Fr (obl (blk (.slice EA j EC))) w1 w2) (hv : blk (.slice A (j + 1) c) = blk (.slice EA j EC) ∨ blk (.slice A (j + 1) c) = some w1.heap.size) :
   CpA g w0 B RB CB (j + 1) n (w2.setCell ⟨CB, 1, none⟩ (.slice A (j + 1) c)) L (es ++ [n]) IA IC A c := by
 have h1 := h.no hf0
 have f2 : Fr nob w0 w2 := h1.fr.trans hf (fun _ _ x => x) (fun b hb hm => by have := h.newe b hm; omega)
 have f3 : Fr nob w0 (w2.setCell ⟨CB, 1, none⟩ (.slice A (j + 1) c)) := f2.setCell _ _ (fun hb => by have hb : CB < w0.heap.size := hb; have := h.apart.2; omega)
 have b : ∀ {T t : Nat} {cs : Array Value}, Blk w1 T t cs → 3 ≠ t → Blk w2 T t cs := fun hb ht => hb.fr hf (fun hm => h1.ent.blk_ne hb ht hm)
 have cb2 := b h1.cb (by decide)
 have ho' : Own w2 3 1 (.slice A (j + 1) c) (j + 1) (ints (es ++ [n])) := by unfold ints at ho ⊢; rw [List.map_append]; exact ho
 refine ⟨p0.no f3, (b h1.bp (by decide)).far (h1.bp.ne h1.cb (by decide)) _, (b h1.rb (by decide)).far h.apart.1 _, cb2.setCell 1 _, ?_, ho'.far (ho'.blk_ne cb2 (by decide)) _, h.newi, fun x hx => ?_, f3, h.hn, by rw [List.length_append, List.length_singleton, ← h.hj], h.apart⟩
 · have hi : Own w2 45 4 (.slice IA n IC) n (insCells L) := h1.ins.fr hf (fun x hx hm => h1.ins.blk_ne' h1.ent (by decide) hm hx)
   exact hi.far (hi.blk_ne cb2 (by decide)) _
 · rcases hv with e | e
   · exact h.newe x (e ▸ hx)
   · rw [e] at hx; injection hx with hx
     have := h1.fr.size; omega
theorem CpA.insA (h : CpA g w0 B RB CB j n w L es IA IC EA EC) (p0 : PgAt g w0) {A : Option Addr} {c m : Nat} {l : List InsM} (hf0 : Fr nob w w1) (ho : Own w2 45 4 (.slice A (n + m) c) (n + m) (insCells L ++ insCells l)) (hm : m = l.length) (hf : Fr (obl (blk (.slice IA n IC))) w1 w2) (hv : blk (.slice A (n + m) c) = blk (.slice IA n IC) ∨ blk (.slice A (n + m) c) = some w1.heap.size) :
   CpA g w0 B RB CB j (n + m) (w2.setCell ⟨CB, 0, none⟩ (.slice A (n + m) c)) (L ++ l) es A c EA EC := by
 have h1 := h.no hf0
 have f2 : Fr nob w0 w2 := h1.fr.trans hf (fun _ _ x => x) (fun b hb hm => by have := h.newi b hm; omega)
 have f3 : Fr nob w0 (w2.setCell ⟨CB, 0, none⟩ (.slice A (n + m) c)) := f2.setCell _ _ (fun hb => by have hb : CB < w0.heap.size := hb; have := h.apart.2; omega)
 have b : ∀ {T t : Nat} {cs : Array Value}, Blk w1 T t cs → 45 ≠ t → Blk w2 T t cs := fun hb ht => hb.fr hf (fun hm => h1.ins.blk_ne hb ht hm)
 have cb2 := b h1.cb (by decide)
 have ho' : Own w2 45 4 (.slice A (n + m) c) (n + m) (insCells (L ++ l)) := by rw [insCells_app]; exact ho
 refine ⟨p0.no f3, (b h1.bp (by decide)).far (h1.bp.ne h1.cb (by decide)) _, (b h1.rb (by decide)).far h.apart.1 _, cb2.setCell 0 _, ho'.far (ho'.blk_ne cb2 (by decide)) _, ?_, fun x hx => ?_, h.newe, f3, by rw [List.length_append, ← h.hn, hm], h.hj, h.apart⟩
 · have hi : Own w2 3 1 (.slice EA j EC) j (ints es) := h1.ent.fr hf (fun x hx hm => h1.ent.blk_ne' h1.ins (by decide) hm hx)
   exact hi.far (hi.blk_ne cb2 (by decide)) _
 · rcases hv with e | e
   · exact h.newi x (e ▸ hx)
   · rw [e] at hx; injection hx with hx
     have := h1.fr.size; omega
def CpRest (g : PgV) (j : Nat) (L : List InsM) (es : List Nat) : Prop := ∃ a b n en, FnsCd g.p j (g.p.fs.drop j) a b L.length n en ∧ (compM g.p).ins = L ++ n ∧ (compM g.p).entry = es ++ en
theorem CpRest.len (h : CpRest g j L es) (hi : ProgIs g.p) : L.length ≤ 1000 := by
 obtain ⟨a, b, n, en, _, e, _⟩ := h
 have h1 := (comp_cd hi).len
 have h3 := hi.tree.ok.few
 have h6 := hi.tree.ok.fewf
 have := congrArg List.length e
 rw [List.length_append] at this
 omega
theorem CpRest.step (h : CpRest g j L es) (hi : ProgIs g.p) {f : FuncM} (hf : g.p.fs[j]? = some f) : ∃ m, CpOk 40 g f.body L.length m ∧ L.length + m.length ≤ 1000 ∧ CpRest g (j + 1) (L ++ m ++ [⟨22, (f.ret : Int), 0, []⟩]) (es ++ [L.length]) := by
 have hl := (comp_cd hi).len
 have h3 := hi.tree.ok.few
 have h6 := hi.tree.ok.fewf
 obtain ⟨a, b, n, en, hc, e1, e2⟩ := h
 have hd : g.p.fs.drop j = f :: g.p.fs.drop (j + 1) := by
  obtain ⟨hlt, hfe⟩ := List.getElem?_eq_some_iff.1 hf
  rw [List.drop_eq_getElem_cons hlt, hfe]
 rw [hd] at hc
 cases hc with
 | cons _ _ c _ _ _ _ m n en hb h2 =>
  have hlen : L.length + m.length ≤ 1000 := by rw [e1] at hl; simp only [List.length_append] at hl; omega
  refine ⟨m, cp_any hi hb (by omega), hlen, c, b, n, en, ?_, ?_, ?_⟩
  · rw [List.length_append, List.length_append, List.length_singleton]; exact h2
  · rw [e1]; simp only [List.append_assoc]
  · rw [e2]; simp only [List.append_assoc, List.singleton_append]
theorem CpRest.fin (h : CpRest g g.p.fs.length L es) : L = (compM g.p).ins ∧ es = (compM g.p).entry := by
 obtain ⟨a, b, n, en, hc, e1, e2⟩ := h
 rw [List.drop_length] at hc
 cases hc
 rw [e1, e2]; simp
theorem CpA.func (h : CpA g w0 B RB CB j n w L es IA IC EA EC) {i : Nat} {f : FuncM} (hf : g.p.fs[i]? = some f) : w.cell? ⟨g.fb, i * 5 + 3, none⟩ = some (.int .i64 (f.ret : Nat)) ∧ w.cell? ⟨g.fb, i * 5 + 4, none⟩ = some (.int .i64 (f.body : Nat)) ∧ g.fb < w.heap.size := by
 have TA := h.pg.tree
 have hjl := (List.getElem?_eq_some_iff.1 hf).1
 obtain ⟨pv, hpv⟩ : ∃ pv, g.pvs[i]? = some pv := ⟨_, List.getElem?_eq_getElem (by have := TA.samef; omega)⟩
 obtain ⟨fb, e, hcell⟩ := TA.fns.some (by omega)
 injection e with e
 injection e with e
 subst e
 have h2 := hcell (i * 5 + 3) _ (fnCells_all hf hpv 3 _ rfl)
 exact ⟨h2, hcell (i * 5 + 4) _ (fnCells_all hf hpv 4 _ rfl), World.block_lt_of_cell? _ ⟨g.fb, i * 5 + 3, none⟩ h2⟩
end
section
variable {g : PgV} {w : World}
theorem CpA.new (h : PgAt g w) : ∃ w1, ((w.alloc (.cells #[.slice (some ⟨g.nb, 0, none⟩) g.p.ns.length g.nc, .slice (some ⟨g.fb, 0, none⟩) g.p.fs.length g.fc, .slice (some ⟨g.tb, 0, none⟩) g.p.ns.length g.tc, .slice (some ⟨g.sb, 0, none⟩) g.p.ns.length g.sc, .slice g.ua g.un g.uc, .slice g.za g.zn g.zc] 29)).alloc (.cells #[.slice none 0 0, .slice none 0 0] 37)).alloc (.cells #[.slice none 0 0, .slice none 0 0] 37) = w1 ∧ CpA g w w.heap.size (w.heap.size + 1) (w.heap.size + 1 + 1) 0 0 w1 [] [] none 0 none 0 := by
 have f : Fr nob w (((w.alloc (.cells #[.slice (some ⟨g.nb, 0, none⟩) g.p.ns.length g.nc, .slice (some ⟨g.fb, 0, none⟩) g.p.fs.length g.fc, .slice (some ⟨g.tb, 0, none⟩) g.p.ns.length g.tc, .slice (some ⟨g.sb, 0, none⟩) g.p.ns.length g.sc, .slice g.ua g.un g.uc, .slice g.za g.zn g.zc] 29)).alloc (.cells #[.slice none 0 0, .slice none 0 0] 37)).alloc (.cells #[.slice none 0 0, .slice none 0 0] 37)) := (((Fr.refl nob w).alloc _).alloc _).alloc _
 have b1 := Blk.new (w.alloc (.cells #[.slice (some ⟨g.nb, 0, none⟩) g.p.ns.length g.nc, .slice (some ⟨g.fb, 0, none⟩) g.p.fs.length g.fc, .slice (some ⟨g.tb, 0, none⟩) g.p.ns.length g.tc, .slice (some ⟨g.sb, 0, none⟩) g.p.ns.length g.sc, .slice g.ua g.un g.uc, .slice g.za g.zn g.zc] 29)) 37 #[.slice none 0 0, .slice none 0 0]
 have b2 := Blk.new ((w.alloc (.cells #[.slice (some ⟨g.nb, 0, none⟩) g.p.ns.length g.nc, .slice (some ⟨g.fb, 0, none⟩) g.p.fs.length g.fc, .slice (some ⟨g.tb, 0, none⟩) g.p.ns.length g.tc, .slice (some ⟨g.sb, 0, none⟩) g.p.ns.length g.sc, .slice g.ua g.un g.uc, .slice g.za g.zn g.zc] 29)).alloc (.cells #[.slice none 0 0, .slice none 0 0] 37)) 37 #[.slice none 0 0, .slice none 0 0]
 rw [World.size_alloc] at b1
 rw [World.size_alloc, World.size_alloc] at b2
 exact ⟨_, rfl, h.no f, ((Blk.new w _ _).alloc _).alloc _, b1.alloc _, b2, Own.nil _ _ _, Own.nil _ _ _, fun b hb => (by simp [blk] at hb), fun b hb => (by simp [blk] at hb), f, rfl, rfl, by omega, by omega⟩
set_option maxHeartbeats 4000000 in
set_option maxRecDepth 100000 in
theorem cpall_any (h : PgAt g w) : Calls Tryz.prog 18 #[g.val] w fun en w' => ∃ iv ev, en = .returned (.agg #[iv, ev]) ∧ CodeAt w w' iv ev (compM g.p) ∧ Fr nob w w' := by
 have P0 := hid h
 have HI := hid h.is
 have hf6 : (g.p.fs.length : Int) ≤ 6 := by have := h.is.tree.ok.fewf; omega
 have HE0 := hid (show CpRest g 0 [] [] from ⟨0, g.p.ns.length, _, _, by rw [List.drop_zero]; exact comp_cd h.is, rfl, rfl⟩)
 unfold PgV.val
 clear h
 go_enter Tryz.func18, Tryz.ntmps18
 go_wp2_with fail
 obtain ⟨w1, hw1, h1⟩ := CpA.new P0.out
 have C0 := hid h1
 erw [hw1]
 clear hw1 h1
 have HRBN := hid (show w.heap.size ≤ w.heap.size + 1 from Nat.le_succ _)
 generalize w.heap.size + 1 + 1 = CB at *
 generalize w.heap.size + 1 = RB at *
 go_loopw [4] (fun i wr => ∃ (j n : Nat) (L : List InsM) (es : List Nat) (IA : Option Addr) (IC : Nat) (EA : Option Addr) (EC : Nat), j ≤ g.p.fs.length ∧ i = .int .i64 j ∧ Hid (CpA g w w.heap.size RB CB j n wr L es IA IC EA EC) ∧ Hid (CpRest g j L es)) (fun i _ => g.p.fs.length - (intOf i).toNat)
 case atStart => exact ⟨0, 0, [], [], none, 0, none, 0, Nat.zero_le _, rfl, C0, HE0⟩
 case round =>
  clear C0 HE0
  obtain ⟨j, n, L, es, IA, IC, EA, EC, hj, rfl, C, R⟩ := hrel
  obtain ⟨⟨p0, p1, p2, p3, p4, p5⟩, c0, c1, z0, z1, clt⟩ := C.out.boxes
  have hn4 : n ≤ 1000 := by rw [C.out.hn]; exact R.out.len HI.out
  have hn3 : (n : Int) ≤ 1000 := by omega
  have hj6 : (j : Int) ≤ 6 := by omega
  by_cases hlt : j < g.p.fs.length
  · have hlt2 : (j : Int) < (g.p.fs.length : Int) := by omega
    obtain ⟨f, hf⟩ : ∃ f, g.p.fs[j]? = some f := ⟨_, List.getElem?_eq_getElem hlt⟩
    obtain ⟨m, hm1, hm2, hm3⟩ := R.out.step HI.out hf
    have HJ := hid hlt
    have HF := hid hf
    have HM1 := hid hm1
    have HM2 := hid hm2
    have HM3 := hid (show CpRest g (j + 1) (L ++ m ++ [⟨22, (f.ret : Int), 0, []⟩]) (es ++ [n]) from by rw [C.out.hn]; exact hm3)
    clear hf hm1 hm2 hm3 hlt hj R
    have HOE := hid (C.out.ent.alloc (.cells #[.int .i64 (n : Nat)] 3))
    have HRD := hid (show Rd (wr.alloc (.cells #[.int .i64 (n : Nat)] 3)) 1 (.slice (some ⟨wr.heap.size, 0, none⟩) 1 1) 1 [.int .i64 (n : Nat)] from Rd.ofBlk (n := 1) (cs := [.int .i64 (n : Nat)]) (Blk.new wr _ _) rfl (by decide))
    have cn : ¬ CB = wr.heap.size := by omega
    go_wp2_with (at_builtin; revert HJ)
    intro HJ
    refine wpList_append (v := .slice EA j EC) (n := j) (m := 1) (xs := ints es) (news := [.int .i64 (n : Nat)]) rfl _ _ rfl TyInts rfl rfl HOE.out HRD.out (by simp [Value.oneCell']) (by omega) (by unfold maxLen; omega) ?_
    intro A3 c3 w3 ho3 hf3 hv3
    have hcn := C.out.cb.fr (Fr.refl nob wr) (fun x => x)
    have CB3 := hid (((C.out.cb.alloc (.cells #[.int .i64 (n : Nat)] 3))).fr hf3 (fun hm => HOE.out.blk_ne (C.out.cb.alloc _) (by decide) hm))
    have C3 := hid (C.out.entA P0.out ((Fr.refl nob wr).alloc (.cells #[.int .i64 (n : Nat)] 3)) ho3 hf3 hv3)
    clear ho3 hf3 hv3 HOE HRD C p0 p1 p2 p3 p4 p5 c0 c1 z0 z1 clt cn hcn
    have z1 := CB3.out.frozen 1
    have c1 : w3.cell? ⟨CB, 1, none⟩ = some (.slice EA j EC) := (CB3.out.cell 1).trans rfl
    have clt := CB3.out.lt
    go_wp2_with fail
    clear z1 c1 clt CB3
    generalize w3.setCell ⟨CB, 1, none⟩ (.slice A3 (j + 1) c3) = w4 at *
    have C4 := hid (C3.out.no (Fr.refl nob w4).drew)
    obtain ⟨⟨p0, p1, p2, p3, p4, p5⟩, c0, c1, z0, z1, clt⟩ := C3.out.boxes
    obtain ⟨r3, r4, flt⟩ := C3.out.func HF.out
    go_wp2_with fail
    go_still_tail 11, (by kernel_rfl)
    change wpList _ _ _ _ _ w4.drew
    clear p0 p1 p2 p3 p4 p5 c0 c1 z0 z1 clt r3 r4 flt C3
    generalize w4.drew = w5 at *
    obtain ⟨⟨p0, p1, p2, p3, p4, p5⟩, c0, c1, z0, z1, clt⟩ := C4.out.boxes
    obtain ⟨r3, r4, flt⟩ := C4.out.func HF.out
    go_wp2_with fail
    clear p0 p1 p2 p3 p4 p5 c0 c1 z0 z1 clt r3 r4 flt
    refine (HM1.out.2.2 _ _ C4.out.pg (by rw [C4.out.hn])).mono ?_
    rintro en w6 ⟨A6, c6, n6, rfl, hi, hf⟩
    have C6 := hid (C4.out.no hf)
    have J6 := hid hi
    have N6 := hid hi.len
    have hn6 : n6 ≤ 1000 := by have := N6.out; have := HM2.out; omega
    clear hf hi C4
    obtain ⟨⟨p0, p1, p2, p3, p4, p5⟩, c0, c1, z0, z1, clt⟩ := C6.out.boxes
    go_wp2_with (at_builtin; revert HJ)
    intro HJ
    refine wpList_append (v := .slice IA n IC) (n := n) (m := n6) (xs := insCells L) (news := insCells m) rfl _ _ rfl TyIns rfl rfl C6.out.ins J6.out.own.rd (insCells_one _) (by omega) (by unfold maxLen; omega) ?_
    intro A7 c7 w7 ho hf hv
    have CB7 := hid (C6.out.cb.fr hf (fun hm => C6.out.ins.blk_ne C6.out.cb (by decide) hm))
    have C7 := hid (C6.out.insA P0.out (Fr.refl nob w6) ho N6.out hf hv)
    clear ho hf hv J6 C6 p0 p1 p2 p3 p4 p5 c0 c1 z0 z1 clt
    have z1 := CB7.out.frozen 0
    have c1 : w7.cell? ⟨CB, 0, none⟩ = some (.slice IA n IC) := (CB7.out.cell 0).trans rfl
    have clt := CB7.out.lt
    go_wp2_with fail
    clear z1 c1 clt CB7
    generalize w7.setCell ⟨CB, 0, none⟩ (.slice A7 (n + n6) c7) = w8 at *
    have K8 := hid (C7.out.no (Fr.refl nob w8).drew)
    clear C7
    obtain ⟨⟨p0, p1, p2, p3, p4, p5⟩, c0, c1, z0, z1, clt⟩ := K8.out.boxes
    obtain ⟨r3, r4, flt⟩ := K8.out.func HF.out
    go_region_law (first | ((refine step_append (v := .slice A7 (n + n6) c7) (n := n + n6) (m := 1) (xs := insCells (L ++ m)) (news := insCells ([⟨22, (f.ret : Int), 0, []⟩] : List InsM)) rfl _ _ rfl TyIns rfl rfl KO.out.ins O.out.own.rd (insCells_one _) (by omega) (by unfold maxLen; omega) ?_); go_loud (intro A_z c_z wz ho hf hv); go_loud (have CZ := hid (KO.out.insA P0.out (Fr.refl nob _) ho O.out.len hf hv)); go_loud (have CBZ := hid (KO.out.cb.fr hf (fun hm => KO.out.ins.blk_ne KO.out.cb (by decide) hm))); go_loud (have c0 : wz.cell? ⟨CB, 0, none⟩ = some (.slice A7 (n + n6) c7) := (CBZ.out.cell 0).trans rfl); go_loud (have z0 := CBZ.out.frozen 0); go_loud (have clt := CBZ.out.lt); go_loud (clear ho hf hv)) | (go_simp; go_at_call 41; go_loud (refine (one_any _ ⟨22, (f.ret : Int), 0, []⟩ rfl rfl rfl rfl).mono ?_); go_loud (rintro en wo ⟨A_o, c_o, rfl, hi, hf⟩); go_loud (have KO := hid (K8.out.no hf)); go_loud (have O := hid hi); go_loud (clear hf hi); go_loud (obtain ⟨-, c0, -, z0, -, clt⟩ := KO.out.boxes)))
    all_goals
      go_wp2_with fail
      go_roundw
      case rel => exact ⟨j + 1, n + n6 + 1, _, _, A_z, c_z, A3, c3, by have := HJ.out; omega, by go_num, (by first | exact CZ | exact hid (CZ.out.no ((Fr.refl nob _).drewN _))), HM3⟩
      case measure => simp [intOf]; have := HJ.out; omega
  · have hj2 : j = g.p.fs.length := by omega
    subst hj2
    have hlt2 : ¬ (g.p.fs.length : Int) < (g.p.fs.length : Int) := by omega
    have HFIN := hid R.out.fin
    have r0 : wr.cell? ⟨RB, 0, none⟩ = some (.slice none 0 0) := (C.out.rb.cell 0).trans rfl
    have r1 : wr.cell? ⟨RB, 1, none⟩ = some (.slice none 0 0) := (C.out.rb.cell 1).trans rfl
    have q0 := C.out.rb.frozen 0
    have q1 := C.out.rb.frozen 1
    have rlt := C.out.rb.lt
    have BE := hid ((C.out.rb.setCell 0 (.slice IA n IC)).setCell 1 (.slice EA g.p.fs.length EC))
    have HRB := hid (show w.heap.size ≤ RB from HRBN.out)
    have FE := hid (show Fr nob w ((wr.setCell ⟨RB, 0, none⟩ (.slice IA n IC)).setCell ⟨RB, 1, none⟩ (.slice EA g.p.fs.length EC)) from (C.out.fr.setCell ⟨RB, 0, none⟩ _ (fun h => by have h : RB < w.heap.size := h; have := HRB.out; omega)).setCell ⟨RB, 1, none⟩ _ (fun h => by have h : RB < w.heap.size := h; have := HRB.out; omega))
    have HI2 := hid ((C.out.ins.far (p := ⟨RB, 0, none⟩) (C.out.ins.blk_ne C.out.rb (by decide)) (.slice IA n IC)).far (p := ⟨RB, 1, none⟩) (C.out.ins.blk_ne C.out.rb (by decide)) (.slice EA g.p.fs.length EC))
    have HE2 := hid ((C.out.ent.far (p := ⟨RB, 0, none⟩) (C.out.ent.blk_ne C.out.rb (by decide)) (.slice IA n IC)).far (p := ⟨RB, 1, none⟩) (C.out.ent.blk_ne C.out.rb (by decide)) (.slice EA g.p.fs.length EC))
    have HNN := hid C.out.hn
    have HJN := hid C.out.hj
    have NI := hid C.out.newi
    have NE := hid C.out.newe
    clear hlt hj R C
    go_wp2_with fail
    have y0 := (BE.out.cell 0).trans rfl
    have y1 := (BE.out.cell 1).trans rfl
    clear r0 r1 q0 q1 rlt p0 p1 p2 p3 p4 p5 c0 c1 z0 z1 clt
    generalize (wr.setCell ⟨RB, 0, none⟩ (.slice IA n IC)).setCell ⟨RB, 1, none⟩ (.slice EA g.p.fs.length EC) = wz at *
    refine bodyPost_ret (v := .agg #[.slice IA n IC, .slice EA g.p.fs.length EC]) (by simp [results, Tryz.results18, go_sem, y0, y1]) rfl ⟨_, _, rfl, ⟨?_, ?_, NI.out, NE.out⟩, FE.out⟩
    · rw [← HFIN.out.1, ← HNN.out]; exact HI2.out
    · rw [← HFIN.out.2, ← HJN.out]; exact HE2.out
end
end Go.Proofs.YtlbjicjinnnboaaGreatDoor
