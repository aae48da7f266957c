/- MK5: CkAllB, CkSrc. -/
import Derived.Test.YtlbjicjinnnboaaDoorMK4
import Derived.Test.YtlbjicjinnnboaaDoorMK1
import Derived.Test.YtlbjicjinnnboaaDoorMSg
import Derived.Test.YtlbjicjinnnboaaDoorME
import Derived.Test.YtlbjicjinnnboaaDoorMTs
set_option linter.unusedVariables false
set_option linter.unusedSimpArgs false
/- The document's checker: All. -/
namespace Go.Proofs.YtlbjicjinnnboaaDoor
open Go.RowKit
open Pw
section
variable {w : World} {lvs pvs : List Value} {ns : List NodeM} {fs : List FuncM}
theorem six_cells {cs : Array Value} (h : cs.size = 6) : ∃ a b c d e f, cs = #[a, b, c, d, e, f] := by
 obtain ⟨l⟩ := cs
 match l, h with
 | [a, b, c, d, e, f], _ => exact ⟨a, b, c, d, e, f, rfl⟩
theorem Fr.six (w : World) (T : Nat) (a b c d e f : Value) : Fr (oneb T) w ((((((w.setCell ⟨T, 0, none⟩ a).setCell ⟨T, 1, none⟩ b).setCell ⟨T, 2, none⟩ c).setCell ⟨T, 3, none⟩ d).setCell ⟨T, 4, none⟩ e).setCell ⟨T, 5, none⟩ f) :=
 (Fr.five w T a b c d e).setCell ⟨T, 5, none⟩ f (fun _ => rfl)
theorem ProgAt.farP {w w' : World} {nv fv tv sv uv zv : Value} {lvs pvs : List Value} {p : ProgM} (h : ProgAt w nv fv tv sv uv zv lvs pvs p) {RB : Nat} {cs : Array Value} (hb : Blk w RB 29 cs) (f : Fr (oneb RB) w w') : ProgAt w' nv fv tv sv uv zv lvs pvs p := by
 have own : ∀ {n : Nat} {v : Value} {xs : List Value}, Own w 3 1 v n xs → Own w' 3 1 v n xs := fun ho => ho.fr f fun b hb' hm => by
  have hm : b = RB := hm
  subst hm
  exact ho.blk_ne hb (by decide) hb'
 exact ⟨h.tree.farG hb (by decide) (by decide) (by decide) (by decide) f, own h.types, own h.slots, own h.fn, own h.sizes⟩
theorem a1_start {NA FA : Option Addr} {NC FC : Nat} (ht : TreeAt 0 w (.slice NA ns.length NC) (.slice FA fs.length FC) lvs pvs ns fs) : A1 (w.heap.size + 1 + 1) (w.heap.size + 1 + 1) w.heap.size (w.heap.size + 1) (.slice NA ns.length NC) (.slice FA fs.length FC) lvs pvs ns fs (((w.alloc (.cells #[.slice NA ns.length NC, .slice FA fs.length FC] 26)).alloc (.cells #[.slice none 0 0, .slice none 0 0, .slice none 0 0, .slice none 0 0, .slice none 0 0, .slice none 0 0] 29)).alloc (.cells #[.slice NA ns.length NC, .slice FA fs.length FC, .slice none 0 0, .slice none 0 0, .slice none 0 0, .slice none 0 0, .int .i64 0, .slice none 0 0, .int .i64 0, .int .i64 0, .int .i64 0] 67)) 0 0 0 (.slice none 0 0) (.slice none 0 0) (.slice none 0 0) := by
 have hb := Blk.new ((w.alloc (.cells #[.slice NA ns.length NC, .slice FA fs.length FC] 26)).alloc (.cells #[.slice none 0 0, .slice none 0 0, .slice none 0 0, .slice none 0 0, .slice none 0 0, .slice none 0 0] 29)) 67 #[.slice NA ns.length NC, .slice FA fs.length FC, .slice none 0 0, .slice none 0 0, .slice none 0 0, .slice none 0 0, .int .i64 0, .slice none 0 0, .int .i64 0, .int .i64 0, .int .i64 0]
 have h1 := ((Blk.new w 26 #[.slice NA ns.length NC, .slice FA fs.length FC]).alloc (.cells #[.slice none 0 0, .slice none 0 0, .slice none 0 0, .slice none 0 0, .slice none 0 0, .slice none 0 0] 29)).alloc (.cells #[.slice NA ns.length NC, .slice FA fs.length FC, .slice none 0 0, .slice none 0 0, .slice none 0 0, .slice none 0 0, .int .i64 0, .slice none 0 0, .int .i64 0, .int .i64 0, .int .i64 0] 67)
 have h2 := (Blk.new (w.alloc (.cells #[.slice NA ns.length NC, .slice FA fs.length FC] 26)) 29 #[.slice none 0 0, .slice none 0 0, .slice none 0 0, .slice none 0 0, .slice none 0 0, .slice none 0 0]).alloc (.cells #[.slice NA ns.length NC, .slice FA fs.length FC, .slice none 0 0, .slice none 0 0, .slice none 0 0, .slice none 0 0, .int .i64 0, .slice none 0 0, .int .i64 0, .int .i64 0, .int .i64 0] 67)
 simp only [World.size_alloc] at hb h2
 have hl := (TreeLow.of ht).keep (w' := (((w.alloc (.cells #[.slice NA ns.length NC, .slice FA fs.length FC] 26)).alloc (.cells #[.slice none 0 0, .slice none 0 0, .slice none 0 0, .slice none 0 0, .slice none 0 0, .slice none 0 0] 29)).alloc (.cells #[.slice NA ns.length NC, .slice FA fs.length FC, .slice none 0 0, .slice none 0 0, .slice none 0 0, .slice none 0 0, .int .i64 0, .slice none 0 0, .int .i64 0, .int .i64 0, .int .i64 0] 67))) (fun b hb => by rw [Below.heap_alloc _ _ _ (by simp; omega), Below.heap_alloc _ _ _ (by simp; omega), Below.heap_alloc _ _ _ hb]) (by simp; omega)
 exact ⟨hl.up (by omega) (by simp), hb, h1, ⟨_, h2, rfl⟩, Own.nil _ _ _, Own.nil _ _ _, Own.nil _ _ _, Nat.le_refl _, fun x hx => by simp [blk] at hx, fun x hx => by simp [blk] at hx, fun x hx => by simp [blk] at hx, fun x hx => by simp [blk] at hx, fun x hx => by simp [blk] at hx, fun x hx => by simp [blk] at hx⟩
set_option maxHeartbeats 8000000 in
set_option maxRecDepth 100000 in
theorem checkAll_any {NA FA : Option Addr} {NC FC : Nat} (ht : TreeAt 0 w (.slice NA ns.length NC) (.slice FA fs.length FC) lvs pvs ns fs) (hok : TreeOk ns fs) (hk : ∀ nd ∈ ns, nd.l.length ≤ 300) :
  Calls Tryd.prog 10 #[.agg #[.slice NA ns.length NC, .slice FA fs.length FC]] w fun en w' => CheckAt w' en (.slice NA ns.length NC) (.slice FA fs.length FC) lvs pvs (checkT ns fs) ∧ Fr nob w w' := by
 have hns := hok.few
 have hfs := hok.fewf
 have hn3 : (ns.length : Int) ≤ 300 := by omega
 have hf3 : (fs.length : Int) ≤ 6 := by omega
 have HO := hid hok
 have HKD := hid hk
 have SA := hid (a1_start ht)
 have FA0 := hid (show Fr (fun b => w.heap.size ≤ b) w (((w.alloc (.cells #[.slice NA ns.length NC, .slice FA fs.length FC] 26)).alloc (.cells #[.slice none 0 0, .slice none 0 0, .slice none 0 0, .slice none 0 0, .slice none 0 0, .slice none 0 0] 29)).alloc (.cells #[.slice NA ns.length NC, .slice FA fs.length FC, .slice none 0 0, .slice none 0 0, .slice none 0 0, .slice none 0 0, .int .i64 0, .slice none 0 0, .int .i64 0, .int .i64 0, .int .i64 0] 67)) from (((Fr.refl _ w).alloc _).alloc _).alloc _)
 clear ht hok hk
 go_enter Tryd.func10, Tryd.ntmps10
 go_wp2_with fail
 generalize ((w.alloc (.cells #[.slice NA ns.length NC, .slice FA fs.length FC] 26)).alloc (.cells #[.slice none 0 0, .slice none 0 0, .slice none 0 0, .slice none 0 0, .slice none 0 0, .slice none 0 0] 29)).alloc (.cells #[.slice NA ns.length NC, .slice FA fs.length FC, .slice none 0 0, .slice none 0 0, .slice none 0 0, .slice none 0 0, .int .i64 0, .slice none 0 0, .int .i64 0, .int .i64 0, .int .i64 0] 67) = w1 at *
 generalize hG : w.heap.size + 1 + 1 = G at *
 generalize hR : w.heap.size + 1 = RB at *
 generalize hB : w.heap.size = TB at *
 have HB := hid (show TB ≤ G ∧ TB < G ∧ RB < G ∧ TB ≤ RB ∧ w.heap.size = TB from ⟨by omega, by omega, by omega, by omega, hB⟩)
 clear hG hR hB
 go_loopw [6] (fun i wr => ∃ (j : Nat) (A1' A2 A3 : Option Addr) (c1 c2 c3 : Nat), j ≤ ns.length ∧ i = .int .i64 j ∧ Hid (A1 G G TB RB (.slice NA ns.length NC) (.slice FA fs.length FC) lvs pvs ns fs wr j j j (.slice A1' j c1) (.slice A2 j c2) (.slice A3 j c3)) ∧ Hid (Fr (fun b => TB ≤ b) w wr)) (fun i _ => ns.length - (intOf i).toNat)
 case atStart => exact ⟨0, none, none, none, 0, 0, 0, Nat.zero_le _, rfl, SA, FA0⟩
 case round =>
  clear SA FA0
  obtain ⟨j, A1, A2, A3, c1, c2, c3, hj, rfl, S0, FR⟩ := hrel
  have t0 : wr.cell? ⟨TB, 0, none⟩ = some (.slice NA ns.length NC) := (S0.out.tb.cell 0).trans rfl
  have t1 : wr.cell? ⟨TB, 1, none⟩ = some (.slice FA fs.length FC) := (S0.out.tb.cell 1).trans rfl
  by_cases hlt : j < ns.length
  · have hlt2 : (j : Int) < (ns.length : Int) := by omega
    have hj6 : (j : Int) ≤ 300 := by omega
    have e2 : wr.cell? ⟨G, 2, none⟩ = some (.slice A1 j c1) := (S0.out.blk_.cell 2).trans rfl
    have glt := S0.out.blk_.lt
    have gn : ¬ G = wr.heap.size := by omega
    go_wp2_with (first | (at_builtin; (refine wpList_append (v := .slice A1 j c1) (n := j) (m := 1) (xs := ints (List.replicate j 0)) (news := [.int .i64 0]) rfl _ _ rfl TyInts rfl rfl (S0.out.types.alloc _) (Rd.ofBlk (n := 1) (cs := [.int .i64 0]) (Blk.new _ _ _) rfl (by decide)) (by simp [Value.oneCell']) (by omega) (by unfold maxLen; omega) ?_); go_loud (intro A6 d6 w6 ho6 hf6 hv6); go_loud (have S1 := hid (S0.out.appT ho6 hf6 hv6)); go_loud (have b6 := blk_far S0.out.blk_ S0.out.types (by decide) hf6); go_loud (have f6 := b6.frozen 2); go_loud (have e6 : w6.cell? ⟨G, 2, none⟩ = some (.slice A1 j c1) := (b6.cell 2).trans rfl); go_loud (have k6 : w6.cell? ⟨G, 3, none⟩ = some (.slice A2 j c2) := (b6.cell 3).trans rfl); go_loud (have gl6 := b6.lt); go_loud (have gn6 : ¬ G = w6.heap.size := by omega); go_loud (have F6 := hid (fr_app HB.out.1 FR.out S0.out.ht hf6 S0.out.hg 2 (v := .slice A6 (j + 1) d6))); go_loud (clear ho6 hf6 hv6 b6)) | (at_builtin; (refine wpList_append (v := .slice A2 j c2) (n := j) (m := 1) (xs := intsI (List.replicate j (-1))) (news := [.int .i64 (-1)]) rfl _ _ rfl TyInts rfl rfl (S1.out.slots.alloc _) (Rd.ofBlk (n := 1) (cs := [.int .i64 (-1)]) (Blk.newSet _ _ _ _ _) rfl (by decide)) (by simp [Value.oneCell']) (by omega) (by unfold maxLen; omega) ?_); go_loud (intro A7 d7 w7 ho7 hf7 hv7); go_loud (have S2 := hid (S1.out.appS ho7 hf7 hv7)); go_loud (have b7 := blk_far S1.out.blk_ S1.out.slots (by decide) hf7); go_loud (have f7 := b7.frozen 3); go_loud (have e7 : w7.cell? ⟨G, 3, none⟩ = some (.slice A2 j c2) := (b7.cell 3).trans rfl); go_loud (have k7 : w7.cell? ⟨G, 4, none⟩ = some (.slice A3 j c3) := (b7.cell 4).trans rfl); go_loud (have gl7 := b7.lt); go_loud (have gn7 : ¬ G = w7.heap.size := by omega); go_loud (have F7 := hid (fr_app HB.out.1 F6.out S1.out.hs hf7 S1.out.hg 3 (v := .slice A7 (j + 1) d7))); go_loud (clear ho7 hf7 hv7 b7)) | (at_builtin; (refine wpList_append (v := .slice A3 j c3) (n := j) (m := 1) (xs := ints (List.replicate j 0)) (news := [.int .i64 0]) rfl _ _ rfl TyInts rfl rfl (S2.out.fn.alloc _) (Rd.ofBlk (n := 1) (cs := [.int .i64 0]) (Blk.newSet _ _ _ _ _) rfl (by decide)) (by simp [Value.oneCell']) (by omega) (by unfold maxLen; omega) ?_); go_loud (intro A8 d8 w8 ho8 hf8 hv8); go_loud (have S3 := hid (S2.out.appF ho8 hf8 hv8)); go_loud (have b8 := blk_far S2.out.blk_ S2.out.fn (by decide) hf8); go_loud (have f8 := b8.frozen 4); go_loud (have e8 : w8.cell? ⟨G, 4, none⟩ = some (.slice A3 j c3) := (b8.cell 4).trans rfl); go_loud (have gl8 := b8.lt); go_loud (have gn8 : ¬ G = w8.heap.size := by omega); go_loud (have F8 := hid (fr_app HB.out.1 F7.out S2.out.hf hf8 S2.out.hg 4 (v := .slice A8 (j + 1) d8))); go_loud (clear ho8 hf8 hv8 b8)))
    go_roundw
    case rel => exact ⟨j + 1, _, _, _, _, _, _, by omega, by go_num, S3, F8⟩
    case measure => simp [intOf]; omega
  · have hle : (ns.length : Int) ≤ (j : Int) := by omega
    have hje : j = ns.length := by omega
    subst hje
    clear hlt
    go_wp2_with fail
    refine (cheads_any S0.out.blk_ S0.out.tree.tree hfs HO.out.pars).mono ?_
    rintro en w2 ⟨rfl, f2, e, p, hb2, hm⟩
    have FRH := hid (show Fr (fun b => TB ≤ b) w w2 from FR.out.trans f2 (fun _ _ x => x) (fun b _ hb => by rw [show b = G from hb]; exact HB.out.1))
    have T2 := hid (show Blk w2 TB 26 #[.slice NA ns.length NC, .slice FA fs.length FC] from S0.out.tb.fr f2 (fun hb => by have h1 : TB = G := hb; have := HB.out.2.1; omega))
    have R2 := hid (show ∃ cs, Blk w2 RB 29 cs ∧ cs.size = 6 from by
     obtain ⟨cs, h1, h2⟩ := S0.out.rb
     exact ⟨cs, h1.fr f2 (fun hb => by have h1 : RB = G := hb; have := HB.out.2.2.1; omega), h2⟩)
    have LL := hid (show L2 G (.slice NA ns.length NC) (.slice FA fs.length FC) lvs pvs ns fs 0 w2 e p from by
     refine ⟨(hb2.cell 9).trans rfl, (hb2.cell 10).trans rfl, hb2.lt, ?_⟩
     rcases hm with ⟨rfl, rfl, h3⟩ | ⟨h1, h2, h3⟩
     · have hne : 0 < fs.length := by
         cases hfs' : fs with
         | nil => rw [hfs'] at h3; cases h3
         | cons a l => simp
       have hnn : 0 < ns.length := by
         obtain ⟨c, hc, _⟩ := HO.out.bodies _ (List.getElem_mem hne)
         have := (List.getElem?_eq_some_iff.1 hc).1; omega
       obtain ⟨bt, bs, bf, hck⟩ := S0.out.toCk HO.out HKD.out hnn hne
       refine .inl ⟨rfl, rfl, h3, hne, geoOf G wr.heap.size G bt bs bf c1 c2 c3 (.slice NA ns.length NC) (.slice FA fs.length FC) lvs pvs ns fs, [], startC ns, 0, ?_, rfl, rfl, rfl, rfl, rfl, rfl, rfl, rfl, rfl, rfl, by rw [List.take_zero]; rfl⟩
       have hneg := hck.gne
       refine hck.keep f2.size fun b hbl hbb => ?_
       by_cases hbg : b = G
       · subst hbg
         have e1 : w2.heap[b]? = some (.cells (hcells (.slice NA ns.length NC) (.slice FA fs.length FC) (.slice A1 ns.length c1) (.slice A2 ns.length c2) (.slice A3 ns.length c3) (.slice none 0 0) (.slice none 0 0) 0 0 0 0) 67 (0, 0)) := hb2
         have e3 : wr.heap[b]? = some (.cells (hcells (.slice NA ns.length NC) (.slice FA fs.length FC) (.slice A1 ns.length c1) (.slice A2 ns.length c2) (.slice A3 ns.length c3) (.slice none 0 0) (.slice none 0 0) 0 0 0 0) 67 (0, 0)) := S0.out.blk_
         rw [e1, e3]
       · exact f2.block b hbl hbg
     · refine .inr ⟨h1, h2, ?_⟩
       unfold checkT
       rw [h3]; rfl)
    clear S0 FR f2 hb2 hm t0 t1 hle hj
    go_wp2_with fail
    go_loopw [7] (fun i wq => ∃ (j e p : Nat), j ≤ fs.length ∧ i = .int .i64 j ∧ Hid (L2 G (.slice NA ns.length NC) (.slice FA fs.length FC) lvs pvs ns fs j wq e p) ∧ Hid (Blk wq TB 26 #[.slice NA ns.length NC, .slice FA fs.length FC]) ∧ Hid (∃ cs, Blk wq RB 29 cs ∧ cs.size = 6) ∧ Hid (Fr (fun b => TB ≤ b) w wq)) (fun i _ => fs.length - (intOf i).toNat)
    case atStart => exact ⟨0, e, p, Nat.zero_le _, rfl, LL, T2, R2, FRH⟩
    case round =>
     clear LL T2 R2 FRH
     obtain ⟨j, e, p, hj, rfl, LL, T2, R2, FR⟩ := hrel
     have t0 : wr.cell? ⟨TB, 0, none⟩ = some (.slice NA ns.length NC) := (T2.out.cell 0).trans rfl
     have t1 : wr.cell? ⟨TB, 1, none⟩ = some (.slice FA fs.length FC) := (T2.out.cell 1).trans rfl
     have c9 := LL.out.1
     have glt := LL.out.2.2.1
     by_cases hgo : j < fs.length ∧ e = 0
     · obtain ⟨hlt, rfl⟩ := hgo
       have hlt2 : (j : Int) < (fs.length : Int) := by omega
       rcases LL.out.2.2.2 with ⟨_, rfl, hh, hf0, GG, zs, s, k, hck, g1, g2, g3, g4, g5, g6, g7, g8, g9, hzl, hfu⟩ | ⟨h0, _⟩
       case inr => exact absurd rfl h0
       obtain ⟨f, hf⟩ : ∃ f, fs[j]? = some f := ⟨_, List.getElem?_eq_getElem hlt⟩
       have hbd := HO.out.bodies f (List.mem_of_getElem? hf)
       have HC := hid (cfunction_any (k := j) g3 (by rw [g9]; exact heads_uniq hh) hck (by rw [g9]; exact hf) (by omega) (by obtain ⟨c, hc, _⟩ := hbd; rw [g8]; exact (List.getElem?_eq_some_iff.1 hc).1) (fun nd hnd => by
         obtain ⟨c, hc, hcb⟩ := hbd
         rw [g8, hc] at hnd; injection hnd with hnd; subst hnd
         simpa [clsB] using hcb))
       have HJ := hid hlt
       have HX := hid (And.intro hh (And.intro hf0 (And.intro hf (And.intro hzl hfu))))
       have HG := hid (And.intro g1 (And.intro g2 (And.intro g3 (And.intro g4 (And.intro g5 (And.intro g6 (And.intro g7 (And.intro g8 g9))))))))
       rw [g2] at HC
       clear hck g1 g2 g3 g4 g5 g6 g7 g8 g9 hh hf0 hzl hfu hf hbd hlt
       go_wp2_with fail
       refine HC.out.mono ?_
       rintro en w5 ⟨rfl, hk5, f5⟩
       obtain ⟨g1, g2, g3, g4, g5, g6, g7, g8, g9⟩ := HG.out
       rw [g1] at f5
       rw [g8, g9] at hk5
       have F5 := hid (show Fr (fun b => TB ≤ b) w w5 from FR.out.trans f5 (fun _ _ x => x) (fun b _ hb => Nat.le_trans HB.out.1 hb))
       have T5 := hid (show Blk w5 TB 26 #[.slice NA ns.length NC, .slice FA fs.length FC] from T2.out.fr f5 (fun hb => by have h1 : G ≤ TB := hb; have := HB.out.2.1; omega))
       have R5 := hid (show ∃ cs, Blk w5 RB 29 cs ∧ cs.size = 6 from by
         obtain ⟨cs, h1, h2⟩ := R2.out
         exact ⟨cs, h1.fr f5 (fun hb => by have h1 : G ≤ RB := hb; have := HB.out.2.2.1; omega), h2⟩)
       have L5 := hid (show ∃ e p, L2 G (.slice NA ns.length NC) (.slice FA fs.length FC) lvs pvs ns fs (j + 1) w5 e p from by
         obtain ⟨hh, hf0, hf, hzl, hfu⟩ := HX.out
         have hT : fs.take (j + 1) = fs.take j ++ [f] := by rw [List.take_add_one, hf]; rfl
         have hlj : (fs.take j).length = j := by rw [List.length_take]; omega
         cases hfn : funcC ns fs j f s with
         | good s' =>
           rw [hfn] at hk5
           obtain ⟨Z, hc5⟩ := hk5
           obtain ⟨_, _, -, -, -, -, -, -, -, -, -, c9, c10, -⟩ := hc5.cells
           have hgl := hc5.g_lt
           have g2' : (GG.atZ Z).g = G := g2
           rw [g2'] at c9 c10 hgl
           refine ⟨0, 0, c9, c10, hgl, .inl ⟨rfl, rfl, hh, hf0, GG.atZ Z, zs ++ [s'.size], s', j, hc5, g1, g2, g3, g4, g5, g6, g7, g8, g9, by rw [List.length_append, hzl]; rfl, ?_⟩⟩
           rw [hT, funcsC_snoc, hfu, CkR.bind_good, hlj, Nat.zero_add, hfn]; rfl
         | bad e' p' =>
           rw [hfn] at hk5
           obtain ⟨h1, h2, Z, s', zs', hc5⟩ := hk5
           obtain ⟨_, _, -, -, -, -, -, -, -, -, -, c9, c10, -⟩ := hc5.cells
           have hgl := hc5.g_lt
           have g2' : (GG.atZ Z).more.g = G := g2
           rw [g2'] at c9 c10 hgl
           refine ⟨e', p', c9, c10, hgl, .inr ⟨h1, h2, ?_⟩⟩
           unfold checkT
           rw [hh, CkR.bind_good]
           have hb : funcsC ns fs 0 (fs.take (j + 1)) [] (startC ns) = .bad e' p' := by
            rw [hT, funcsC_snoc, hfu, CkR.bind_good, hlj, Nat.zero_add, hfn]; rfl
           have := funcsC_bad ns fs (fs.take (j + 1)) (fs.drop (j + 1)) 0 [] (startC ns) hb
           rw [List.take_append_drop] at this
           rw [this]; rfl)
       clear hk5 f5 g1 g2 g3 g4 g5 g6 g7 g8 g9 HC HX HG LL T2 R2 FR t0 t1 c9 glt
       obtain ⟨e', p', L6⟩ := L5.out
       have L7 := hid L6
       clear L6 L5
       go_wp2_with fail
       go_roundw
       case rel => exact ⟨j + 1, e', p', by have := HJ.out; omega, by go_num, L7, T5, R5, F5⟩
       case measure => simp [intOf]; have := HJ.out; omega
     · have c10 := LL.out.2.1
       obtain ⟨cs, hrb, hsz⟩ := R2.out
       obtain ⟨a0, a1, a2, a3, a4, a5, rfl⟩ := six_cells hsz
       have HRB := hid HB.out.2.2.2.1
       have r0 : wr.cell? ⟨RB, 0, none⟩ = some a0 := (hrb.cell 0).trans rfl
       have r1 : wr.cell? ⟨RB, 1, none⟩ = some a1 := (hrb.cell 1).trans rfl
       have r2 : wr.cell? ⟨RB, 2, none⟩ = some a2 := (hrb.cell 2).trans rfl
       have r3 : wr.cell? ⟨RB, 3, none⟩ = some a3 := (hrb.cell 3).trans rfl
       have r4 : wr.cell? ⟨RB, 4, none⟩ = some a4 := (hrb.cell 4).trans rfl
       have r5 : wr.cell? ⟨RB, 5, none⟩ = some a5 := (hrb.cell 5).trans rfl
       have z0 := hrb.frozen 0
       have z1 := hrb.frozen 1
       have z2 := hrb.frozen 2
       have z3 := hrb.frozen 3
       have z4 := hrb.frozen 4
       have z5 := hrb.frozen 5
       have rlt := hrb.lt
       have gnr : ¬ G = RB := by have := HB.out.2.2.1; omega
       have HRBL := hid hrb
       clear hsz hrb
       by_cases he : e = 0
       · have hje : ¬ j < fs.length := fun h => hgo ⟨h, he⟩
         have hje2 : j = fs.length := by omega
         subst hje2
         rcases LL.out.2.2.2 with ⟨-, hp0, hh, hf0, GG, zs, s, k, hck, g1, g2, g3, g4, g5, g6, g7, g8, g9, hzl, hfu⟩ | ⟨h0, _⟩
         case inr => exact absurd he h0
         rw [List.take_of_length_le (by omega)] at hfu
         have CA := hid (show checkT ns fs = .good (⟨ns, fs, s.types, s.slots, s.fn, zs⟩ : ProgM) from by unfold checkT; rw [hh, CkR.bind_good, hfu]; rfl)
         obtain ⟨M, B, Z, gg, bt, bq, bf, ct, cq, cf, nv, fv, lv, pv, nn, ff⟩ := GG
         dsimp only at g1 g2 g3 g4 g5 g6 g7 g8 g9
         have g1' := g1.symm
         subst g1'
         have g2' := g2.symm
         subst g2'
         have g4' := g4.symm
         subst g4'
         have g5' := g5.symm
         subst g5'
         have g6' := g6.symm
         subst g6'
         have g7' := g7.symm
         subst g7'
         have g8' := g8.symm
         subst g8'
         have g9' := g9.symm
         subst g9'
         obtain ⟨zv, vv, hb, hz, -⟩ := hck.ex
         obtain ⟨ZA, ZC, rfl, -, -⟩ := hz.cap
         have c0 : wr.cell? ⟨G, 0, none⟩ = some (.slice NA ns.length NC) := (hb.cell 0).trans rfl
         have c1 : wr.cell? ⟨G, 1, none⟩ = some (.slice FA fs.length FC) := (hb.cell 1).trans rfl
         have c2 : wr.cell? ⟨G, 2, none⟩ = some (.slice (some ⟨bt, 0, none⟩) ns.length ct) := (hb.cell 2).trans rfl
         have c3 : wr.cell? ⟨G, 3, none⟩ = some (.slice (some ⟨bq, 0, none⟩) ns.length cq) := (hb.cell 3).trans rfl
         have c4 : wr.cell? ⟨G, 4, none⟩ = some (.slice (some ⟨bf, 0, none⟩) ns.length cf) := (hb.cell 4).trans rfl
         have c5 : wr.cell? ⟨G, 5, none⟩ = some (.slice ZA zs.length ZC) := (hb.cell 5).trans rfl
         have HPR := hid (show ProgAt wr (.slice NA ns.length NC) (.slice FA fs.length FC) (.slice (some ⟨bt, 0, none⟩) ns.length ct) (.slice (some ⟨bq, 0, none⟩) ns.length cq) (.slice (some ⟨bf, 0, none⟩) ns.length cf) (.slice ZA zs.length ZC) lvs pvs (⟨ns, fs, s.types, s.slots, s.fn, zs⟩ : ProgM) from
           ⟨hck.tree.tree, by have h9 := hck.types; have h8 := h9.len; simp [ints] at h8; rw [show s.types.length = ns.length from h8]; exact h9, by have h9 := hck.slots; have h8 := h9.len; simp [intsI] at h8; rw [show s.slots.length = ns.length from h8]; exact h9, by have h9 := hck.fn; have h8 := h9.len; simp [ints] at h8; rw [show s.fn.length = ns.length from h8]; exact h9, hz⟩)
         have hne : ((e : Int) != 0) = false := by rw [he]; rfl
         have heb : ((e : Int) == 0) = true := by rw [he]; rfl
         clear hck hb hz hh hf0 hzl hfu hp0 g1 g2 g3 g4 g5 g6 g7 g8 g9
         have BE := hid (show Blk ((((((wr.setCell ⟨RB, 0, none⟩ (.slice NA ns.length NC)).setCell ⟨RB, 1, none⟩ (.slice FA fs.length FC)).setCell ⟨RB, 2, none⟩ (.slice (some ⟨bt, 0, none⟩) ns.length ct)).setCell ⟨RB, 3, none⟩ (.slice (some ⟨bq, 0, none⟩) ns.length cq)).setCell ⟨RB, 4, none⟩ (.slice (some ⟨bf, 0, none⟩) ns.length cf)).setCell ⟨RB, 5, none⟩ (.slice ZA zs.length ZC)) RB 29 #[.slice NA ns.length NC, .slice FA fs.length FC, .slice (some ⟨bt, 0, none⟩) ns.length ct, .slice (some ⟨bq, 0, none⟩) ns.length cq, .slice (some ⟨bf, 0, none⟩) ns.length cf, .slice ZA zs.length ZC] from (((((HRBL.out.setCell 0 (.slice NA ns.length NC)).setCell 1 (.slice FA fs.length FC)).setCell 2 (.slice (some ⟨bt, 0, none⟩) ns.length ct)).setCell 3 (.slice (some ⟨bq, 0, none⟩) ns.length cq)).setCell 4 (.slice (some ⟨bf, 0, none⟩) ns.length cf)).setCell 5 (.slice ZA zs.length ZC))
         have FE := hid (show Fr nob w ((((((wr.setCell ⟨RB, 0, none⟩ (.slice NA ns.length NC)).setCell ⟨RB, 1, none⟩ (.slice FA fs.length FC)).setCell ⟨RB, 2, none⟩ (.slice (some ⟨bt, 0, none⟩) ns.length ct)).setCell ⟨RB, 3, none⟩ (.slice (some ⟨bq, 0, none⟩) ns.length cq)).setCell ⟨RB, 4, none⟩ (.slice (some ⟨bf, 0, none⟩) ns.length cf)).setCell ⟨RB, 5, none⟩ (.slice ZA zs.length ZC)) from (FR.out.trans (M := fun b => TB ≤ b) (Fr.six wr RB (.slice NA ns.length NC) (.slice FA fs.length FC) (.slice (some ⟨bt, 0, none⟩) ns.length ct) (.slice (some ⟨bq, 0, none⟩) ns.length cq) (.slice (some ⟨bf, 0, none⟩) ns.length cf) (.slice ZA zs.length ZC)) (fun _ _ x => x) (fun b _ hb => by rw [show b = RB from hb]; exact HRB.out)).mono (fun b hb hm => by have h9 := HB.out.2.2.2.2; have hm : TB ≤ b := hm; omega))
         have PE := hid (HPR.out.farP HRBL.out (show Fr (oneb RB) wr ((((((wr.setCell ⟨RB, 0, none⟩ (.slice NA ns.length NC)).setCell ⟨RB, 1, none⟩ (.slice FA fs.length FC)).setCell ⟨RB, 2, none⟩ (.slice (some ⟨bt, 0, none⟩) ns.length ct)).setCell ⟨RB, 3, none⟩ (.slice (some ⟨bq, 0, none⟩) ns.length cq)).setCell ⟨RB, 4, none⟩ (.slice (some ⟨bf, 0, none⟩) ns.length cf)).setCell ⟨RB, 5, none⟩ (.slice ZA zs.length ZC)) from Fr.six wr RB (.slice NA ns.length NC) (.slice FA fs.length FC) (.slice (some ⟨bt, 0, none⟩) ns.length ct) (.slice (some ⟨bq, 0, none⟩) ns.length cq) (.slice (some ⟨bf, 0, none⟩) ns.length cf) (.slice ZA zs.length ZC)))
         clear he hgo hje
         go_wp2_with fail
         all_goals
           clear r0 r1 r2 r3 r4 r5 z0 z1 z2 z3 z4 z5
           generalize (((((wr.setCell ⟨RB, 0, none⟩ (.slice NA ns.length NC)).setCell ⟨RB, 1, none⟩ (.slice FA fs.length FC)).setCell ⟨RB, 2, none⟩ (.slice (some ⟨bt, 0, none⟩) ns.length ct)).setCell ⟨RB, 3, none⟩ (.slice (some ⟨bq, 0, none⟩) ns.length cq)).setCell ⟨RB, 4, none⟩ (.slice (some ⟨bf, 0, none⟩) ns.length cf)).setCell ⟨RB, 5, none⟩ (.slice ZA zs.length ZC) = wz at *
           have z0 : wz.cell? ⟨RB, 0, none⟩ = some (.slice NA ns.length NC) := (BE.out.cell 0).trans rfl
           have z1 : wz.cell? ⟨RB, 1, none⟩ = some (.slice FA fs.length FC) := (BE.out.cell 1).trans rfl
           have z2 : wz.cell? ⟨RB, 2, none⟩ = some (.slice (some ⟨bt, 0, none⟩) ns.length ct) := (BE.out.cell 2).trans rfl
           have z3 : wz.cell? ⟨RB, 3, none⟩ = some (.slice (some ⟨bq, 0, none⟩) ns.length cq) := (BE.out.cell 3).trans rfl
           have z4 : wz.cell? ⟨RB, 4, none⟩ = some (.slice (some ⟨bf, 0, none⟩) ns.length cf) := (BE.out.cell 4).trans rfl
           have z5 : wz.cell? ⟨RB, 5, none⟩ = some (.slice ZA zs.length ZC) := (BE.out.cell 5).trans rfl
           go_wp2_with fail
           refine bodyPost_ret (v := .tuple #[.agg #[.slice NA ns.length NC, .slice FA fs.length FC, .slice (some ⟨bt, 0, none⟩) ns.length ct, .slice (some ⟨bq, 0, none⟩) ns.length cq, .slice (some ⟨bf, 0, none⟩) ns.length cf, .slice ZA zs.length ZC], .int .i64 0, .int .i64 0]) (by simp [results, Tryd.results10, go_sem, z0, z1, z2, z3, z4, z5]) rfl ⟨by rw [CA.out]; exact ⟨_, _, _, _, rfl, by first | exact PE.out | exact PE.out.no ((Fr.refl nob _).drew)⟩, by first | exact FE.out | exact FE.out.drew⟩
       · by_cases hlt : j < fs.length
         · have hlt2 : (j : Int) < (fs.length : Int) := by omega
           have heb : ((e : Int) == 0) = false := beq_eq_false_iff_ne.2 (by omega)
           have hne : ((e : Int) != 0) = true := by rw [bne, beq_eq_false_iff_ne.2 (by omega)]; rfl
           have CA := hid (show checkT ns fs = .bad e p ∧ e ≠ 0 ∧ e ≤ 99 from by
            rcases LL.out.2.2.2 with ⟨h1, _⟩ | ⟨h1, h2, h3⟩
            · exact absurd h1 he
            · exact ⟨h3, h1, h2⟩)
           have BE := hid (show Blk ((((((wr.setCell ⟨RB, 0, none⟩ (.slice none 0 0)).setCell ⟨RB, 1, none⟩ (.slice none 0 0)).setCell ⟨RB, 2, none⟩ (.slice none 0 0)).setCell ⟨RB, 3, none⟩ (.slice none 0 0)).setCell ⟨RB, 4, none⟩ (.slice none 0 0)).setCell ⟨RB, 5, none⟩ (.slice none 0 0)) RB 29 #[.slice none 0 0, .slice none 0 0, .slice none 0 0, .slice none 0 0, .slice none 0 0, .slice none 0 0] from (((((HRBL.out.setCell 0 (.slice none 0 0)).setCell 1 (.slice none 0 0)).setCell 2 (.slice none 0 0)).setCell 3 (.slice none 0 0)).setCell 4 (.slice none 0 0)).setCell 5 (.slice none 0 0))
           have FE := hid (show Fr nob w ((((((wr.setCell ⟨RB, 0, none⟩ (.slice none 0 0)).setCell ⟨RB, 1, none⟩ (.slice none 0 0)).setCell ⟨RB, 2, none⟩ (.slice none 0 0)).setCell ⟨RB, 3, none⟩ (.slice none 0 0)).setCell ⟨RB, 4, none⟩ (.slice none 0 0)).setCell ⟨RB, 5, none⟩ (.slice none 0 0)) from (FR.out.trans (M := fun b => TB ≤ b) (Fr.six wr RB (.slice none 0 0) (.slice none 0 0) (.slice none 0 0) (.slice none 0 0) (.slice none 0 0) (.slice none 0 0)) (fun _ _ x => x) (fun b _ hb => by rw [show b = RB from hb]; exact HRB.out)).mono (fun b hb hm => by have h9 := HB.out.2.2.2.2; have hm : TB ≤ b := hm; omega))
           clear he hlt hgo
           go_wp2_with fail
           go_region_law (fail)
           all_goals
            clear r0 r1 r2 r3 r4 r5 z0 z1 z2 z3 z4 z5
            generalize (((((wr.setCell ⟨RB, 0, none⟩ (.slice none 0 0)).setCell ⟨RB, 1, none⟩ (.slice none 0 0)).setCell ⟨RB, 2, none⟩ (.slice none 0 0)).setCell ⟨RB, 3, none⟩ (.slice none 0 0)).setCell ⟨RB, 4, none⟩ (.slice none 0 0)).setCell ⟨RB, 5, none⟩ (.slice none 0 0) = wz at *
            have z0 : wz.cell? ⟨RB, 0, none⟩ = some (.slice none 0 0) := (BE.out.cell 0).trans rfl
            have z1 : wz.cell? ⟨RB, 1, none⟩ = some (.slice none 0 0) := (BE.out.cell 1).trans rfl
            have z2 : wz.cell? ⟨RB, 2, none⟩ = some (.slice none 0 0) := (BE.out.cell 2).trans rfl
            have z3 : wz.cell? ⟨RB, 3, none⟩ = some (.slice none 0 0) := (BE.out.cell 3).trans rfl
            have z4 : wz.cell? ⟨RB, 4, none⟩ = some (.slice none 0 0) := (BE.out.cell 4).trans rfl
            have z5 : wz.cell? ⟨RB, 5, none⟩ = some (.slice none 0 0) := (BE.out.cell 5).trans rfl
            go_wp2_with fail
            refine bodyPost_ret (v := .tuple #[.agg #[.slice none 0 0, .slice none 0 0, .slice none 0 0, .slice none 0 0, .slice none 0 0, .slice none 0 0], .int .i64 p, .int .i64 e]) (by simp [results, Tryd.results10, go_sem, z0, z1, z2, z3, z4, z5]) rfl ⟨by rw [CA.out.1]; exact ⟨rfl, CA.out.2⟩, by first | exact FE.out | exact FE.out.drew⟩
         · have hje2 : j = fs.length := by omega
           subst hje2
           have heb : ((e : Int) == 0) = false := beq_eq_false_iff_ne.2 (by omega)
           have hne : ((e : Int) != 0) = true := by rw [bne, beq_eq_false_iff_ne.2 (by omega)]; rfl
           have CA := hid (show checkT ns fs = .bad e p ∧ e ≠ 0 ∧ e ≤ 99 from by
            rcases LL.out.2.2.2 with ⟨h1, _⟩ | ⟨h1, h2, h3⟩
            · exact absurd h1 he
            · exact ⟨h3, h1, h2⟩)
           have BE := hid (show Blk ((((((wr.setCell ⟨RB, 0, none⟩ (.slice none 0 0)).setCell ⟨RB, 1, none⟩ (.slice none 0 0)).setCell ⟨RB, 2, none⟩ (.slice none 0 0)).setCell ⟨RB, 3, none⟩ (.slice none 0 0)).setCell ⟨RB, 4, none⟩ (.slice none 0 0)).setCell ⟨RB, 5, none⟩ (.slice none 0 0)) RB 29 #[.slice none 0 0, .slice none 0 0, .slice none 0 0, .slice none 0 0, .slice none 0 0, .slice none 0 0] from (((((HRBL.out.setCell 0 (.slice none 0 0)).setCell 1 (.slice none 0 0)).setCell 2 (.slice none 0 0)).setCell 3 (.slice none 0 0)).setCell 4 (.slice none 0 0)).setCell 5 (.slice none 0 0))
           have FE := hid (show Fr nob w ((((((wr.setCell ⟨RB, 0, none⟩ (.slice none 0 0)).setCell ⟨RB, 1, none⟩ (.slice none 0 0)).setCell ⟨RB, 2, none⟩ (.slice none 0 0)).setCell ⟨RB, 3, none⟩ (.slice none 0 0)).setCell ⟨RB, 4, none⟩ (.slice none 0 0)).setCell ⟨RB, 5, none⟩ (.slice none 0 0)) from (FR.out.trans (M := fun b => TB ≤ b) (Fr.six wr RB (.slice none 0 0) (.slice none 0 0) (.slice none 0 0) (.slice none 0 0) (.slice none 0 0) (.slice none 0 0)) (fun _ _ x => x) (fun b _ hb => by rw [show b = RB from hb]; exact HRB.out)).mono (fun b hb hm => by have h9 := HB.out.2.2.2.2; have hm : TB ≤ b := hm; omega))
           clear he hlt hgo
           go_wp2_with fail
           go_region_law (fail)
           all_goals
            clear r0 r1 r2 r3 r4 r5 z0 z1 z2 z3 z4 z5
            generalize (((((wr.setCell ⟨RB, 0, none⟩ (.slice none 0 0)).setCell ⟨RB, 1, none⟩ (.slice none 0 0)).setCell ⟨RB, 2, none⟩ (.slice none 0 0)).setCell ⟨RB, 3, none⟩ (.slice none 0 0)).setCell ⟨RB, 4, none⟩ (.slice none 0 0)).setCell ⟨RB, 5, none⟩ (.slice none 0 0) = wz at *
            have z0 : wz.cell? ⟨RB, 0, none⟩ = some (.slice none 0 0) := (BE.out.cell 0).trans rfl
            have z1 : wz.cell? ⟨RB, 1, none⟩ = some (.slice none 0 0) := (BE.out.cell 1).trans rfl
            have z2 : wz.cell? ⟨RB, 2, none⟩ = some (.slice none 0 0) := (BE.out.cell 2).trans rfl
            have z3 : wz.cell? ⟨RB, 3, none⟩ = some (.slice none 0 0) := (BE.out.cell 3).trans rfl
            have z4 : wz.cell? ⟨RB, 4, none⟩ = some (.slice none 0 0) := (BE.out.cell 4).trans rfl
            have z5 : wz.cell? ⟨RB, 5, none⟩ = some (.slice none 0 0) := (BE.out.cell 5).trans rfl
            go_wp2_with fail
            refine bodyPost_ret (v := .tuple #[.agg #[.slice none 0 0, .slice none 0 0, .slice none 0 0, .slice none 0 0, .slice none 0 0, .slice none 0 0], .int .i64 p, .int .i64 e]) (by simp [results, Tryd.results10, go_sem, z0, z1, z2, z3, z4, z5]) rfl ⟨by rw [CA.out.1]; exact ⟨rfl, CA.out.2⟩, by first | exact FE.out | exact FE.out.drew⟩
end
theorem six_fr {w wx : World} {T : Nat} (hT : w.heap.size ≤ T) (F : Fr nob w wx) (a b c d e f : Value) : Fr nob w ((((((wx.setCell ⟨T, 0, none⟩ a).setCell ⟨T, 1, none⟩ b).setCell ⟨T, 2, none⟩ c).setCell ⟨T, 3, none⟩ d).setCell ⟨T, 4, none⟩ e).setCell ⟨T, 5, none⟩ f) :=
 (F.trans (M := fun b => b = T) (Fr.six wx T a b c d e f) (fun _ _ x => x.elim) (fun b _ hb => hb)).mono (fun b hb hm => by have hm : b = T := hm; omega)
set_option maxHeartbeats 8000000 in
set_option maxRecDepth 100000 in
theorem source_any (src : ByteArray) (w : World) (hs : src.size ≤ 281474976710656) {r : SourceR} (hr : sourceM src.data.toList = some r) :
  Calls Tryd.prog 5 #[.string src] w fun en w' => SourceAt w' en r ∧ Fr nob w w' := by
 unfold sourceM at hr
 rw [Option.map_eq_some_iff] at hr
 obtain ⟨r0, hr0, hr⟩ := hr
 have HP := hid (fun w' => pall_any src w' hs hr0)
 have B0 := hid (Blk.new w 29 #[.slice none 0 0, .slice none 0 0, .slice none 0 0, .slice none 0 0, .slice none 0 0, .slice none 0 0])
 have F0 := hid (show Fr nob w (w.alloc (.cells #[.slice none 0 0, .slice none 0 0, .slice none 0 0, .slice none 0 0, .slice none 0 0, .slice none 0 0] 29)) from (Fr.refl _ w).alloc _)
 clear hs
 cases r0 with
 | bad p er =>
  have he : er ≠ 0 := by have := parse_bad1 hr0; omega
  have hr : SourceR.bad p er = r := hr
  subst hr
  have heb : ((er : Int) == 0) = false := beq_eq_false_iff_ne.2 (by omega)
  have hne : ((er : Int) != 0) = true := by rw [bne, heb]; rfl
  have HE := hid he
  clear hr0 he
  go_enter Tryd.func5, Tryd.ntmps5
  go_wp2_with fail
  have HL := hid (show w.heap.size < (w.alloc (.cells #[.slice none 0 0, .slice none 0 0, .slice none 0 0, .slice none 0 0, .slice none 0 0, .slice none 0 0] 29)).heap.size ∧ w.heap.size ≤ w.heap.size from ⟨B0.out.lt, Nat.le_refl _⟩)
  generalize w.alloc (.cells #[.slice none 0 0, .slice none 0 0, .slice none 0 0, .slice none 0 0, .slice none 0 0, .slice none 0 0] 29) = w1 at *
  generalize hT : w.heap.size = T at *
  have HT := hid hT
  clear hT
  refine (HP.out w1).mono ?_
  rintro en w2 ⟨hpa, hf⟩
  have hpa : en = .returned (.tuple #[.agg #[.slice none 0 0, .slice none 0 0], .int .i64 p, .int .i64 er]) := hpa
  subst hpa
  have B2 := hid (B0.out.fr hf (fun x => x))
  have F2 := hid (F0.out.tr hf)
  clear hf
  have B3 := hid ((B2.out.alloc (.cells #[.slice none 0 0, .slice none 0 0] 26)))
  have F3 := hid (F2.out.alloc (.cells #[.slice none 0 0, .slice none 0 0] 26))
  obtain ⟨r0, r1, r2, r3, r4, r5, f0, f1, f2, f3, f4, f5⟩ := B3.out.sixth
  have tn : ¬ T = w2.heap.size := by have := B2.out.lt; omega
  have B4 := hid (B3.out.sixSet (a' := .slice none 0 0) (b' := .slice none 0 0) (c' := .slice none 0 0) (d' := .slice none 0 0) (e' := .slice none 0 0) (f' := .slice none 0 0))
  have F4 := hid (six_fr (Nat.le_of_eq HT.out) F3.out (.slice none 0 0) (.slice none 0 0) (.slice none 0 0) (.slice none 0 0) (.slice none 0 0) (.slice none 0 0))
  go_wp2_with fail
  all_goals
   clear r0 r1 r2 r3 r4 r5 f0 f1 f2 f3 f4 f5
   generalize ((((((w2.alloc (.cells #[.slice none 0 0, .slice none 0 0] 26)).setCell ⟨T, 0, none⟩ (.slice none 0 0)).setCell ⟨T, 1, none⟩ (.slice none 0 0)).setCell ⟨T, 2, none⟩ (.slice none 0 0)).setCell ⟨T, 3, none⟩ (.slice none 0 0)).setCell ⟨T, 4, none⟩ (.slice none 0 0)).setCell ⟨T, 5, none⟩ (.slice none 0 0) = wz at *
  obtain ⟨z0, z1, z2, z3, z4, z5, _⟩ := B4.out.sixth
  go_wp2_with fail
  refine bodyPost_ret (v := .tuple #[.agg #[.slice none 0 0, .slice none 0 0, .slice none 0 0, .slice none 0 0, .slice none 0 0, .slice none 0 0], .int .i64 p, .int .i64 er]) (by simp [results, Tryd.results5, go_sem, z0, z1, z2, z3, z4, z5]) rfl ⟨⟨rfl, HE.out⟩, by first | exact F4.out | exact F4.out.drew⟩
 | good ns fs =>
  have TI := parse_is hr0
  have HR := hid hr
  have HC := hid (fun (w' : World) (NA FA : Option Addr) (NC FC : Nat) (lvs pvs : List Value) (ht : TreeAt 0 w' (.slice NA ns.length NC) (.slice FA fs.length FC) lvs pvs ns fs) => checkAll_any ht TI.ok TI.rows)
  have HLT := hid (fun e p (h : checkT ns fs = .bad e p) => check_lt TI.ok h)
  have hn3 : (ns.length : Int) ≤ 300 := by have := TI.ok.few; omega
  clear hr0 hr TI
  go_enter Tryd.func5, Tryd.ntmps5
  go_wp2_with fail
  generalize w.alloc (.cells #[.slice none 0 0, .slice none 0 0, .slice none 0 0, .slice none 0 0, .slice none 0 0, .slice none 0 0] 29) = w1 at *
  generalize hT : w.heap.size = T at *
  have HT := hid hT
  clear hT
  refine (HP.out w1).mono ?_
  rintro en w2 ⟨⟨nv, fv, lvs, pvs, rfl, ht⟩, hf⟩
  obtain ⟨NA, NC, rfl, -, -⟩ := ht.nodes.cap
  obtain ⟨FA, FC, rfl, -, -⟩ := ht.fns.cap
  have TT := hid (ht.zero.no ((Fr.refl nob w2).alloc (.cells #[.slice NA ns.length NC, .slice FA fs.length FC] 26)))
  have B2 := hid ((B0.out.fr hf (fun x => x)).alloc (.cells #[.slice NA ns.length NC, .slice FA fs.length FC] 26))
  have F2 := hid ((F0.out.tr hf).alloc (.cells #[.slice NA ns.length NC, .slice FA fs.length FC] 26))
  have X2 := hid (Blk.new w2 26 #[.slice NA ns.length NC, .slice FA fs.length FC])
  have tn := hid (show T < w2.heap.size from (B0.out.fr hf (fun x => x)).lt)
  clear hf ht
  go_wp2_with fail
  generalize w2.alloc (.cells #[.slice NA ns.length NC, .slice FA fs.length FC] 26) = w3 at *
  generalize w2.heap.size = X at *
  refine (HC.out w3 NA FA NC FC lvs pvs TT.out).mono ?_
  rintro en w4 ⟨hck, hf⟩
  have B4 := hid (B2.out.fr hf (fun x => x))
  have X4 := hid (X2.out.fr hf (fun x => x))
  have F4 := hid (F2.out.tr hf)
  have T4 := hid (TT.out.no hf)
  clear hf B2 X2 F2 TT
  cases hc : checkT ns fs with
  | bad e x =>
   rw [hc] at hck
   obtain ⟨he, he0, he9⟩ := hck
   have he : en = .returned (.tuple #[.agg #[.slice none 0 0, .slice none 0 0, .slice none 0 0, .slice none 0 0, .slice none 0 0, .slice none 0 0], .int .i64 (x : Nat), .int .i64 (e : Nat)]) := he
   subst he
   have B5 := hid (B4.out.alloc (.cells #[.slice none 0 0, .slice none 0 0, .slice none 0 0, .slice none 0 0, .slice none 0 0, .slice none 0 0] 29))
   have X5 := hid (X4.out.alloc (.cells #[.slice none 0 0, .slice none 0 0, .slice none 0 0, .slice none 0 0, .slice none 0 0, .slice none 0 0] 29))
   have F5 := hid (F4.out.alloc (.cells #[.slice none 0 0, .slice none 0 0, .slice none 0 0, .slice none 0 0, .slice none 0 0, .slice none 0 0] 29))
   have T5 := hid (T4.out.no ((Fr.refl nob w4).alloc (.cells #[.slice none 0 0, .slice none 0 0, .slice none 0 0, .slice none 0 0, .slice none 0 0, .slice none 0 0] 29)))
   have heb : ((e : Int) == 0) = false := beq_eq_false_iff_ne.2 (by omega)
   have hne : ((e : Int) != 0) = true := by rw [bne, heb]; rfl
   have n1 : ¬ T = w4.heap.size := by have := B4.out.lt; omega
   have n2 : ¬ X = w4.heap.size := by have := X4.out.lt; omega
   have n3 : ¬ T = X := by have := tn.out; omega
   have HE := hid he0
   obtain ⟨r0, r1, r2, r3, r4, r5, f0, f1, f2, f3, f4, f5⟩ := B5.out.sixth
   have B6 := hid (B5.out.sixSet (a' := .slice none 0 0) (b' := .slice none 0 0) (c' := .slice none 0 0) (d' := .slice none 0 0) (e' := .slice none 0 0) (f' := .slice none 0 0))
   have F6 := hid (six_fr (Nat.le_of_eq HT.out) F5.out (.slice none 0 0) (.slice none 0 0) (.slice none 0 0) (.slice none 0 0) (.slice none 0 0) (.slice none 0 0))
   by_cases h44 : e = 44
   · subst h44
     have HS := hid (show SourceR.bad 0 44 = r from by have := HR.out; simp only [hc] at this; exact this)
     clear hc he0 he9 heb hne
     go_wp2_with fail
     all_goals
      clear r0 r1 r2 r3 r4 r5 f0 f1 f2 f3 f4 f5
      generalize ((((((w4.alloc (.cells #[.slice none 0 0, .slice none 0 0, .slice none 0 0, .slice none 0 0, .slice none 0 0, .slice none 0 0] 29)).setCell ⟨T, 0, none⟩ (.slice none 0 0)).setCell ⟨T, 1, none⟩ (.slice none 0 0)).setCell ⟨T, 2, none⟩ (.slice none 0 0)).setCell ⟨T, 3, none⟩ (.slice none 0 0)).setCell ⟨T, 4, none⟩ (.slice none 0 0)).setCell ⟨T, 5, none⟩ (.slice none 0 0) = wz at *
     obtain ⟨z0, z1, z2, z3, z4, z5, _⟩ := B6.out.sixth
     go_wp2_with fail
     refine bodyPost_ret (v := .tuple #[.agg #[.slice none 0 0, .slice none 0 0, .slice none 0 0, .slice none 0 0, .slice none 0 0, .slice none 0 0], .int .i64 0, .int .i64 44]) (by simp [results, Tryd.results5, go_sem, z0, z1, z2, z3, z4, z5]) rfl ⟨by rw [← HS.out]; exact ⟨rfl, by decide⟩, by first | exact F6.out | exact F6.out.drew⟩
   · have hx := HLT.out e x hc h44
     obtain ⟨nd, hnd⟩ : ∃ nd, ns[x]? = some nd := ⟨_, List.getElem?_eq_getElem hx⟩
     have HS := hid (show SourceR.bad nd.line e = r from by have := HR.out; simp only [hc, if_neg h44, hnd] at this; exact this)
     have hx2 : (x : Int) < (ns.length : Int) := by omega
     have h4b : ((e : Int) == 44) = false := beq_eq_false_iff_ne.2 (by omega)
     obtain ⟨nb, nc, lv, e', -, -, -, y1, -⟩ := T5.out.node hnd
     injection e' with e1 e2 e3
     subst e1
     have n4 : ¬ nb = T := fun e => by
      have h1 := T5.out.nodes.blk_ne B5.out (by decide)
      rw [blk_rowP (by omega) T5.out.nodes.capn.1, e] at h1
      exact h1 rfl
     have x0 := (X5.out.cell 0).trans rfl
     clear hc he0 he9 hnd hx h44 e2 e3
     go_wp2_with fail
     go_region_law (fail)
     all_goals
      clear r0 r1 r2 r3 r4 r5 f0 f1 f2 f3 f4 f5
      generalize ((((((w4.alloc (.cells #[.slice none 0 0, .slice none 0 0, .slice none 0 0, .slice none 0 0, .slice none 0 0, .slice none 0 0] 29)).setCell ⟨T, 0, none⟩ (.slice none 0 0)).setCell ⟨T, 1, none⟩ (.slice none 0 0)).setCell ⟨T, 2, none⟩ (.slice none 0 0)).setCell ⟨T, 3, none⟩ (.slice none 0 0)).setCell ⟨T, 4, none⟩ (.slice none 0 0)).setCell ⟨T, 5, none⟩ (.slice none 0 0) = wz at *
      obtain ⟨z0, z1, z2, z3, z4, z5, _⟩ := B6.out.sixth
      go_wp2_with fail
      refine bodyPost_ret (v := .tuple #[.agg #[.slice none 0 0, .slice none 0 0, .slice none 0 0, .slice none 0 0, .slice none 0 0, .slice none 0 0], .int .i64 nd.line, .int .i64 e]) (by simp [results, Tryd.results5, go_sem, z0, z1, z2, z3, z4, z5]) rfl ⟨by rw [← HS.out]; exact ⟨rfl, HE.out⟩, by first | exact F6.out | exact F6.out.drew⟩
  | good p =>
   rw [hc] at hck
   obtain ⟨tv, sv, uv, zv, rfl, hp⟩ := hck
   have HS := hid (show SourceR.good p = r from by have := HR.out; simp only [hc] at this; exact this)
   obtain ⟨TA, TC, rfl, -, -⟩ := hp.types.cap
   obtain ⟨SA, SC, rfl, -, -⟩ := hp.slots.cap
   obtain ⟨UA, UC, rfl, -, -⟩ := hp.fn.cap
   obtain ⟨ZA, ZC, rfl, -, -⟩ := hp.sizes.cap
   generalize hl1 : p.types.length = l1 at *
   generalize hl2 : p.slots.length = l2 at *
   generalize hl3 : p.fn.length = l3 at *
   generalize hl4 : p.sizes.length = l4 at *
   have B5 := hid (B4.out.alloc (.cells #[.slice NA ns.length NC, .slice FA fs.length FC, .slice TA l1 TC, .slice SA l2 SC, .slice UA l3 UC, .slice ZA l4 ZC] 29))
   have Y5 := hid (Blk.new w4 29 #[.slice NA ns.length NC, .slice FA fs.length FC, .slice TA l1 TC, .slice SA l2 SC, .slice UA l3 UC, .slice ZA l4 ZC])
   have F5 := hid (F4.out.alloc (.cells #[.slice NA ns.length NC, .slice FA fs.length FC, .slice TA l1 TC, .slice SA l2 SC, .slice UA l3 UC, .slice ZA l4 ZC] 29))
   have P5 := hid (hp.no ((Fr.refl nob w4).alloc (.cells #[.slice NA ns.length NC, .slice FA fs.length FC, .slice TA l1 TC, .slice SA l2 SC, .slice UA l3 UC, .slice ZA l4 ZC] 29)))
   have n1 : ¬ T = w4.heap.size := by have := B4.out.lt; omega
   obtain ⟨r0, r1, r2, r3, r4, r5, f0, f1, f2, f3, f4, f5⟩ := B5.out.sixth
   have B6 := hid (B5.out.sixSet (a' := .slice NA ns.length NC) (b' := .slice FA fs.length FC) (c' := .slice TA l1 TC) (d' := .slice SA l2 SC) (e' := .slice UA l3 UC) (f' := .slice ZA l4 ZC))
   have F6 := hid (six_fr (Nat.le_of_eq HT.out) F5.out (.slice NA ns.length NC) (.slice FA fs.length FC) (.slice TA l1 TC) (.slice SA l2 SC) (.slice UA l3 UC) (.slice ZA l4 ZC))
   have P6 := hid (P5.out.farP B5.out (Fr.six (w4.alloc (.cells #[.slice NA ns.length NC, .slice FA fs.length FC, .slice TA l1 TC, .slice SA l2 SC, .slice UA l3 UC, .slice ZA l4 ZC] 29)) T (.slice NA ns.length NC) (.slice FA fs.length FC) (.slice TA l1 TC) (.slice SA l2 SC) (.slice UA l3 UC) (.slice ZA l4 ZC)))
   clear hc hp hl1 hl2 hl3 hl4
   go_wp2_with fail
   all_goals
     clear r0 r1 r2 r3 r4 r5 f0 f1 f2 f3 f4 f5
     generalize ((((((w4.alloc (.cells #[.slice NA ns.length NC, .slice FA fs.length FC, .slice TA l1 TC, .slice SA l2 SC, .slice UA l3 UC, .slice ZA l4 ZC] 29)).setCell ⟨T, 0, none⟩ (.slice NA ns.length NC)).setCell ⟨T, 1, none⟩ (.slice FA fs.length FC)).setCell ⟨T, 2, none⟩ (.slice TA l1 TC)).setCell ⟨T, 3, none⟩ (.slice SA l2 SC)).setCell ⟨T, 4, none⟩ (.slice UA l3 UC)).setCell ⟨T, 5, none⟩ (.slice ZA l4 ZC) = wz at *
   obtain ⟨z0, z1, z2, z3, z4, z5, _⟩ := B6.out.sixth
   go_wp2_with fail
   refine bodyPost_ret (v := .tuple #[.agg #[.slice NA ns.length NC, .slice FA fs.length FC, .slice TA l1 TC, .slice SA l2 SC, .slice UA l3 UC, .slice ZA l4 ZC], .int .i64 0, .int .i64 0]) (by simp [results, Tryd.results5, go_sem, z0, z1, z2, z3, z4, z5]) rfl ⟨by rw [← HS.out]; exact ⟨_, _, _, _, _, _, _, _, rfl, by first | exact P6.out | exact P6.out.no ((Fr.refl nob _).drew)⟩, by first | exact F6.out | exact F6.out.drew⟩
end Go.Proofs.YtlbjicjinnnboaaDoor
