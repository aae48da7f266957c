/- The document's checker: function. -/
import Derived.Test.YtlbjicjinnnboaaDoorMKS
set_option linter.unusedVariables false
set_option linter.unusedSimpArgs false
namespace Go.Proofs.YtlbjicjinnnboaaDoor
open Go.RowKit
open Pw
def FunK (G : Geo) (zs : List Nat) (k : Nat) (r : CkR CkS) (w : World) : Prop := match r with
 | .good s => ∃ Z, Ck (G.atZ Z) w s (zs ++ [s.size]) k 0 0
 | .bad e p => e ≠ 0 ∧ e ≤ 99 ∧ ∃ Z s' zs', Ck (G.atZ Z).more w s' zs' k e p
section
variable {G : Geo} {w w' : World} {s : CkS} {zs : List Nat} {k k0 : Nat}
theorem FunK.no {r : CkR CkS} (h : FunK G zs k r w) (f : Fr nob w w') : FunK G zs k r w' := by
 cases r with
 | good s => obtain ⟨Z, h⟩ := h; exact ⟨Z, h.no f⟩
 | bad e p => obtain ⟨h1, h2, Z, s', zs', h⟩ := h; exact ⟨h1, h2, Z, s', zs', h.no f⟩
set_option maxHeartbeats 8000000 in
set_option maxRecDepth 100000 in
theorem cfunction_any (hM : G.M = 24) (hu : (G.fs.map (·.name)).Nodup) (h : Ck G w s zs k0 0 0) {f : FuncM} (hf : G.fs[k]? = some f) (hz : zs.length ≤ 900) (hbody : f.body < G.ns.length) (h18 : ∀ nd, G.ns[f.body]? = some nd → nd.kind = 18) :
  Calls Tryd.prog 19 #[.pointer (some ⟨G.g, 0, none⟩), .int .i64 k] w fun en w' => en = .returned (.tuple #[]) ∧ FunK G zs k (funcC G.ns G.fs k f s) w' ∧ Fr (fun b => G.B ≤ b) w w' := by
 have M0 := hid (show CkM G w (.good s) zs k0 from h)
 obtain ⟨fb, fc, pv, hfv, flt, c1, hpv, hpo, y0, y1, y2, y3, y4⟩ := M0.out.fnc hf
 have hkl := (List.getElem?_eq_some_iff.1 hf).1
 have hk3 : (k : Int) < (G.fs.length : Int) := by omega
 have hk4 : (G.fs.length : Int) ≤ 6 := by have := h.geo.fewf; omega
 have glt := h.g_lt
 have gn : ¬ G.g = w.heap.size := by omega
 have fn : ¬ fb = w.heap.size := by omega
 obtain ⟨PA, PC, rfl, -, -⟩ := hpo.cap
 have hpl : f.params.length ≤ 3 := h.geo.fewp f (List.mem_of_getElem? hf)
 have hpl2 : (f.params.length : Int) ≤ 3 := by omega
 have hpl4 : (f.params.length : Int) ≤ 9223372036854775807 := by omega
 have HQ := hid (And.intro hf hpv)
 have HM := hid hM
 have HKL := hid hkl
 have HG := hid h.geo
 have HZ := hid hz
 have HBL := hid (fun (zs : List Nat) => cblock_any (zs := zs) (k := k) h.geo hM hu G.ns.length f.body _ hbody (List.getElem?_eq_getElem hbody) (h18 _ (List.getElem?_eq_getElem hbody)))
 obtain ⟨_, vv, -, -, -, -, -, -, c6, c7, c8, -, -, hfz, -⟩ := h.cells
 have f6 := hfz 6
 have f7 := hfz 7
 have f8 := hfz 8
 have A1 := hid (h.setG 6 (.int .i64 (k : Nat)) (s' := s) (k' := k) (e' := 0) (p' := 0) (fun _ _ => rfl) rfl rfl rfl rfl hkl h.size h.fine h.vars)
 have A2 := hid A1.out.1.nilV
 have A3 := hid (A2.out.1.setG 8 (.int .i64 ((0 : Nat) : Int)) (s' := { s with vars := [], size := 0 }) (k' := k) (e' := 0) (p' := 0) (fun _ _ => rfl) rfl rfl rfl rfl hkl (Nat.zero_le _) (fun _ => Nat.zero_le _) (Nat.le_refl _))
 have hsz : ((((w.setCell ⟨G.g, 6, none⟩ (.int .i64 (k : Nat))).setCell ⟨G.g, 7, none⟩ (.slice none 0 0)).setCell ⟨G.g, 8, none⟩ (.int .i64 0))).heap.size = w.heap.size := by simp
 have C3 := hid (show CkC G ((((w.setCell ⟨G.g, 6, none⟩ (.int .i64 (k : Nat))).setCell ⟨G.g, 7, none⟩ (.slice none 0 0)).setCell ⟨G.g, 8, none⟩ (.int .i64 0)).alloc (.cells #[.string (bs f.name), .int .i64 f.line, .slice PA f.params.length PC, .int .i64 f.ret, .int .i64 f.body] 43)) (.good { s with vars := [], size := 0 }) zs k w.heap.size 43 #[.string (bs f.name), .int .i64 f.line, .slice PA f.params.length PC, .int .i64 f.ret, .int .i64 f.body] from by
  have := CkC.new (show CkM G (((w.setCell ⟨G.g, 6, none⟩ (.int .i64 (k : Nat))).setCell ⟨G.g, 7, none⟩ (.slice none 0 0)).setCell ⟨G.g, 8, none⟩ (.int .i64 0)) (.good { s with vars := [], size := 0 }) zs k from A3.out.1) 43 #[.string (bs f.name), .int .i64 f.line, .slice PA f.params.length PC, .int .i64 f.ret, .int .i64 f.body] (by decide)
  rw [hsz] at this; exact this)
 have F3 := hid (show FrK G w ((((w.setCell ⟨G.g, 6, none⟩ (.int .i64 (k : Nat))).setCell ⟨G.g, 7, none⟩ (.slice none 0 0)).setCell ⟨G.g, 8, none⟩ (.int .i64 0)).alloc (.cells #[.string (bs f.name), .int .i64 f.line, .slice PA f.params.length PC, .int .i64 f.ret, .int .i64 f.body] 43)) from ((A1.out.2.trans A2.out.2).trans A3.out.2).trans (FrK.no ((Fr.refl nob _).alloc _)))
 clear h hf hpv hpo hM hkl hu hz hbody h18 hfz A1 A2 A3 hsz
 go_enter Tryd.func19, Tryd.ntmps19
 go_wp2_with fail
 clear c1 y0 y1 y2 y3 y4 c6 c7 c8 f6 f7 f8 gn fn flt glt hfv hk3 hk4
 generalize (((w.setCell ⟨G.g, 6, none⟩ (.int .i64 (k : Nat))).setCell ⟨G.g, 7, none⟩ (.slice none 0 0)).setCell ⟨G.g, 8, none⟩ (.int .i64 0)).alloc (.cells #[.string (bs f.name), .int .i64 f.line, .slice PA f.params.length PC, .int .i64 f.ret, .int .i64 f.body] 43) = w3 at *
 generalize w.heap.size = D at *
 go_loopw [5] (fun i wr => ∃ j : Nat, j ≤ f.params.length ∧ i = .int .i64 j ∧ ∃ (s' : CkS) (e p : Nat), Hid (Ck G wr s' zs k e p) ∧ Hid (s'.size = j ∧ s'.vars.length = j) ∧ Hid ((e = 0 ∧ p = 0 ∧ parsC f.body (f.params.take j) [] = .good s'.vars ∧ s'.types = s.types ∧ s'.slots = s.slots ∧ s'.fn = s.fn) ∨ (e ≠ 0 ∧ e ≤ 99 ∧ parsC f.body (f.params.take j) [] = .bad e p)) ∧ Hid (Blk wr D 43 #[.string (bs f.name), .int .i64 f.line, .slice PA f.params.length PC, .int .i64 f.ret, .int .i64 f.body]) ∧ Hid (FrK G w wr)) (fun i _ => f.params.length - (intOf i).toNat)
 case atStart => exact ⟨0, Nat.zero_le _, rfl, _, 0, 0, C3.out.m, hid ⟨rfl, rfl⟩, hid (.inl ⟨rfl, rfl, rfl, rfl, rfl, rfl⟩), C3.out.b, F3⟩
 case round =>
  obtain ⟨j, hj, rfl, s', e, p, K, SZ, MO, B, FR⟩ := hrel
  have NN := hid (And.intro (And.intro C3.out.n0 C3.out.n1) (And.intro C3.out.n2 C3.out.n3))
  clear C3 F3
  have d2 : wr.cell? ⟨D, 2, none⟩ = some (.slice PA f.params.length PC) := by simpa using B.out.cell 2
  have d4 : wr.cell? ⟨D, 4, none⟩ = some (.int .i64 f.body) := by simpa using B.out.cell 4
  by_cases hlt : j < f.params.length
  · have hlt2 : (j : Int) < (f.params.length : Int) := by omega
    obtain ⟨q, hq⟩ : ∃ q, f.params[j]? = some q := ⟨_, List.getElem?_eq_getElem hlt⟩
    have hML : ∀ {e' p' : Nat} {w' : World}, Ck G w' s' zs k e' p' → CkM G w' (if e' = 0 then .good s' else .bad e' p') zs k → True := fun _ _ => trivial
    have HT := hid (show f.params.take (j + 1) = f.params.take j ++ [q] from by rw [List.take_add_one, hq]; rfl)
    obtain ⟨pb, e1, p0, p1⟩ : ∃ pb, PA = some ⟨pb, 0, none⟩ ∧ wr.cell? ⟨pb, j * 2, none⟩ = some (.string (bs q.1)) ∧ wr.cell? ⟨pb, j * 2 + 1, none⟩ = some (.int .i64 (q.2 : Nat)) := by
      have ho : Own wr 80 2 (.slice PA f.params.length PC) f.params.length (paramCells f.params) := K.out.tree.tree.pars.get HQ.out.1 HQ.out.2
      obtain ⟨pb, e, hc⟩ := ho.some (by omega)
      exact ⟨pb, e, hc _ _ (paramCells_get hq).1, hc _ _ (paramCells_get hq).2⟩
    subst e1
    have HQQ := hid hq
    have HJ := hid hlt
    have hj3 : (j : Int) ≤ 3 := by omega
    have HFI := hid (cfind_any K.out q.1)
    clear hq hlt hML
    cases hp : placeV s'.vars q.1 with
    | none =>
      rw [hp] at HFI
      have HP := hid hp
      have HFI2 := hid (show Calls Tryd.prog 32 #[.pointer (some ⟨G.g, 0, none⟩), .string (bs q.1)] wr (fun en w' => en = .returned (.int .i64 (-1)) ∧ Fr nob wr w') from HFI.out)
      clear HFI hp
      go_wp2_with fail
      refine HFI2.out.mono ?_
      rintro en wv ⟨rfl, hf⟩
      have KV1 := hid (K.out.no hf)
      have FV := hid (FR.out.trans (FrK.no hf))
      have BV := hid (B.out.fr hf (fun x => x))
      clear hf d2 d4 p0 p1
      have PK : ∃ ev pv', Hid (Ck G wv s' zs k ev pv') ∧ Hid ((ev = 0 ∧ pv' = 0 ∧ parsC f.body (f.params.take (j + 1)) [] = .good (s'.vars ++ [⟨q.1, q.2, j⟩]) ∧ s'.types = s.types ∧ s'.slots = s.slots ∧ s'.fn = s.fn) ∨ (ev ≠ 0 ∧ ev ≤ 99 ∧ parsC f.body (f.params.take (j + 1)) [] = .bad ev pv')) := ⟨e, p, KV1, hid (by
       rcases MO.out with ⟨h1, h2, h3, h4⟩ | ⟨h1, h2, h3⟩
       · refine .inl ⟨h1, h2, ?_, h4⟩
         rw [HT.out, parsC_snoc, h3, CkR.bind_good, placeV_find, HP.out]
         simp only [Option.bind_none, Option.isSome_none, Bool.false_eq_true, if_false]
         rw [SZ.out.2]
       · exact .inr ⟨h1, h2, by rw [HT.out, parsC_snoc, h3]; rfl⟩)⟩
      clear KV1
      obtain ⟨ev, pv', KV, HFIN⟩ := PK
      have HS9 := hid (show ev = 0 → s'.size ≤ 23 from fun _ => by rw [SZ.out.1]; omega)
      obtain ⟨zv, vv, hbl, -, -, hvo, -⟩ := KV.out.ex
      rw [SZ.out.2] at hvo
      obtain ⟨VA, VC, rfl, -, -⟩ := hvo.cap
      have c7 : wv.cell? ⟨G.g, 7, none⟩ = some (.slice VA j VC) := by rw [hbl.cell]; rfl
      have d2 : wv.cell? ⟨D, 2, none⟩ = some (.slice (some ⟨pb, 0, none⟩) f.params.length PC) := by simpa using BV.out.cell 2
      obtain ⟨p0, p1⟩ : wv.cell? ⟨pb, j * 2, none⟩ = some (.string (bs q.1)) ∧ wv.cell? ⟨pb, j * 2 + 1, none⟩ = some (.int .i64 (q.2 : Nat)) := by
       have ho : Own wv 80 2 (.slice (some ⟨pb, 0, none⟩) f.params.length PC) f.params.length (paramCells f.params) := KV.out.tree.tree.pars.get HQ.out.1 HQ.out.2
       obtain ⟨pb', e, hc⟩ := ho.some (by omega)
       injection e with e
       injection e with e
       subst e
       exact ⟨hc _ _ (paramCells_get HQQ.out).1, hc _ _ (paramCells_get HQQ.out).2⟩
      have hvn : j ≤ 24 := by omega
      have HV := hid ((hvo.alloc (.cells #[.string (bs q.1), .int .i64 (q.2 : Nat), .int .i64 (j : Nat)] 84)).fr ((Fr.refl nob _).drew) (fun _ _ x => x))
      have HR := hid (Rd.ofBlk (n := 1) (size := 3) (cs := [.string (bs q.1), .int .i64 (q.2 : Nat), .int .i64 (j : Nat)]) ((Blk.new wv 84 [.string (bs q.1), .int .i64 (q.2 : Nat), .int .i64 (j : Nat)].toArray).fr ((Fr.refl nob _).drew) (fun x => x)) rfl (by decide))
      have HB := hid ((hbl.alloc (.cells #[.string (bs q.1), .int .i64 (q.2 : Nat), .int .i64 (j : Nat)] 84)).fr ((Fr.refl nob _).drew) (fun x => x))
      have BA := hid ((BV.out.alloc (.cells #[.string (bs q.1), .int .i64 (q.2 : Nat), .int .i64 (j : Nat)] 84)).fr ((Fr.refl nob _).drew) (fun x => x))
      have C7 := hid c7
      have glt := hbl.lt
      have dlt := BV.out.lt
      have plt := World.block_lt_of_cell? _ _ p0
      have plt : pb < wv.heap.size := plt
      have gn : ¬ G.g = wv.heap.size := by omega
      have dn : ¬ D = wv.heap.size := by omega
      have pn : ¬ pb = wv.heap.size := by omega
      clear hbl hvo
      have HARM := hid (show ∀ (A6 : Option Addr) (c6 : Nat) (w6 : World), Own w6 84 3 (.slice A6 (j + 1) c6) (j + 1) (varCells s'.vars ++ [.string (bs q.1), .int .i64 (q.2 : Nat), .int .i64 (j : Nat)]) → Fr (obl (blk (.slice VA j VC))) (wv.alloc (.cells #[.string (bs q.1), .int .i64 (q.2 : Nat), .int .i64 (j : Nat)] 84)).drew w6 → (blk (.slice A6 (j + 1) c6) = blk (.slice VA j VC) ∨ blk (.slice A6 (j + 1) c6) = some (wv.alloc (.cells #[.string (bs q.1), .int .i64 (q.2 : Nat), .int .i64 (j : Nat)] 84)).drew.heap.size) →
         w6.frozen? ⟨G.g, 7, none⟩ = false ∧ w6.cell? ⟨G.g, 7, none⟩ = some (.slice VA j VC) ∧ G.g < w6.heap.size ∧ Hid ((w6.setCell ⟨G.g, 7, none⟩ (.slice A6 (j + 1) c6)).cell? ⟨G.g, 8, none⟩ = some (.int .i64 (j : Nat)) ∧ (w6.setCell ⟨G.g, 7, none⟩ (.slice A6 (j + 1) c6)).frozen? ⟨G.g, 8, none⟩ = false ∧ Ck G ((w6.setCell ⟨G.g, 7, none⟩ (.slice A6 (j + 1) c6)).setCell ⟨G.g, 8, none⟩ (.int .i64 ((j : Int) + 1))) { s' with vars := s'.vars ++ [⟨q.1, q.2, j⟩], size := j + 1 } zs k ev pv' ∧ FrK G w ((w6.setCell ⟨G.g, 7, none⟩ (.slice A6 (j + 1) c6)).setCell ⟨G.g, 8, none⟩ (.int .i64 ((j : Int) + 1))) ∧ Blk ((w6.setCell ⟨G.g, 7, none⟩ (.slice A6 (j + 1) c6)).setCell ⟨G.g, 8, none⟩ (.int .i64 ((j : Int) + 1))) D 43 #[.string (bs f.name), .int .i64 f.line, .slice (some ⟨pb, 0, none⟩) f.params.length PC, .int .i64 f.ret, .int .i64 f.body]) from by
       intro A6 c6 w6 ho6 hf6 hv6
       have h9 := KV.out.appV (nm := q.1) (t := q.2) (o := .cells #[.string (bs q.1), .int .i64 (q.2 : Nat), .int .i64 (j : Nat)] 84) C7.out (by rw [SZ.out.1, SZ.out.2]; exact ho6) (Fr.trans (M1 := nob) ((Fr.refl nob _).drew) hf6 (fun _ _ x => x.elim) (fun _ _ x => x)) (by rw [SZ.out.2]; simpa using hv6) (by have := HM.out; omega) HS9.out
       rw [SZ.out.1, SZ.out.2] at h9
       have HB6 := HB.out.fr hf6 (fun hm => HV.out.blk_ne HB.out (by decide) hm)
       have B6 := BA.out.fr hf6 (fun hm => HV.out.blk_ne BA.out (by decide) hm)
       exact ⟨HB6.frozen 7, by rw [HB6.cell]; rfl, HB6.lt, h9.1, h9.2.1 8, h9.2.2.1.less2 HG.out (by show j + 1 ≤ G.M; have := HM.out; omega), FV.out.trans h9.2.2.2, (B6.far (p := ⟨G.g, 7, none⟩) NN.out.1.1 (.slice A6 (j + 1) c6)).far (p := ⟨G.g, 8, none⟩) NN.out.1.1 (.int .i64 ((j : Int) + 1))⟩)
      clear HB BA
      go_wp2_with fail
      go_region_law (first | (refine step_append (v := .slice VA j VC) (n := j) (m := 1) (xs := varCells s'.vars) (news := [.string (bs q.1), .int .i64 (q.2 : Nat), .int .i64 (j : Nat)]) (by rfl) _ _ (by rfl) TyVar (by rfl) (by rfl) HV.out HR.out (by simp [Value.oneCell']) (by omega) (by unfold maxLen; omega) ?_; intro A6 c6 w6 ho6 hf6 hv6; have X := HARM.out A6 c6 w6 ho6 hf6 hv6; obtain ⟨f7, c7', gl6, AV⟩ := X; clear ho6 hf6 hv6))
      all_goals
       clear c7 d2 p0 p1 C7 glt dlt plt gn dn pn f7 c7' gl6 HARM HV HR
       have c8 := AV.out.1
       have f8 := AV.out.2.1
       have gl := World.block_lt_of_cell? _ _ c8
       have N := hid AV.out.2.2.1
       have FF := hid AV.out.2.2.2.1
       have BB := hid AV.out.2.2.2.2
       clear AV
       generalize w6.setCell ⟨G.g, 7, none⟩ (.slice A6 (j + 1) c6) = w10 at *
       go_wp2_with fail
       go_roundw
       case rel => exact ⟨j + 1, by omega, by go_num, _, ev, pv', hid (by first | exact N.out | exact N.out.no ((Fr.refl nob _).drew)), hid ⟨rfl, by rw [List.length_append, SZ.out.2]; rfl⟩, HFIN, hid (by first | exact BB.out | exact BB.out.fr ((Fr.refl nob _).drew) (fun x => x)), hid (by first | exact FF.out | exact FF.out.trans (FrK.no ((Fr.refl nob _).drew)))⟩
       case measure => simp [intOf]; omega
    | some i =>
      rw [hp] at HFI
      have HP := hid (And.intro hp (placeV_lt hp))
      have HFI2 := hid (show Calls Tryd.prog 32 #[.pointer (some ⟨G.g, 0, none⟩), .string (bs q.1)] wr (fun en w' => en = .returned (.int .i64 (i : Nat)) ∧ Fr nob wr w') from HFI.out)
      have hi0 : (0 : Int) ≤ (i : Int) := by omega
      clear HFI hp
      go_wp2_with fail
      refine HFI2.out.mono ?_
      rintro en w4 ⟨rfl, hf⟩
      have KV0 := hid (K.out.no hf)
      have FV0 := hid (FR.out.trans (FrK.no hf))
      have BV0 := hid (B.out.fr hf (fun x => x))
      clear hf d2 d4 p0 p1
      have d4 : w4.cell? ⟨D, 4, none⟩ = some (.int .i64 f.body) := by simpa using BV0.out.cell 4
      go_wp2_with fail
      refine (cfails_any KV0.out 41 f.body (by decide)).mono ?_
      rintro en wv ⟨rfl, h5, f5⟩
      have FV := hid (FV0.out.trans f5)
      have BV := hid (f5.far BV0.out NN.out.1.1 NN.out.1.2 NN.out.2.1 NN.out.2.2 (by decide))
      have PK : ∃ ev pv', Hid (Ck G wv s' zs k ev pv') ∧ Hid ((ev = 0 ∧ pv' = 0 ∧ parsC f.body (f.params.take (j + 1)) [] = .good (s'.vars ++ [⟨q.1, q.2, j⟩]) ∧ s'.types = s.types ∧ s'.slots = s.slots ∧ s'.fn = s.fn) ∨ (ev ≠ 0 ∧ ev ≤ 99 ∧ parsC f.body (f.params.take (j + 1)) [] = .bad ev pv')) := ⟨_, _, h5, hid (by
       rcases MO.out with ⟨h1, h2, h3, h4⟩ | ⟨h1, h2, h3⟩
       · refine .inr ⟨by rw [h1]; decide, by rw [h1]; decide, ?_⟩
         rw [HT.out, parsC_snoc, h3, CkR.bind_good, placeV_find, HP.out.1, h1]
         simp only [Option.bind_some, List.getElem?_eq_getElem HP.out.2, Option.isSome_some, if_true]
       · rw [if_neg h1, if_neg h1]
         exact .inr ⟨h1, h2, by rw [HT.out, parsC_snoc, h3]; rfl⟩)⟩
      clear h5 f5 d4
      obtain ⟨ev, pv', KV, HFIN⟩ := PK
      have HS9 := hid (show ev = 0 → s'.size ≤ 23 from fun _ => by rw [SZ.out.1]; omega)
      obtain ⟨zv, vv, hbl, -, -, hvo, -⟩ := KV.out.ex
      rw [SZ.out.2] at hvo
      obtain ⟨VA, VC, rfl, -, -⟩ := hvo.cap
      have c7 : wv.cell? ⟨G.g, 7, none⟩ = some (.slice VA j VC) := by rw [hbl.cell]; rfl
      have d2 : wv.cell? ⟨D, 2, none⟩ = some (.slice (some ⟨pb, 0, none⟩) f.params.length PC) := by simpa using BV.out.cell 2
      obtain ⟨p0, p1⟩ : wv.cell? ⟨pb, j * 2, none⟩ = some (.string (bs q.1)) ∧ wv.cell? ⟨pb, j * 2 + 1, none⟩ = some (.int .i64 (q.2 : Nat)) := by
       have ho : Own wv 80 2 (.slice (some ⟨pb, 0, none⟩) f.params.length PC) f.params.length (paramCells f.params) := KV.out.tree.tree.pars.get HQ.out.1 HQ.out.2
       obtain ⟨pb', e, hc⟩ := ho.some (by omega)
       injection e with e
       injection e with e
       subst e
       exact ⟨hc _ _ (paramCells_get HQQ.out).1, hc _ _ (paramCells_get HQQ.out).2⟩
      have hvn : j ≤ 24 := by omega
      have HV := hid ((hvo.alloc (.cells #[.string (bs q.1), .int .i64 (q.2 : Nat), .int .i64 (j : Nat)] 84)).fr ((Fr.refl nob _).drew) (fun _ _ x => x))
      have HR := hid (Rd.ofBlk (n := 1) (size := 3) (cs := [.string (bs q.1), .int .i64 (q.2 : Nat), .int .i64 (j : Nat)]) ((Blk.new wv 84 [.string (bs q.1), .int .i64 (q.2 : Nat), .int .i64 (j : Nat)].toArray).fr ((Fr.refl nob _).drew) (fun x => x)) rfl (by decide))
      have HB := hid ((hbl.alloc (.cells #[.string (bs q.1), .int .i64 (q.2 : Nat), .int .i64 (j : Nat)] 84)).fr ((Fr.refl nob _).drew) (fun x => x))
      have BA := hid ((BV.out.alloc (.cells #[.string (bs q.1), .int .i64 (q.2 : Nat), .int .i64 (j : Nat)] 84)).fr ((Fr.refl nob _).drew) (fun x => x))
      have C7 := hid c7
      have glt := hbl.lt
      have dlt := BV.out.lt
      have plt := World.block_lt_of_cell? _ _ p0
      have plt : pb < wv.heap.size := plt
      have gn : ¬ G.g = wv.heap.size := by omega
      have dn : ¬ D = wv.heap.size := by omega
      have pn : ¬ pb = wv.heap.size := by omega
      clear hbl hvo
      have HARM := hid (show ∀ (A6 : Option Addr) (c6 : Nat) (w6 : World), Own w6 84 3 (.slice A6 (j + 1) c6) (j + 1) (varCells s'.vars ++ [.string (bs q.1), .int .i64 (q.2 : Nat), .int .i64 (j : Nat)]) → Fr (obl (blk (.slice VA j VC))) (wv.alloc (.cells #[.string (bs q.1), .int .i64 (q.2 : Nat), .int .i64 (j : Nat)] 84)).drew w6 → (blk (.slice A6 (j + 1) c6) = blk (.slice VA j VC) ∨ blk (.slice A6 (j + 1) c6) = some (wv.alloc (.cells #[.string (bs q.1), .int .i64 (q.2 : Nat), .int .i64 (j : Nat)] 84)).drew.heap.size) →
         w6.frozen? ⟨G.g, 7, none⟩ = false ∧ w6.cell? ⟨G.g, 7, none⟩ = some (.slice VA j VC) ∧ G.g < w6.heap.size ∧ Hid ((w6.setCell ⟨G.g, 7, none⟩ (.slice A6 (j + 1) c6)).cell? ⟨G.g, 8, none⟩ = some (.int .i64 (j : Nat)) ∧ (w6.setCell ⟨G.g, 7, none⟩ (.slice A6 (j + 1) c6)).frozen? ⟨G.g, 8, none⟩ = false ∧ Ck G ((w6.setCell ⟨G.g, 7, none⟩ (.slice A6 (j + 1) c6)).setCell ⟨G.g, 8, none⟩ (.int .i64 ((j : Int) + 1))) { s' with vars := s'.vars ++ [⟨q.1, q.2, j⟩], size := j + 1 } zs k ev pv' ∧ FrK G w ((w6.setCell ⟨G.g, 7, none⟩ (.slice A6 (j + 1) c6)).setCell ⟨G.g, 8, none⟩ (.int .i64 ((j : Int) + 1))) ∧ Blk ((w6.setCell ⟨G.g, 7, none⟩ (.slice A6 (j + 1) c6)).setCell ⟨G.g, 8, none⟩ (.int .i64 ((j : Int) + 1))) D 43 #[.string (bs f.name), .int .i64 f.line, .slice (some ⟨pb, 0, none⟩) f.params.length PC, .int .i64 f.ret, .int .i64 f.body]) from by
       intro A6 c6 w6 ho6 hf6 hv6
       have h9 := KV.out.appV (nm := q.1) (t := q.2) (o := .cells #[.string (bs q.1), .int .i64 (q.2 : Nat), .int .i64 (j : Nat)] 84) C7.out (by rw [SZ.out.1, SZ.out.2]; exact ho6) (Fr.trans (M1 := nob) ((Fr.refl nob _).drew) hf6 (fun _ _ x => x.elim) (fun _ _ x => x)) (by rw [SZ.out.2]; simpa using hv6) (by have := HM.out; omega) HS9.out
       rw [SZ.out.1, SZ.out.2] at h9
       have HB6 := HB.out.fr hf6 (fun hm => HV.out.blk_ne HB.out (by decide) hm)
       have B6 := BA.out.fr hf6 (fun hm => HV.out.blk_ne BA.out (by decide) hm)
       exact ⟨HB6.frozen 7, by rw [HB6.cell]; rfl, HB6.lt, h9.1, h9.2.1 8, h9.2.2.1.less2 HG.out (by show j + 1 ≤ G.M; have := HM.out; omega), FV.out.trans h9.2.2.2, (B6.far (p := ⟨G.g, 7, none⟩) NN.out.1.1 (.slice A6 (j + 1) c6)).far (p := ⟨G.g, 8, none⟩) NN.out.1.1 (.int .i64 ((j : Int) + 1))⟩)
      clear HB BA
      go_wp2_with fail
      go_region_law (first | (refine step_append (v := .slice VA j VC) (n := j) (m := 1) (xs := varCells s'.vars) (news := [.string (bs q.1), .int .i64 (q.2 : Nat), .int .i64 (j : Nat)]) (by rfl) _ _ (by rfl) TyVar (by rfl) (by rfl) HV.out HR.out (by simp [Value.oneCell']) (by omega) (by unfold maxLen; omega) ?_; intro A6 c6 w6 ho6 hf6 hv6; have X := HARM.out A6 c6 w6 ho6 hf6 hv6; obtain ⟨f7, c7', gl6, AV⟩ := X; clear ho6 hf6 hv6))
      all_goals
       clear c7 d2 p0 p1 C7 glt dlt plt gn dn pn f7 c7' gl6 HARM HV HR
       have c8 := AV.out.1
       have f8 := AV.out.2.1
       have gl := World.block_lt_of_cell? _ _ c8
       have N := hid AV.out.2.2.1
       have FF := hid AV.out.2.2.2.1
       have BB := hid AV.out.2.2.2.2
       clear AV
       generalize w6.setCell ⟨G.g, 7, none⟩ (.slice A6 (j + 1) c6) = w10 at *
       go_wp2_with fail
       go_roundw
       case rel => exact ⟨j + 1, by omega, by go_num, _, ev, pv', hid (by first | exact N.out | exact N.out.no ((Fr.refl nob _).drew)), hid ⟨rfl, by rw [List.length_append, SZ.out.2]; rfl⟩, HFIN, hid (by first | exact BB.out | exact BB.out.fr ((Fr.refl nob _).drew) (fun x => x)), hid (by first | exact FF.out | exact FF.out.trans (FrK.no ((Fr.refl nob _).drew)))⟩
       case measure => simp [intOf]; omega
  · have hle : (f.params.length : Int) ≤ (j : Int) := by omega
    have MO2 := hid (show ((e = 0 ∧ p = 0 ∧ parsC f.body f.params [] = .good s'.vars ∧ s'.types = s.types ∧ s'.slots = s.slots ∧ s'.fn = s.fn) ∨ (e ≠ 0 ∧ e ≤ 99 ∧ parsC f.body f.params [] = .bad e p)) from by
      have h9 := MO.out
      rw [List.take_of_length_le (by omega)] at h9
      exact h9)
    obtain ⟨_, _, -, -, -, -, -, -, -, -, -, c9, -⟩ := K.out.cells
    clear MO
    by_cases he : e = 0
    · have heb : ((e : Int) == 0) = true := by rw [he]; rfl
      have KG := hid (show Ck G wr s' zs k 0 0 from by
       rcases MO2.out with ⟨h1, h2, _⟩ | ⟨h1, _⟩
       · have h9 := K.out; rw [h1, h2] at h9; exact h9
       · exact absurd he h1)
      have EQ := hid (show funcC G.ns G.fs k f s = blockC G.ns G.fs k G.ns.length f.body s' from by
       rcases MO2.out with ⟨h1, h2, h3, h4, h5, h6⟩ | ⟨h1, _⟩
       · unfold funcC
         rw [h3, CkR.bind_good]
         congr 1
         obtain ⟨ty, sl, fn, va, sz⟩ := s'
         have h7 := SZ.out
         dsimp only at h4 h5 h6 h7 ⊢
         rw [h4, h5, h6, h7.1, h7.2]
       · exact absurd he h1)
      clear he
      go_wp2_with fail
      refine (HBL.out zs wr s' KG.out).mono ?_
      rintro en wv ⟨rfl, h6, f6⟩
      obtain ⟨s9, e9, p9, hk9, hm9⟩ := h6.open_ HM.out
      have KV := hid hk9
      have MK := hid (show ModeK (funcC G.ns G.fs k f s) s9 e9 p9 from by rw [EQ.out]; exact hm9)
      have FV := hid (FR.out.trans f6)
      clear h6 f6 hk9 hm9 c9 d4 d2
      go_wp2_with fail
      obtain ⟨zv, vv, hbl, hzo, -, -, -⟩ := KV.out.ex
      obtain ⟨VA, VC, rfl, -, -⟩ := hzo.cap
      have hbl2 : Blk wv G.g 67 (ckCells G.more (.slice VA zs.length VC) vv k s9.size e9 p9) := hbl
      have c5 : wv.cell? ⟨G.g, 5, none⟩ = some (.slice VA zs.length VC) := by rw [hbl2.cell]; rfl
      have c8 : wv.cell? ⟨G.g, 8, none⟩ = some (.int .i64 (s9.size : Nat)) := by rw [hbl2.cell]; rfl
      have HV := hid ((hzo.alloc (.cells #[.int .i64 (s9.size : Nat)] 3)).fr ((Fr.refl nob _).drew) (fun _ _ x => x))
      have HR := hid (Rd.ofBlk (n := 1) (size := 1) (cs := [.int .i64 (s9.size : Nat)]) ((Blk.new wv 3 [.int .i64 (s9.size : Nat)].toArray).fr ((Fr.refl nob _).drew) (fun x => x)) rfl (by decide))
      have HB := hid ((hbl2.alloc (.cells #[.int .i64 (s9.size : Nat)] 3)).fr ((Fr.refl nob _).drew) (fun x => x))
      have C5 := hid c5
      have glt := hbl2.lt
      have gn : ¬ G.g = wv.heap.size := by omega
      have hzl : zs.length ≤ 900 := HZ.out
      clear hbl hbl2 hzo
      have HARM := hid (show ∀ (A6 : Option Addr) (c6 : Nat) (w6 : World), Own w6 3 1 (.slice A6 (zs.length + 1) c6) (zs.length + 1) (ints zs ++ [.int .i64 (s9.size : Nat)]) → Fr (obl (blk (.slice VA zs.length VC))) (wv.alloc (.cells #[.int .i64 (s9.size : Nat)] 3)).drew w6 → (blk (.slice A6 (zs.length + 1) c6) = blk (.slice VA zs.length VC) ∨ blk (.slice A6 (zs.length + 1) c6) = some (wv.alloc (.cells #[.int .i64 (s9.size : Nat)] 3)).drew.heap.size) →
         w6.frozen? ⟨G.g, 5, none⟩ = false ∧ w6.cell? ⟨G.g, 5, none⟩ = some (.slice VA zs.length VC) ∧ G.g < w6.heap.size ∧ Hid (FunK G zs k (funcC G.ns G.fs k f s) (w6.setCell ⟨G.g, 5, none⟩ (.slice A6 (zs.length + 1) c6)) ∧ Fr (fun b => G.B ≤ b) w (w6.setCell ⟨G.g, 5, none⟩ (.slice A6 (zs.length + 1) c6))) from by
       intro A6 c6 w6 ho6 hf6 hv6
       have h9 := KV.out.appZ (o := .cells #[.int .i64 (s9.size : Nat)] 3) C5.out ho6 (Fr.trans (M1 := nob) ((Fr.refl nob _).drew) hf6 (fun _ _ x => x.elim) (fun _ _ x => x)) (by simpa using hv6) HZ.out
       have HB6 := HB.out.fr hf6 (fun hm => HV.out.blk_ne HB.out (by decide) hm)
       refine ⟨HB6.frozen 5, by rw [HB6.cell]; rfl, HB6.lt, ?_, (FV.out.toB HG.out).tr h9.2⟩
       rcases MK.out with ⟨h1, h2, h3⟩ | ⟨h1, h2, h3⟩
       · rw [h3]
         refine ⟨(w6.setCell ⟨G.g, 5, none⟩ (.slice A6 (zs.length + 1) c6)).heap.size, ?_⟩
         have h8 := h9.1
         subst h1; subst h2
         exact ⟨GeoOk.z HG.out h8.geo.lg h8.geo.lt h8.geo.ls h8.geo.lf, h8.tree, h8.ex, h8.types, h8.slots, h8.fn, h8.kk, by have := h8.fine rfl; have := HM.out; show s9.size ≤ G.M; omega, h8.fine, h8.vars, h8.zs, h8.zle⟩
       · rw [h3]
         exact ⟨h1, h2, (w6.setCell ⟨G.g, 5, none⟩ (.slice A6 (zs.length + 1) c6)).heap.size, s9, zs ++ [s9.size], h9.1⟩)
      clear HB
      go_wp2_with fail
      go_region_law (first | (refine step_append (v := .slice VA zs.length VC) (n := zs.length) (m := 1) (xs := ints zs) (news := [.int .i64 (s9.size : Nat)]) (by rfl) _ _ (by rfl) TyInts (by rfl) (by rfl) HV.out HR.out (by simp [Value.oneCell']) (by omega) (by unfold maxLen; omega) ?_; intro A6 c6 w6 ho6 hf6 hv6; have X := HARM.out A6 c6 w6 ho6 hf6 hv6; obtain ⟨f5, c5', gl6, AV⟩ := X; clear ho6 hf6 hv6))
      all_goals
       clear c5 c8 C5 glt gn f5 c5' gl6 HARM HV HR
       generalize w6.setCell ⟨G.g, 5, none⟩ (.slice A6 (zs.length + 1) c6) = w10 at *
       go_wp2_with fail
       exact bodyPost_end (results_none rfl _ _ _) rfl ⟨rfl, by first | exact AV.out.1 | exact AV.out.1.no ((Fr.refl nob _).drew), by first | exact AV.out.2 | exact AV.out.2.drew⟩
    · have heb : ((e : Int) == 0) = false := beq_eq_false_iff_ne.2 (by omega)
      have KV := hid (K.out.more (by have := HM.out; omega))
      have MK := hid (show ModeK (funcC G.ns G.fs k f s) s' e p from by
       rcases MO2.out with ⟨h1, _⟩ | ⟨h1, h2, h3⟩
       · exact absurd h1 he
       · exact .inr ⟨h1, h2, by unfold funcC; rw [h3]; rfl⟩)
      have FV := FR
      clear he
      go_wp2_with fail
      clear c9 d4 d2
      generalize wr = wv at *
      generalize s' = s9 at *
      generalize e = e9 at *
      generalize p = p9 at *
      obtain ⟨zv, vv, hbl, hzo, -, -, -⟩ := KV.out.ex
      obtain ⟨VA, VC, rfl, -, -⟩ := hzo.cap
      have hbl2 : Blk wv G.g 67 (ckCells G.more (.slice VA zs.length VC) vv k s9.size e9 p9) := hbl
      have c5 : wv.cell? ⟨G.g, 5, none⟩ = some (.slice VA zs.length VC) := by rw [hbl2.cell]; rfl
      have c8 : wv.cell? ⟨G.g, 8, none⟩ = some (.int .i64 (s9.size : Nat)) := by rw [hbl2.cell]; rfl
      have HV := hid ((hzo.alloc (.cells #[.int .i64 (s9.size : Nat)] 3)).fr ((Fr.refl nob _).drew) (fun _ _ x => x))
      have HR := hid (Rd.ofBlk (n := 1) (size := 1) (cs := [.int .i64 (s9.size : Nat)]) ((Blk.new wv 3 [.int .i64 (s9.size : Nat)].toArray).fr ((Fr.refl nob _).drew) (fun x => x)) rfl (by decide))
      have HB := hid ((hbl2.alloc (.cells #[.int .i64 (s9.size : Nat)] 3)).fr ((Fr.refl nob _).drew) (fun x => x))
      have C5 := hid c5
      have glt := hbl2.lt
      have gn : ¬ G.g = wv.heap.size := by omega
      have hzl : zs.length ≤ 900 := HZ.out
      clear hbl hbl2 hzo
      have HARM := hid (show ∀ (A6 : Option Addr) (c6 : Nat) (w6 : World), Own w6 3 1 (.slice A6 (zs.length + 1) c6) (zs.length + 1) (ints zs ++ [.int .i64 (s9.size : Nat)]) → Fr (obl (blk (.slice VA zs.length VC))) (wv.alloc (.cells #[.int .i64 (s9.size : Nat)] 3)).drew w6 → (blk (.slice A6 (zs.length + 1) c6) = blk (.slice VA zs.length VC) ∨ blk (.slice A6 (zs.length + 1) c6) = some (wv.alloc (.cells #[.int .i64 (s9.size : Nat)] 3)).drew.heap.size) →
         w6.frozen? ⟨G.g, 5, none⟩ = false ∧ w6.cell? ⟨G.g, 5, none⟩ = some (.slice VA zs.length VC) ∧ G.g < w6.heap.size ∧ Hid (FunK G zs k (funcC G.ns G.fs k f s) (w6.setCell ⟨G.g, 5, none⟩ (.slice A6 (zs.length + 1) c6)) ∧ Fr (fun b => G.B ≤ b) w (w6.setCell ⟨G.g, 5, none⟩ (.slice A6 (zs.length + 1) c6))) from by
       intro A6 c6 w6 ho6 hf6 hv6
       have h9 := KV.out.appZ (o := .cells #[.int .i64 (s9.size : Nat)] 3) C5.out ho6 (Fr.trans (M1 := nob) ((Fr.refl nob _).drew) hf6 (fun _ _ x => x.elim) (fun _ _ x => x)) (by simpa using hv6) HZ.out
       have HB6 := HB.out.fr hf6 (fun hm => HV.out.blk_ne HB.out (by decide) hm)
       refine ⟨HB6.frozen 5, by rw [HB6.cell]; rfl, HB6.lt, ?_, (FV.out.toB HG.out).tr h9.2⟩
       rcases MK.out with ⟨h1, h2, h3⟩ | ⟨h1, h2, h3⟩
       · rw [h3]
         refine ⟨(w6.setCell ⟨G.g, 5, none⟩ (.slice A6 (zs.length + 1) c6)).heap.size, ?_⟩
         have h8 := h9.1
         subst h1; subst h2
         exact ⟨GeoOk.z HG.out h8.geo.lg h8.geo.lt h8.geo.ls h8.geo.lf, h8.tree, h8.ex, h8.types, h8.slots, h8.fn, h8.kk, by have := h8.fine rfl; have := HM.out; show s9.size ≤ G.M; omega, h8.fine, h8.vars, h8.zs, h8.zle⟩
       · rw [h3]
         exact ⟨h1, h2, (w6.setCell ⟨G.g, 5, none⟩ (.slice A6 (zs.length + 1) c6)).heap.size, s9, zs ++ [s9.size], h9.1⟩)
      clear HB
      go_wp2_with fail
      go_region_law (first | (refine step_append (v := .slice VA zs.length VC) (n := zs.length) (m := 1) (xs := ints zs) (news := [.int .i64 (s9.size : Nat)]) (by rfl) _ _ (by rfl) TyInts (by rfl) (by rfl) HV.out HR.out (by simp [Value.oneCell']) (by omega) (by unfold maxLen; omega) ?_; intro A6 c6 w6 ho6 hf6 hv6; have X := HARM.out A6 c6 w6 ho6 hf6 hv6; obtain ⟨f5, c5', gl6, AV⟩ := X; clear ho6 hf6 hv6))
      all_goals
       clear c5 c8 C5 glt gn f5 c5' gl6 HARM HV HR
       generalize w6.setCell ⟨G.g, 5, none⟩ (.slice A6 (zs.length + 1) c6) = w10 at *
       go_wp2_with fail
       exact bodyPost_end (results_none rfl _ _ _) rfl ⟨rfl, by first | exact AV.out.1 | exact AV.out.1.no ((Fr.refl nob _).drew), by first | exact AV.out.2 | exact AV.out.2.drew⟩
end
end Go.Proofs.YtlbjicjinnnboaaDoor
