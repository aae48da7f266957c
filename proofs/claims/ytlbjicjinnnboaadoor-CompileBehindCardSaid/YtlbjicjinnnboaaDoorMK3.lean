/- MK3: CkL, CkRet. -/
import Derived.Test.YtlbjicjinnnboaaDoorMK2
set_option linter.unusedVariables false
set_option linter.unusedSimpArgs false
/- The document's checker: let. -/
namespace Go.Proofs.YtlbjicjinnnboaaDoor
open Go.RowKit
open Pw
def CkN (G : Geo) (w : World) (r : CkR CkS) (zs : List Nat) (k : Nat) : Prop := match r with
 | .good s => Ck G w s zs k 0 0
 | .bad e p => e ≠ 0 ∧ e ≤ 99 ∧ ∃ s, Ck G.more w s zs k e p
def StepK (G : Geo) (zs : List Nat) (k : Nat) (r : CkR CkS) (w : World) (en : Ending) (w' : World) : Prop :=
 en = .returned (.tuple #[]) ∧ CkN G w' r zs k ∧ FrK G w w'
section
variable {G : Geo} {w w' : World} {s : CkS} {r : CkR CkS} {zs : List Nat} {k e p : Nat} {ex : Nat → CkS → CkR (Nat × CkS)}
theorem CkM.toN (h : CkM G w r zs k) (hM : G.M = 24) : CkN G w r zs k := by
 cases r with
 | good s => exact h
 | bad e p => obtain ⟨h1, h2, s, h3⟩ := h; exact ⟨h1, h2, s, h3.more (by omega)⟩
theorem CkN.no (h : CkN G w r zs k) (f : Fr nob w w') : CkN G w' r zs k := by
 cases r with
 | good s => exact Ck.no h f
 | bad e p => obtain ⟨h1, h2, s, h3⟩ := h; exact ⟨h1, h2, s, h3.no f⟩
theorem Ck.less (h : Ck G.more w s zs k 0 0) (hg : GeoOk G) (hM : G.M = 24) : Ck G w s zs k 0 0 :=
 ⟨hg, h.tree, h.ex, h.types, h.slots, h.fn, h.kk, by have := h.fine rfl; omega, h.fine, h.vars, h.zs, h.zle⟩
def ModeK (R : CkR CkS) (s : CkS) (e p : Nat) : Prop := (e = 0 ∧ p = 0 ∧ R = .good s) ∨ (e ≠ 0 ∧ e ≤ 99 ∧ R = .bad e p)
theorem ModeK.fails {R : CkR CkS} (h : ModeK R s e p) {e' : Nat} (h1 : e' ≠ 0) (h2 : e' ≤ 99) (x : Nat) : ModeK (R.bind fun _ => .bad e' x) s (if e = 0 then e' else e) (if e = 0 then x else p) := by
 rcases h with ⟨rfl, rfl, rfl⟩ | ⟨h3, h4, rfl⟩
 · exact .inr ⟨by simpa using h1, by simpa using h2, rfl⟩
 · rw [if_neg h3, if_neg h3]; exact .inr ⟨h3, h4, rfl⟩
theorem ModeK.pass {R : CkR CkS} (h : ModeK R s e p) {f : CkS → CkR CkS} {s' : CkS} (hf : f s = .good s') : ModeK (R.bind f) s' e p := by
 rcases h with ⟨rfl, rfl, rfl⟩ | ⟨h3, h4, rfl⟩
 · exact .inl ⟨rfl, rfl, hf⟩
 · exact .inr ⟨h3, h4, rfl⟩
theorem ModeK.into {R : CkR CkS} (h : ModeK R s e p) {f : CkS → CkR CkS} {a b : Nat} (hf : f s = .bad a b) (h1 : a ≠ 0) (h2 : a ≤ 99) (s' : CkS) : ModeK (R.bind f) s' (if e = 0 then a else e) (if e = 0 then b else p) := by
 rcases h with ⟨rfl, rfl, rfl⟩ | ⟨h3, h4, rfl⟩
 · exact .inr ⟨by simpa using h1, by simpa using h2, hf⟩
 · rw [if_neg h3, if_neg h3]; exact .inr ⟨h3, h4, rfl⟩
theorem ModeK.eq {R R' : CkR CkS} (h : ModeK R s e p) (hr : ∀ u, R = .good u → R' = R) (hr2 : ∀ e p, R = .bad e p → R' = R) : ModeK R' s e p := by
 cases hR : R with
 | good u => rw [hr u hR]; exact h
 | bad e p => rw [hr2 e p hR]; exact h
theorem ModeK.toN {R : CkR CkS} (h : ModeK R s e p) (hck : Ck G.more w s zs k e p) (hg : GeoOk G) (hM : G.M = 24) : CkN G w R zs k := by
 rcases h with ⟨rfl, rfl, rfl⟩ | ⟨h1, h2, rfl⟩
 · exact hck.less hg hM
 · exact ⟨h1, h2, s, hck⟩
set_option maxHeartbeats 8000000 in
set_option maxRecDepth 100000 in
theorem clet_any (hM : G.M = 24) {x line a : Nat} {nm : List UInt8} (h : Ck G w s zs k 0 0) (hx : G.ns[x]? = some ⟨10, line, 0, nm, [a]⟩) (ha : CexOk G zs k ex a) :
  Calls Tryd.prog 57 #[.pointer (some ⟨G.g, 0, none⟩), .int .i64 x] w (StepK G zs k (letC ex x ⟨10, line, 0, nm, [a]⟩ s) w) := by
 have M0 := hid (show CkM G w (.good s) zs k from h)
 obtain ⟨nb, nc, kv, hnv, hkv, hown, nlt, hx3, c0, x0, x1, x2, x3, x4⟩ := M0.out.node hx
 dsimp only at hown x0 x1 x2 x3 x4
 have hx4 : (G.ns.length : Int) ≤ 300 := by have := h.geo.few; omega
 have glt := h.g_lt
 have gn : ¬ G.g = w.heap.size := by omega
 have nn : ¬ nb = w.heap.size := by omega
 obtain ⟨kb, kc, rfl, hkc, hcell⟩ := kids_get hown (by simp)
 have hkc2 : 1 ≤ kc := by simp at hkc; omega
 have k0 := hcell 0 _ rfl
 have klt : kb < w.heap.size := World.block_lt_of_cell? _ _ k0
 have kn : ¬ kb = w.heap.size := by omega
 have HG := hid h.geo
 have HA := hid ha
 have HM := hid hM
 clear h hx hkv hown hcell ha hkc hM
 go_enter Tryd.func57, Tryd.ntmps57
 go_wp2_with fail
 have C1 := hid (CkC.new M0.out 49 #[.int .i64 10, .int .i64 line, .int .i64 0, .string (bs nm), .slice (some ⟨kb, 0, none⟩) 1 kc] (by decide))
 have F1 := hid (show FrK G w (w.alloc (.cells #[.int .i64 10, .int .i64 line, .int .i64 0, .string (bs nm), .slice (some ⟨kb, 0, none⟩) 1 kc] 49)) from FrK.no ((Fr.refl nob w).alloc _))
 clear c0 x0 x1 x2 x3 x4 glt gn nlt nn k0 klt kn
 generalize w.alloc (.cells #[.int .i64 10, .int .i64 line, .int .i64 0, .string (bs nm), .slice (some ⟨kb, 0, none⟩) 1 kc] 49) = w1 at *
 generalize w.heap.size = C at *
 refine (HA.out w1 _ C1.out.m).mono ?_
 rintro en w2 ⟨t, rfl, h2, f2, hq⟩
 have C2 := hid (C1.out.to h2 f2)
 have F2 := hid (F1.out.trans f2)
 have HQ := hid hq
 clear h2 f2 hq
 obtain ⟨b0, hb0⟩ : ∃ b, ((t : Int) != 0) = b := ⟨_, rfl⟩
 go_wp2_with fail
 refine (C2.out.m.must b0 x).mono ?_
 rintro en w3 ⟨rfl, h3, f3⟩
 have C3 := hid (C2.out.to h3 f3)
 have F3 := hid (F2.out.trans f3)
 have hmode := h3
 clear h3 f3
 have d3 : w3.cell? ⟨C, 3, none⟩ = some (.string (bs nm)) := by simpa using C3.out.b.cell 3
 obtain ⟨s3, e3, p3, hck, hm⟩ := hmode.open_
 clear hmode
 have K3 := hid hck
 have HMO := hid (show ModeK ((((ex a s).map (·.2)).bind fun s => if b0 = true then CkR.good s else .bad 42 x)) s3 e3 p3 from hm)
 have HFI := hid (cfind_any hck nm)
 have sz3 := hck.size
 have sz4 : (s3.size : Int) ≤ 24 := by have := HM.out; omega
 clear hm
 have E := hid (show letC ex x ⟨10, line, 0, nm, [a]⟩ s = (((ex a s).map (·.2)).bind fun s => if b0 = true then CkR.good s else .bad 42 x).bind fun s2 => if (placeV s2.vars nm).isSome then .bad 41 x else if 24 ≤ s2.size then .bad 4 x else .good { s2 with slots := s2.slots.set x s2.size, vars := s2.vars ++ [⟨nm, t, s2.size⟩], size := s2.size + 1 } from by
  unfold letC
  show (ex a s).bind _ = _
  have hq := HQ.out
  rw [show (CkR.good s).bind (ex a) = ex a s from rfl] at hq
  cases hE : ex a s with
  | bad e p => rfl
  | good u =>
    have hu := hq u hE
    subst hu
    simp only [CkR.bind_good, CkR.map_good, placeV_find]
    by_cases h0 : u.1 = 0
    · have : b0 = false := by rw [← hb0, h0]; rfl
      rw [if_pos h0, this]; rfl
    · have : b0 = true := by rw [← hb0, bne, beq_eq_false_iff_ne.2 (by omega)]; rfl
      rw [if_neg h0, this]
      simp only [if_true, CkR.bind_good]
      have e1 : ((placeV u.2.vars nm).bind fun j => u.2.vars[j]?).isSome = (placeV u.2.vars nm).isSome := by
       cases hp : placeV u.2.vars nm with
       | none => rfl
       | some j =>
        have := placeV_lt hp
        simp [List.getElem?_eq_getElem this]
      rw [e1])
 clear hck hb0
 cases hp : placeV s3.vars nm with
 | none =>
  rw [hp] at HFI
  have HP := hid hp
  have HFI2 := hid (show Calls Tryd.prog 32 #[.pointer (some ⟨G.g, 0, none⟩), .string (bs nm)] w3 (fun en w' => en = .returned (.int .i64 (-1)) ∧ Fr nob w3 w') from HFI.out)
  clear HFI hp
  go_wp2_with fail
  refine HFI2.out.mono ?_
  rintro en w4 ⟨rfl, hf⟩
  have KV1 := hid (K3.out.no hf)
  have FV1 := hid (F3.out.trans (FrK.no hf))
  have BV1 := hid (C3.out.b.fr hf (fun x => x))
  clear hf d3
  obtain ⟨_, _, -, -, -, -, -, -, -, -, c8, -, -, -, -, -⟩ := KV1.out.cells
  by_cases h24 : 24 ≤ s3.size
  · have h24' : (24 : Int) ≤ (s3.size : Int) := by omega
    have HS := hid h24
    clear h24
    go_wp2_with fail
    refine (cfails_any KV1.out 4 x (by decide)).mono ?_
    rintro en wv ⟨rfl, h6, f6⟩
    have FV := hid (FV1.out.trans f6)
    have BV := hid (f6.far BV1.out C1.out.n0 C1.out.n1 C1.out.n2 C1.out.n3 (by decide))
    have PK : ∃ ev pv, Hid (Ck G wv s3 zs k ev pv) ∧ Hid (ModeK (letC ex x ⟨10, line, 0, nm, [a]⟩ s) { s3 with slots := s3.slots.set x s3.size, vars := s3.vars ++ [⟨nm, t, s3.size⟩], size := s3.size + 1 } ev pv) ∧ Hid (ev = 0 → s3.size ≤ 23) := ⟨_, _, h6, hid (by rw [E.out]; exact HMO.out.into (by simp [HP.out, HS.out]) (by decide) (by decide) _), hid (fun h => by split at h <;> omega)⟩
    clear h6 f6 c8 KV1
    go_wp2_with fail
    obtain ⟨ev, pv, KV, HFIN, HS9⟩ := PK
    obtain ⟨_, _, -, -, -, c3, -, -, -, -, c8, -, -, -, -, -⟩ := KV.out.cells
    obtain ⟨⟨u2, cs2⟩, zs2⟩ := KV.out.slots.cellj (j := x) (by omega)
    obtain ⟨n1, n2, n3⟩ := KV.out.gne
    have D3 := hid c3
    have D8 := hid c8
    have e3' := hid ((World.cell?_setCell_other wv.drew ⟨G.bs, x, none⟩ ⟨G.g, 3, none⟩ (.int .i64 (s3.size : Nat)) (by intro e; injection e with e; exact n2 e.symm)).trans c3)
    have e8' := hid ((World.cell?_setCell_other wv.drew ⟨G.bs, x, none⟩ ⟨G.g, 8, none⟩ (.int .i64 (s3.size : Nat)) (by intro e; injection e with e; exact n2 e.symm)).trans c8)
    have S8 := hid (KV.out.setS x (s3.size : Nat))
    have B8 := hid (S8.out.2.far BV.out C1.out.n0 C1.out.n1 C1.out.n2 C1.out.n3 (by decide))
    clear n1 n2 n3
    go_region_held3 (fun wx => wx.cell? ⟨G.g, 3, none⟩ = some (.slice (some ⟨G.bs, 0, none⟩) G.ns.length G.cs) ∧ wx.cell? ⟨G.g, 8, none⟩ = some (.int .i64 (s3.size : Nat))) (first | exact ⟨D3.out, D8.out⟩ | exact ⟨e3'.out, e8'.out⟩) (first | fail)
    clear c3 c8 cs2 zs2 D3 D8 e3' e8'
    have S9 := hid (S8.out.1.no ((Fr.refl nob _).drew))
    have F9 := hid ((FV.out.trans S8.out.2).trans (FrK.no ((Fr.refl nob _).drew)))
    have B9 := hid (B8.out.fr ((Fr.refl nob _).drew) (fun x => x))
    clear S8 B8
    generalize (wv.setCell ⟨G.bs, x, none⟩ (.int .i64 (s3.size : Nat))).drew = w9 at *
    obtain ⟨zv, vv, hbl, -, -, hvo, -⟩ := S9.out.ex
    obtain ⟨VA, VC, rfl, -, -⟩ := hvo.cap
    dsimp only at hvo hbl
    have c7 : w9.cell? ⟨G.g, 7, none⟩ = some (.slice VA s3.vars.length VC) := by rw [hbl.cell]; rfl
    have c8 : w9.cell? ⟨G.g, 8, none⟩ = some (.int .i64 (s3.size : Nat)) := by rw [hbl.cell]; rfl
    have d3 : w9.cell? ⟨C, 3, none⟩ = some (.string (bs nm)) := by simpa using B9.out.cell 3
    have hvn : s3.vars.length ≤ 24 := by have := K3.out.vars; omega
    have HV := hid ((hvo.alloc (.cells #[.string (bs nm), .int .i64 (t : Nat), .int .i64 (s3.size : Nat)] 84)).fr ((Fr.refl nob _).drew) (fun _ _ x => x))
    have HR := hid (Rd.ofBlk (n := 1) (size := 3) (cs := [.string (bs nm), .int .i64 (t : Nat), .int .i64 (s3.size : Nat)]) ((Blk.new w9 84 [.string (bs nm), .int .i64 (t : Nat), .int .i64 (s3.size : Nat)].toArray).fr ((Fr.refl nob _).drew) (fun x => x)) rfl (by decide))
    have HB := hid ((hbl.alloc (.cells #[.string (bs nm), .int .i64 (t : Nat), .int .i64 (s3.size : Nat)] 84)).fr ((Fr.refl nob _).drew) (fun x => x))
    have C7 := hid c7
    have glt := hbl.lt
    have clt := B9.out.lt
    have gn : ¬ G.g = w9.heap.size := by omega
    have cn : ¬ C = w9.heap.size := by omega
    clear hbl hvo
    go_wp2_with fail
    go_region_law (first | (refine step_append (v := .slice VA s3.vars.length VC) (n := s3.vars.length) (m := 1) (xs := varCells s3.vars) (news := [.string (bs nm), .int .i64 (t : Nat), .int .i64 (s3.size : Nat)]) (by rfl) _ _ (by rfl) TyVar (by rfl) (by rfl) HV.out HR.out (by simp [Value.oneCell']) (by omega) (by unfold maxLen; omega) ?_; intro A6 c6 w6 ho6 hf6 hv6; go_loud (have AV := hid (S9.out.appV (o := .cells #[.string (bs nm), .int .i64 (t : Nat), .int .i64 (s3.size : Nat)] 84) C7.out ho6 (Fr.trans (M1 := nob) ((Fr.refl nob _).drew) hf6 (fun _ _ x => x.elim) (fun _ _ x => x)) (by simpa using hv6) (by have := HM.out; omega) HS9.out)); go_loud (have HB6 := hid (HB.out.fr hf6 (fun hm => HV.out.blk_ne HB.out (by decide) hm))); go_loud (have f7 := HB6.out.frozen 7); go_loud (have c7' : w6.cell? ⟨G.g, 7, none⟩ = some (.slice VA s3.vars.length VC) := by rw [HB6.out.cell]; rfl); go_loud (have gl6 := HB6.out.lt); clear ho6 hf6 hv6))
    all_goals
      clear c7 c8 d3 C7 glt clt gn cn f7 c7' gl6
      have c8 := AV.out.1
      have f8 := AV.out.2.1 8
      have gl := World.block_lt_of_cell? _ _ c8
      have N := hid (HFIN.out.toN AV.out.2.2.1 HG.out HM.out)
      have FF := hid (F9.out.trans AV.out.2.2.2)
      clear AV HB6
      generalize w6.setCell ⟨G.g, 7, none⟩ (.slice A6 (s3.vars.length + 1) c6) = w10 at *
      go_wp2_with fail
      exact bodyPost_end (results_none rfl _ _ _) rfl ⟨rfl, by first | exact N.out | exact N.out.no ((Fr.refl nob _).drew), by first | exact FF.out | exact FF.out.trans (FrK.no ((Fr.refl nob _).drew))⟩
  · have h24' : (s3.size : Int) < 24 := by omega
    have FV := FV1
    have BV := BV1
    have HS := hid h24
    clear h24
    go_wp2_with fail
    clear c8
    generalize w4 = wv at *
    have PK : ∃ ev pv, Hid (Ck G wv s3 zs k ev pv) ∧ Hid (ModeK (letC ex x ⟨10, line, 0, nm, [a]⟩ s) { s3 with slots := s3.slots.set x s3.size, vars := s3.vars ++ [⟨nm, t, s3.size⟩], size := s3.size + 1 } ev pv) ∧ Hid (ev = 0 → s3.size ≤ 23) := ⟨_, _, KV1, hid (by rw [E.out]; exact HMO.out.pass (by simp [HP.out, HS.out])), hid (fun h => by have := HS.out; omega)⟩
    clear KV1
    obtain ⟨ev, pv, KV, HFIN, HS9⟩ := PK
    obtain ⟨_, _, -, -, -, c3, -, -, -, -, c8, -, -, -, -, -⟩ := KV.out.cells
    obtain ⟨⟨u2, cs2⟩, zs2⟩ := KV.out.slots.cellj (j := x) (by omega)
    obtain ⟨n1, n2, n3⟩ := KV.out.gne
    have D3 := hid c3
    have D8 := hid c8
    have e3' := hid ((World.cell?_setCell_other wv.drew ⟨G.bs, x, none⟩ ⟨G.g, 3, none⟩ (.int .i64 (s3.size : Nat)) (by intro e; injection e with e; exact n2 e.symm)).trans c3)
    have e8' := hid ((World.cell?_setCell_other wv.drew ⟨G.bs, x, none⟩ ⟨G.g, 8, none⟩ (.int .i64 (s3.size : Nat)) (by intro e; injection e with e; exact n2 e.symm)).trans c8)
    have S8 := hid (KV.out.setS x (s3.size : Nat))
    have B8 := hid (S8.out.2.far BV.out C1.out.n0 C1.out.n1 C1.out.n2 C1.out.n3 (by decide))
    clear n1 n2 n3
    go_region_held3 (fun wx => wx.cell? ⟨G.g, 3, none⟩ = some (.slice (some ⟨G.bs, 0, none⟩) G.ns.length G.cs) ∧ wx.cell? ⟨G.g, 8, none⟩ = some (.int .i64 (s3.size : Nat))) (first | exact ⟨D3.out, D8.out⟩ | exact ⟨e3'.out, e8'.out⟩) (first | fail)
    clear c3 c8 cs2 zs2 D3 D8 e3' e8'
    have S9 := hid (S8.out.1.no ((Fr.refl nob _).drew))
    have F9 := hid ((FV.out.trans S8.out.2).trans (FrK.no ((Fr.refl nob _).drew)))
    have B9 := hid (B8.out.fr ((Fr.refl nob _).drew) (fun x => x))
    clear S8 B8
    generalize (wv.setCell ⟨G.bs, x, none⟩ (.int .i64 (s3.size : Nat))).drew = w9 at *
    obtain ⟨zv, vv, hbl, -, -, hvo, -⟩ := S9.out.ex
    obtain ⟨VA, VC, rfl, -, -⟩ := hvo.cap
    dsimp only at hvo hbl
    have c7 : w9.cell? ⟨G.g, 7, none⟩ = some (.slice VA s3.vars.length VC) := by rw [hbl.cell]; rfl
    have c8 : w9.cell? ⟨G.g, 8, none⟩ = some (.int .i64 (s3.size : Nat)) := by rw [hbl.cell]; rfl
    have d3 : w9.cell? ⟨C, 3, none⟩ = some (.string (bs nm)) := by simpa using B9.out.cell 3
    have hvn : s3.vars.length ≤ 24 := by have := K3.out.vars; omega
    have HV := hid ((hvo.alloc (.cells #[.string (bs nm), .int .i64 (t : Nat), .int .i64 (s3.size : Nat)] 84)).fr ((Fr.refl nob _).drew) (fun _ _ x => x))
    have HR := hid (Rd.ofBlk (n := 1) (size := 3) (cs := [.string (bs nm), .int .i64 (t : Nat), .int .i64 (s3.size : Nat)]) ((Blk.new w9 84 [.string (bs nm), .int .i64 (t : Nat), .int .i64 (s3.size : Nat)].toArray).fr ((Fr.refl nob _).drew) (fun x => x)) rfl (by decide))
    have HB := hid ((hbl.alloc (.cells #[.string (bs nm), .int .i64 (t : Nat), .int .i64 (s3.size : Nat)] 84)).fr ((Fr.refl nob _).drew) (fun x => x))
    have C7 := hid c7
    have glt := hbl.lt
    have clt := B9.out.lt
    have gn : ¬ G.g = w9.heap.size := by omega
    have cn : ¬ C = w9.heap.size := by omega
    clear hbl hvo
    go_wp2_with fail
    go_region_law (first | (refine step_append (v := .slice VA s3.vars.length VC) (n := s3.vars.length) (m := 1) (xs := varCells s3.vars) (news := [.string (bs nm), .int .i64 (t : Nat), .int .i64 (s3.size : Nat)]) (by rfl) _ _ (by rfl) TyVar (by rfl) (by rfl) HV.out HR.out (by simp [Value.oneCell']) (by omega) (by unfold maxLen; omega) ?_; intro A6 c6 w6 ho6 hf6 hv6; go_loud (have AV := hid (S9.out.appV (o := .cells #[.string (bs nm), .int .i64 (t : Nat), .int .i64 (s3.size : Nat)] 84) C7.out ho6 (Fr.trans (M1 := nob) ((Fr.refl nob _).drew) hf6 (fun _ _ x => x.elim) (fun _ _ x => x)) (by simpa using hv6) (by have := HM.out; omega) HS9.out)); go_loud (have HB6 := hid (HB.out.fr hf6 (fun hm => HV.out.blk_ne HB.out (by decide) hm))); go_loud (have f7 := HB6.out.frozen 7); go_loud (have c7' : w6.cell? ⟨G.g, 7, none⟩ = some (.slice VA s3.vars.length VC) := by rw [HB6.out.cell]; rfl); go_loud (have gl6 := HB6.out.lt); clear ho6 hf6 hv6))
    all_goals
      clear c7 c8 d3 C7 glt clt gn cn f7 c7' gl6
      have c8 := AV.out.1
      have f8 := AV.out.2.1 8
      have gl := World.block_lt_of_cell? _ _ c8
      have N := hid (HFIN.out.toN AV.out.2.2.1 HG.out HM.out)
      have FF := hid (F9.out.trans AV.out.2.2.2)
      clear AV HB6
      generalize w6.setCell ⟨G.g, 7, none⟩ (.slice A6 (s3.vars.length + 1) c6) = w10 at *
      go_wp2_with fail
      exact bodyPost_end (results_none rfl _ _ _) rfl ⟨rfl, by first | exact N.out | exact N.out.no ((Fr.refl nob _).drew), by first | exact FF.out | exact FF.out.trans (FrK.no ((Fr.refl nob _).drew))⟩
 | some j =>
  rw [hp] at HFI
  have HP := hid hp
  have HFI2 := hid (show Calls Tryd.prog 32 #[.pointer (some ⟨G.g, 0, none⟩), .string (bs nm)] w3 (fun en w' => en = .returned (.int .i64 (j : Nat)) ∧ Fr nob w3 w') from HFI.out)
  clear HFI hp
  go_wp2_with fail
  refine HFI2.out.mono ?_
  rintro en w4 ⟨rfl, hf⟩
  have KV0 := hid (K3.out.no hf)
  have FV0 := hid (F3.out.trans (FrK.no hf))
  have BV0 := hid (C3.out.b.fr hf (fun x => x))
  have hj0 : (0 : Int) ≤ (j : Int) := by omega
  clear hf d3
  go_wp2_with fail
  refine (cfails_any KV0.out 41 x (by decide)).mono ?_
  rintro en w5 ⟨rfl, h5, f5⟩
  have KV1 := hid h5
  have FV1 := hid (FV0.out.trans f5)
  have BV1 := hid (f5.far BV0.out C1.out.n0 C1.out.n1 C1.out.n2 C1.out.n3 (by decide))
  clear h5 f5
  obtain ⟨_, _, -, -, -, -, -, -, -, -, c8, -, -, -, -, -⟩ := KV1.out.cells
  by_cases h24 : 24 ≤ s3.size
  · have h24' : (24 : Int) ≤ (s3.size : Int) := by omega
    have HS := hid h24
    clear h24
    go_wp2_with fail
    refine (cfails_any KV1.out 4 x (by decide)).mono ?_
    rintro en wv ⟨rfl, h6, f6⟩
    have FV := hid (FV1.out.trans f6)
    have BV := hid (f6.far BV1.out C1.out.n0 C1.out.n1 C1.out.n2 C1.out.n3 (by decide))
    have e49 : ¬ (if e3 = 0 then 41 else e3) = 0 := by split <;> omega
    rw [if_neg e49, if_neg e49] at h6
    have PK : ∃ ev pv, Hid (Ck G wv s3 zs k ev pv) ∧ Hid (ModeK (letC ex x ⟨10, line, 0, nm, [a]⟩ s) { s3 with slots := s3.slots.set x s3.size, vars := s3.vars ++ [⟨nm, t, s3.size⟩], size := s3.size + 1 } ev pv) ∧ Hid (ev = 0 → s3.size ≤ 23) := ⟨_, _, h6, hid (by rw [E.out]; exact HMO.out.into (by simp [HP.out]) (by decide) (by decide) _), hid (fun h => absurd h e49)⟩
    clear h6 f6 c8 KV1
    go_wp2_with fail
    obtain ⟨ev, pv, KV, HFIN, HS9⟩ := PK
    obtain ⟨_, _, -, -, -, c3, -, -, -, -, c8, -, -, -, -, -⟩ := KV.out.cells
    obtain ⟨⟨u2, cs2⟩, zs2⟩ := KV.out.slots.cellj (j := x) (by omega)
    obtain ⟨n1, n2, n3⟩ := KV.out.gne
    have D3 := hid c3
    have D8 := hid c8
    have e3' := hid ((World.cell?_setCell_other wv.drew ⟨G.bs, x, none⟩ ⟨G.g, 3, none⟩ (.int .i64 (s3.size : Nat)) (by intro e; injection e with e; exact n2 e.symm)).trans c3)
    have e8' := hid ((World.cell?_setCell_other wv.drew ⟨G.bs, x, none⟩ ⟨G.g, 8, none⟩ (.int .i64 (s3.size : Nat)) (by intro e; injection e with e; exact n2 e.symm)).trans c8)
    have S8 := hid (KV.out.setS x (s3.size : Nat))
    have B8 := hid (S8.out.2.far BV.out C1.out.n0 C1.out.n1 C1.out.n2 C1.out.n3 (by decide))
    clear n1 n2 n3
    go_region_held3 (fun wx => wx.cell? ⟨G.g, 3, none⟩ = some (.slice (some ⟨G.bs, 0, none⟩) G.ns.length G.cs) ∧ wx.cell? ⟨G.g, 8, none⟩ = some (.int .i64 (s3.size : Nat))) (first | exact ⟨D3.out, D8.out⟩ | exact ⟨e3'.out, e8'.out⟩) (first | fail)
    clear c3 c8 cs2 zs2 D3 D8 e3' e8'
    have S9 := hid (S8.out.1.no ((Fr.refl nob _).drew))
    have F9 := hid ((FV.out.trans S8.out.2).trans (FrK.no ((Fr.refl nob _).drew)))
    have B9 := hid (B8.out.fr ((Fr.refl nob _).drew) (fun x => x))
    clear S8 B8
    generalize (wv.setCell ⟨G.bs, x, none⟩ (.int .i64 (s3.size : Nat))).drew = w9 at *
    obtain ⟨zv, vv, hbl, -, -, hvo, -⟩ := S9.out.ex
    obtain ⟨VA, VC, rfl, -, -⟩ := hvo.cap
    dsimp only at hvo hbl
    have c7 : w9.cell? ⟨G.g, 7, none⟩ = some (.slice VA s3.vars.length VC) := by rw [hbl.cell]; rfl
    have c8 : w9.cell? ⟨G.g, 8, none⟩ = some (.int .i64 (s3.size : Nat)) := by rw [hbl.cell]; rfl
    have d3 : w9.cell? ⟨C, 3, none⟩ = some (.string (bs nm)) := by simpa using B9.out.cell 3
    have hvn : s3.vars.length ≤ 24 := by have := K3.out.vars; omega
    have HV := hid ((hvo.alloc (.cells #[.string (bs nm), .int .i64 (t : Nat), .int .i64 (s3.size : Nat)] 84)).fr ((Fr.refl nob _).drew) (fun _ _ x => x))
    have HR := hid (Rd.ofBlk (n := 1) (size := 3) (cs := [.string (bs nm), .int .i64 (t : Nat), .int .i64 (s3.size : Nat)]) ((Blk.new w9 84 [.string (bs nm), .int .i64 (t : Nat), .int .i64 (s3.size : Nat)].toArray).fr ((Fr.refl nob _).drew) (fun x => x)) rfl (by decide))
    have HB := hid ((hbl.alloc (.cells #[.string (bs nm), .int .i64 (t : Nat), .int .i64 (s3.size : Nat)] 84)).fr ((Fr.refl nob _).drew) (fun x => x))
    have C7 := hid c7
    have glt := hbl.lt
    have clt := B9.out.lt
    have gn : ¬ G.g = w9.heap.size := by omega
    have cn : ¬ C = w9.heap.size := by omega
    clear hbl hvo
    go_wp2_with fail
    go_region_law (first | (refine step_append (v := .slice VA s3.vars.length VC) (n := s3.vars.length) (m := 1) (xs := varCells s3.vars) (news := [.string (bs nm), .int .i64 (t : Nat), .int .i64 (s3.size : Nat)]) (by rfl) _ _ (by rfl) TyVar (by rfl) (by rfl) HV.out HR.out (by simp [Value.oneCell']) (by omega) (by unfold maxLen; omega) ?_; intro A6 c6 w6 ho6 hf6 hv6; go_loud (have AV := hid (S9.out.appV (o := .cells #[.string (bs nm), .int .i64 (t : Nat), .int .i64 (s3.size : Nat)] 84) C7.out ho6 (Fr.trans (M1 := nob) ((Fr.refl nob _).drew) hf6 (fun _ _ x => x.elim) (fun _ _ x => x)) (by simpa using hv6) (by have := HM.out; omega) HS9.out)); go_loud (have HB6 := hid (HB.out.fr hf6 (fun hm => HV.out.blk_ne HB.out (by decide) hm))); go_loud (have f7 := HB6.out.frozen 7); go_loud (have c7' : w6.cell? ⟨G.g, 7, none⟩ = some (.slice VA s3.vars.length VC) := by rw [HB6.out.cell]; rfl); go_loud (have gl6 := HB6.out.lt); clear ho6 hf6 hv6))
    all_goals
      clear c7 c8 d3 C7 glt clt gn cn f7 c7' gl6
      have c8 := AV.out.1
      have f8 := AV.out.2.1 8
      have gl := World.block_lt_of_cell? _ _ c8
      have N := hid (HFIN.out.toN AV.out.2.2.1 HG.out HM.out)
      have FF := hid (F9.out.trans AV.out.2.2.2)
      clear AV HB6
      generalize w6.setCell ⟨G.g, 7, none⟩ (.slice A6 (s3.vars.length + 1) c6) = w10 at *
      go_wp2_with fail
      exact bodyPost_end (results_none rfl _ _ _) rfl ⟨rfl, by first | exact N.out | exact N.out.no ((Fr.refl nob _).drew), by first | exact FF.out | exact FF.out.trans (FrK.no ((Fr.refl nob _).drew))⟩
  · have h24' : (s3.size : Int) < 24 := by omega
    have FV := FV1
    have BV := BV1
    have HS := hid h24
    clear h24
    go_wp2_with fail
    clear c8
    generalize w5 = wv at *
    have PK : ∃ ev pv, Hid (Ck G wv s3 zs k ev pv) ∧ Hid (ModeK (letC ex x ⟨10, line, 0, nm, [a]⟩ s) { s3 with slots := s3.slots.set x s3.size, vars := s3.vars ++ [⟨nm, t, s3.size⟩], size := s3.size + 1 } ev pv) ∧ Hid (ev = 0 → s3.size ≤ 23) := ⟨_, _, KV1, hid (by rw [E.out]; exact HMO.out.into (by simp [HP.out]) (by decide) (by decide) _), hid (fun h => by have := HS.out; omega)⟩
    clear KV1
    obtain ⟨ev, pv, KV, HFIN, HS9⟩ := PK
    obtain ⟨_, _, -, -, -, c3, -, -, -, -, c8, -, -, -, -, -⟩ := KV.out.cells
    obtain ⟨⟨u2, cs2⟩, zs2⟩ := KV.out.slots.cellj (j := x) (by omega)
    obtain ⟨n1, n2, n3⟩ := KV.out.gne
    have D3 := hid c3
    have D8 := hid c8
    have e3' := hid ((World.cell?_setCell_other wv.drew ⟨G.bs, x, none⟩ ⟨G.g, 3, none⟩ (.int .i64 (s3.size : Nat)) (by intro e; injection e with e; exact n2 e.symm)).trans c3)
    have e8' := hid ((World.cell?_setCell_other wv.drew ⟨G.bs, x, none⟩ ⟨G.g, 8, none⟩ (.int .i64 (s3.size : Nat)) (by intro e; injection e with e; exact n2 e.symm)).trans c8)
    have S8 := hid (KV.out.setS x (s3.size : Nat))
    have B8 := hid (S8.out.2.far BV.out C1.out.n0 C1.out.n1 C1.out.n2 C1.out.n3 (by decide))
    clear n1 n2 n3
    go_region_held3 (fun wx => wx.cell? ⟨G.g, 3, none⟩ = some (.slice (some ⟨G.bs, 0, none⟩) G.ns.length G.cs) ∧ wx.cell? ⟨G.g, 8, none⟩ = some (.int .i64 (s3.size : Nat))) (first | exact ⟨D3.out, D8.out⟩ | exact ⟨e3'.out, e8'.out⟩) (first | fail)
    clear c3 c8 cs2 zs2 D3 D8 e3' e8'
    have S9 := hid (S8.out.1.no ((Fr.refl nob _).drew))
    have F9 := hid ((FV.out.trans S8.out.2).trans (FrK.no ((Fr.refl nob _).drew)))
    have B9 := hid (B8.out.fr ((Fr.refl nob _).drew) (fun x => x))
    clear S8 B8
    generalize (wv.setCell ⟨G.bs, x, none⟩ (.int .i64 (s3.size : Nat))).drew = w9 at *
    obtain ⟨zv, vv, hbl, -, -, hvo, -⟩ := S9.out.ex
    obtain ⟨VA, VC, rfl, -, -⟩ := hvo.cap
    dsimp only at hvo hbl
    have c7 : w9.cell? ⟨G.g, 7, none⟩ = some (.slice VA s3.vars.length VC) := by rw [hbl.cell]; rfl
    have c8 : w9.cell? ⟨G.g, 8, none⟩ = some (.int .i64 (s3.size : Nat)) := by rw [hbl.cell]; rfl
    have d3 : w9.cell? ⟨C, 3, none⟩ = some (.string (bs nm)) := by simpa using B9.out.cell 3
    have hvn : s3.vars.length ≤ 24 := by have := K3.out.vars; omega
    have HV := hid ((hvo.alloc (.cells #[.string (bs nm), .int .i64 (t : Nat), .int .i64 (s3.size : Nat)] 84)).fr ((Fr.refl nob _).drew) (fun _ _ x => x))
    have HR := hid (Rd.ofBlk (n := 1) (size := 3) (cs := [.string (bs nm), .int .i64 (t : Nat), .int .i64 (s3.size : Nat)]) ((Blk.new w9 84 [.string (bs nm), .int .i64 (t : Nat), .int .i64 (s3.size : Nat)].toArray).fr ((Fr.refl nob _).drew) (fun x => x)) rfl (by decide))
    have HB := hid ((hbl.alloc (.cells #[.string (bs nm), .int .i64 (t : Nat), .int .i64 (s3.size : Nat)] 84)).fr ((Fr.refl nob _).drew) (fun x => x))
    have C7 := hid c7
    have glt := hbl.lt
    have clt := B9.out.lt
    have gn : ¬ G.g = w9.heap.size := by omega
    have cn : ¬ C = w9.heap.size := by omega
    clear hbl hvo
    go_wp2_with fail
    go_region_law (first | (refine step_append (v := .slice VA s3.vars.length VC) (n := s3.vars.length) (m := 1) (xs := varCells s3.vars) (news := [.string (bs nm), .int .i64 (t : Nat), .int .i64 (s3.size : Nat)]) (by rfl) _ _ (by rfl) TyVar (by rfl) (by rfl) HV.out HR.out (by simp [Value.oneCell']) (by omega) (by unfold maxLen; omega) ?_; intro A6 c6 w6 ho6 hf6 hv6; go_loud (have AV := hid (S9.out.appV (o := .cells #[.string (bs nm), .int .i64 (t : Nat), .int .i64 (s3.size : Nat)] 84) C7.out ho6 (Fr.trans (M1 := nob) ((Fr.refl nob _).drew) hf6 (fun _ _ x => x.elim) (fun _ _ x => x)) (by simpa using hv6) (by have := HM.out; omega) HS9.out)); go_loud (have HB6 := hid (HB.out.fr hf6 (fun hm => HV.out.blk_ne HB.out (by decide) hm))); go_loud (have f7 := HB6.out.frozen 7); go_loud (have c7' : w6.cell? ⟨G.g, 7, none⟩ = some (.slice VA s3.vars.length VC) := by rw [HB6.out.cell]; rfl); go_loud (have gl6 := HB6.out.lt); clear ho6 hf6 hv6))
    all_goals
      clear c7 c8 d3 C7 glt clt gn cn f7 c7' gl6
      have c8 := AV.out.1
      have f8 := AV.out.2.1 8
      have gl := World.block_lt_of_cell? _ _ c8
      have N := hid (HFIN.out.toN AV.out.2.2.1 HG.out HM.out)
      have FF := hid (F9.out.trans AV.out.2.2.2)
      clear AV HB6
      generalize w6.setCell ⟨G.g, 7, none⟩ (.slice A6 (s3.vars.length + 1) c6) = w10 at *
      go_wp2_with fail
      exact bodyPost_end (results_none rfl _ _ _) rfl ⟨rfl, by first | exact N.out | exact N.out.no ((Fr.refl nob _).drew), by first | exact FF.out | exact FF.out.trans (FrK.no ((Fr.refl nob _).drew))⟩
end
section
variable {G : Geo} {w w' : World} {s : CkS} {r : CkR CkS} {zs : List Nat} {k e p : Nat} {ex : Nat → CkS → CkR (Nat × CkS)}
set_option maxHeartbeats 4000000 in
set_option maxRecDepth 100000 in
theorem cret0_any (hM : G.M = 24) {x line : Nat} (h : Ck G w s zs k 0 0) (hx : G.ns[x]? = some ⟨17, line, 0, [], []⟩) :
   Calls Tryd.prog 61 #[.pointer (some ⟨G.g, 0, none⟩), .int .i64 x] w (StepK G zs k (retC G.fs k ex x ⟨17, line, 0, [], []⟩ s) w) := by
 have M0 := hid (show CkM G w (.good s) zs k from h)
 obtain ⟨nb, nc, kv, hnv, hkv, hown, nlt, hx3, c0, x0, x1, x2, x3, x4⟩ := M0.out.node hx
 dsimp only at hown x0 x1 x2 x3 x4
 have hx4 : (G.ns.length : Int) ≤ 300 := by have := h.geo.few; omega
 have glt := h.g_lt
 have gn : ¬ G.g = w.heap.size := by omega
 have nn : ¬ nb = w.heap.size := by omega
 obtain ⟨KA, KC, rfl, -, -⟩ := hown.cap
 obtain ⟨fk, hfk⟩ : ∃ f, G.fs[k]? = some f := ⟨_, List.getElem?_eq_getElem h.kk⟩
 have hk3 : (k : Int) < (G.fs.length : Int) := by have := h.kk; omega
 have hk4 : (G.fs.length : Int) ≤ 6 := by have := h.geo.fewf; omega
 have C1 := hid (CkC.new M0.out 49 #[.int .i64 17, .int .i64 line, .int .i64 0, .string (bs []), .slice KA 0 KC] (by decide))
 have F1 := hid (show FrK G w (w.alloc (.cells #[.int .i64 17, .int .i64 line, .int .i64 0, .string (bs []), .slice KA 0 KC] 49)) from FrK.no ((Fr.refl nob w).alloc _))
 have HM := hid hM
 have HF := hid hfk
 obtain ⟨fb, fc, pv, -, -, c1, -, -, -, -, -, y3, -⟩ := C1.out.m.fnc hfk
 obtain ⟨_, _, -, -, -, -, -, -, c6, -⟩ := (show Ck G _ s zs k 0 0 from C1.out.m).cells
 have d4 : (w.alloc (.cells #[.int .i64 17, .int .i64 line, .int .i64 0, .string (bs []), .slice KA 0 KC] 49)).cell? ⟨w.heap.size, 4, none⟩ = some (.slice KA 0 KC) := by simp
 have K1 := hid c1
 have K6 := hid c6
 have K3 := hid y3
 have D4 := hid d4
 clear h hx hkv hown hM hfk c1 c6 y3 d4
 by_cases hr : fk.ret = 0
 · have E := hid (show retC G.fs k ex x ⟨17, line, 0, [], []⟩ s = .good s from by unfold retC; rw [HF.out]; simp [hr])
   have hb : ((fk.ret : Int) != 0) = false := by rw [hr]; rfl
   clear hr
   go_enter Tryd.func61, Tryd.ntmps61
   go_wp2_with fail
   have c1 := K1.out
   have c6 := K6.out
   have y3 := K3.out
   have d4 := D4.out
   clear c0 x0 x1 x2 x3 x4 glt gn nlt nn
   generalize w.alloc (.cells #[.int .i64 17, .int .i64 line, .int .i64 0, .string (bs []), .slice KA 0 KC] 49) = w1 at *
   generalize w.heap.size = C at *
   go_quiet (fail)
   go_wp2_with fail
   refine bodyPost_end (results_none rfl _ _ _) rfl ⟨rfl, ?_, by first | exact F1.out | exact F1.out.trans (FrK.no ((Fr.refl nob _).drewN _))⟩
   rw [E.out]
   first | exact (C1.out.m.toN HM.out) | exact (C1.out.m.toN HM.out).no ((Fr.refl nob _).drewN _)
 · have E := hid (show retC G.fs k ex x ⟨17, line, 0, [], []⟩ s = .bad 43 x from by unfold retC; rw [HF.out]; simp [hr])
   have hb : ((fk.ret : Int) != 0) = true := by rw [bne, beq_eq_false_iff_ne.2 (by omega)]; rfl
   clear hr
   go_enter Tryd.func61, Tryd.ntmps61
   go_wp2_with fail
   have c1 := K1.out
   have c6 := K6.out
   have y3 := K3.out
   have d4 := D4.out
   clear c0 x0 x1 x2 x3 x4 glt gn nlt nn
   generalize w.alloc (.cells #[.int .i64 17, .int .i64 line, .int .i64 0, .string (bs []), .slice KA 0 KC] 49) = w1 at *
   generalize w.heap.size = C at *
   go_quiet (fail)
   go_wp2_with fail
   refine ((C1.out.m.no (by first | exact Fr.refl nob w1 | exact (Fr.refl nob w1).drewN _)).fails 43 x (by decide) (by decide)).mono ?_
   rintro en w3 ⟨rfl, h3, f3⟩
   have M3 := hid h3
   have F3 := hid (F1.out.trans (FrK.trans (FrK.no (by first | exact Fr.refl nob w1 | exact (Fr.refl nob w1).drewN _)) f3))
   clear h3 f3
   go_wp2_with fail
   refine bodyPost_ret (results_none rfl _ _ _) rfl ⟨rfl, ?_, F3.out⟩
   rw [E.out]
   exact M3.out.toN HM.out
set_option maxHeartbeats 4000000 in
set_option maxRecDepth 100000 in
theorem cret1_any (hM : G.M = 24) {x line a : Nat} (h : Ck G w s zs k 0 0) (hx : G.ns[x]? = some ⟨17, line, 0, [], [a]⟩) (ha : CexOk G zs k ex a) :
   Calls Tryd.prog 61 #[.pointer (some ⟨G.g, 0, none⟩), .int .i64 x] w (StepK G zs k (retC G.fs k ex x ⟨17, line, 0, [], [a]⟩ s) w) := by
 have M0 := hid (show CkM G w (.good s) zs k from h)
 obtain ⟨nb, nc, kv, hnv, hkv, hown, nlt, hx3, c0, x0, x1, x2, x3, x4⟩ := M0.out.node hx
 dsimp only at hown x0 x1 x2 x3 x4
 have hx4 : (G.ns.length : Int) ≤ 300 := by have := h.geo.few; omega
 have glt := h.g_lt
 have gn : ¬ G.g = w.heap.size := by omega
 have nn : ¬ nb = w.heap.size := by omega
 obtain ⟨kb, kc, rfl, hkc, hcell⟩ := kids_get hown (by simp)
 have hkc2 : 1 ≤ kc := by simp at hkc; omega
 obtain ⟨fk, hfk⟩ : ∃ f, G.fs[k]? = some f := ⟨_, List.getElem?_eq_getElem h.kk⟩
 have hk3 : (k : Int) < (G.fs.length : Int) := by have := h.kk; omega
 have hk4 : (G.fs.length : Int) ≤ 6 := by have := h.geo.fewf; omega
 have C1 := hid (CkC.new M0.out 49 #[.int .i64 17, .int .i64 line, .int .i64 0, .string (bs []), .slice (some ⟨kb, 0, none⟩) 1 kc] (by decide))
 have F1 := hid (show FrK G w (w.alloc (.cells #[.int .i64 17, .int .i64 line, .int .i64 0, .string (bs []), .slice (some ⟨kb, 0, none⟩) 1 kc] 49)) from FrK.no ((Fr.refl nob w).alloc _))
 have HM := hid hM
 have HF := hid hfk
 have HA := hid ha
 obtain ⟨fb, fc, pv, -, -, c1, -, -, -, -, -, y3, -⟩ := C1.out.m.fnc hfk
 obtain ⟨_, _, -, -, -, -, -, -, c6, -⟩ := (show Ck G _ s zs k 0 0 from C1.out.m).cells
 have d4 : (w.alloc (.cells #[.int .i64 17, .int .i64 line, .int .i64 0, .string (bs []), .slice (some ⟨kb, 0, none⟩) 1 kc] 49)).cell? ⟨w.heap.size, 4, none⟩ = some (.slice (some ⟨kb, 0, none⟩) 1 kc) := by simp
 have KK := hid (C1.out.m.kid hx hkv (j := 0) (a := a) rfl)
 have K1 := hid c1
 have K6 := hid c6
 have K3 := hid y3
 have D4 := hid d4
 clear h hx hkv hown hM hfk c1 c6 y3 d4 hcell hkc ha
 by_cases hr : fk.ret = 0
 · have E := hid (show retC G.fs k ex x ⟨17, line, 0, [], [a]⟩ s = .bad 43 x from by unfold retC; rw [HF.out]; simp [hr])
   have hb : ((fk.ret : Int) != 0) = false := by rw [hr]; rfl
   clear hr
   go_enter Tryd.func61, Tryd.ntmps61
   go_wp2_with fail
   have c1 := K1.out
   have c6 := K6.out
   have y3 := K3.out
   have d4 := D4.out
   clear c0 x0 x1 x2 x3 x4 glt gn nlt nn
   generalize w.alloc (.cells #[.int .i64 17, .int .i64 line, .int .i64 0, .string (bs []), .slice (some ⟨kb, 0, none⟩) 1 kc] 49) = w1 at *
   generalize w.heap.size = C at *
   go_quiet (fail)
   go_wp2_with fail
   refine ((C1.out.m.no (by first | exact Fr.refl nob w1 | exact (Fr.refl nob w1).drewN _)).fails 43 x (by decide) (by decide)).mono ?_
   rintro en w3 ⟨rfl, h3, f3⟩
   have M3 := hid h3
   have F3 := hid (F1.out.trans (FrK.trans (FrK.no (by first | exact Fr.refl nob w1 | exact (Fr.refl nob w1).drewN _)) f3))
   clear h3 f3
   go_wp2_with fail
   refine bodyPost_ret (results_none rfl _ _ _) rfl ⟨rfl, ?_, F3.out⟩
   rw [E.out]
   exact M3.out.toN HM.out
 · have E := hid (show retC G.fs k ex x ⟨17, line, 0, [], [a]⟩ s = (ex a s).bind fun r => if r.1 = fk.ret then .good r.2 else .bad 42 x from by unfold retC; rw [HF.out]; simp [hr])
   have hb : ((fk.ret : Int) != 0) = true := by rw [bne, beq_eq_false_iff_ne.2 (by omega)]; rfl
   clear hr
   go_enter Tryd.func61, Tryd.ntmps61
   go_wp2_with fail
   have c1 := K1.out
   have c6 := K6.out
   have y3 := K3.out
   have d4 := D4.out
   have k0 := KK.out
   clear c0 x0 x1 x2 x3 x4 glt gn nlt nn
   generalize w.alloc (.cells #[.int .i64 17, .int .i64 line, .int .i64 0, .string (bs []), .slice (some ⟨kb, 0, none⟩) 1 kc] 49) = w1 at *
   generalize w.heap.size = C at *
   go_quiet (fail)
   go_wp2_with fail
   refine (HA.out _ _ (C1.out.m.no (by first | exact Fr.refl nob w1 | exact (Fr.refl nob w1).drewN _))).mono ?_
   rintro en w3 ⟨t, rfl, h3, f3, hq⟩
   have M3 := hid h3
   have F3 := hid (F1.out.trans (FrK.trans (FrK.no (by first | exact Fr.refl nob w1 | exact (Fr.refl nob w1).drewN _)) f3))
   have HQ := hid hq
   clear h3 f3 hq c1 c6 y3 d4 k0
   obtain ⟨b, hbb⟩ : ∃ b, ((t : Int) == (fk.ret : Int)) = b := ⟨_, rfl⟩
   have HBB := hid hbb
   go_wp2_with fail
   refine (M3.out.must b x).mono ?_
   rintro en w4 ⟨rfl, h4, f4⟩
   have M4 := hid h4
   have F4 := hid (F3.out.trans f4)
   clear h4 f4
   go_wp2_with fail
   refine bodyPost_end (results_none rfl _ _ _) rfl ⟨rfl, ?_, F4.out⟩
   rw [E.out]
   have h9 := M4.out.toN HM.out
   have e9 : ((((CkR.good s).bind (ex a)).map (·.2)).bind fun s => if b = true then CkR.good s else .bad 42 x) = (ex a s).bind fun r => if r.1 = fk.ret then .good r.2 else .bad 42 x := by
    have hq := HQ.out
    rw [show (CkR.good s).bind (ex a) = ex a s from rfl] at hq ⊢
    cases hE : ex a s with
    | bad e p => rfl
    | good u =>
     have := hq u hE
     simp only [CkR.map_good, CkR.bind_good, ← HBB.out, beq_iff_eq, this]
     by_cases h8 : t = fk.ret
     · rw [if_pos h8, if_pos (by omega)]
     · rw [if_neg h8, if_neg (by omega)]
   rw [← e9]; exact h9
end
end Go.Proofs.YtlbjicjinnnboaaDoor
