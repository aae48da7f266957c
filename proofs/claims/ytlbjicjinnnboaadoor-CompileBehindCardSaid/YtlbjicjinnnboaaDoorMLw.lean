/- MLw: LwA, LwB. -/
import Derived.Test.YtlbjicjinnnboaaDoorMO3
import Derived.Test.YtlbjicjinnnboaaDoorMTs
set_option linter.unusedVariables false
set_option linter.unusedSimpArgs false
/- The laws of compile: a program of a source in memory; the document's example; short. -/
namespace Go.Proofs.YtlbjicjinnnboaaDoor
open Go.RowKit
open Pw
theorem source_is {src : List UInt8} {p : ProgM} (h : sourceM src = some (.good p)) : ProgIs p ∧ parseM src = some (.good p.ns p.fs) := by
 unfold sourceM at h
 rw [Option.map_eq_some_iff] at h
 obtain ⟨r, hr, h⟩ := h
 cases r with
 | bad p e => cases h
 | good ns fs =>
  cases hc : checkT ns fs with
  | bad e x =>
   simp only [hc] at h
   split at h <;> cases h
  | good q =>
   simp only [hc] at h
   injection h with h
   subst h
   obtain ⟨h1, h2, h3⟩ := check_is (parse_is hr) hc
   rw [h2, h3]
   exact ⟨h1, hr⟩
theorem prog_pos {p : ProgM} (hi : ProgIs p) : 0 < p.fs.length ∧ 0 < p.ns.length := by
 have hh := hi.heads
 unfold headsC at hh
 have hf : 0 < p.fs.length := by
  cases hfs : p.fs with
  | nil => rw [hfs] at hh; simp [twiceC] at hh
  | cons f l => simp
 refine ⟨hf, ?_⟩
 obtain ⟨c, hc, _⟩ := hi.tree.ok.bodies p.fs[0] (List.getElem_mem hf)
 have := (List.getElem?_eq_some_iff.1 hc).1
 omega
theorem pg_of {w : World} {nv fv tv sv uv zv : Value} {lvs pvs : List Value} {p : ProgM} (h : ProgAt w nv fv tv sv uv zv lvs pvs p) (hi : ProgIs p) : ∃ g : PgV, g.p = p ∧ g.val = .agg #[nv, fv, tv, sv, uv, zv] ∧ PgAt g w ∧ ProgAt w nv fv tv sv uv zv lvs pvs g.p := by
 obtain ⟨h1, h2⟩ := prog_pos hi
 obtain ⟨A1, c1, rfl, _, _⟩ := h.tree.nodes.cap
 obtain ⟨A2, c2, rfl, _, _⟩ := h.tree.fns.cap
 obtain ⟨A3, c3, rfl, _, _⟩ := h.types.cap
 obtain ⟨A4, c4, rfl, _, _⟩ := h.slots.cap
 obtain ⟨A5, c5, rfl, _, _⟩ := h.fn.cap
 obtain ⟨A6, c6, rfl, _, _⟩ := h.sizes.cap
 have ht := h.types
 have hs := h.slots
 rw [hi.lt] at ht
 rw [hi.ls] at hs
 obtain ⟨b1, rfl, _⟩ := h.tree.nodes.some h2
 obtain ⟨b2, rfl, _⟩ := h.tree.fns.some h1
 obtain ⟨b3, rfl, _⟩ := ht.some h2
 obtain ⟨b4, rfl, _⟩ := hs.some h2
 exact ⟨⟨b1, c1, b2, c2, b3, c3, b4, c4, A5, p.fn.length, c5, A6, p.sizes.length, c6, lvs, pvs, p⟩, rfl, by rw [hi.lt, hi.ls]; rfl, ⟨hi, h.tree, ht, hs⟩, h⟩
def ex9 : List UInt8 := [102, 110, 32, 109, 97, 105, 110, 40, 41, 123, 112, 114, 105, 110, 116, 32, 49, 43, 50, 59, 125]
def ex9P : ProgM := ⟨[⟨1, 1, 1, [], []⟩, ⟨1, 1, 2, [], []⟩, ⟨9, 1, 0, [43], [0, 1]⟩, ⟨14, 1, 0, [], [2]⟩, ⟨18, 1, 0, [], [3]⟩], [⟨[109, 97, 105, 110], 1, [], 0, 4⟩], [1, 1, 1, 0, 0], [-1, -1, -1, -1, -1], [0, 0, 0, 0, 0], [0]⟩
theorem ex9_src : sourceM ex9 = some (.good ex9P) := by kernel_rfl
theorem ex9_comp : (compM ex9P).ins = [⟨1, 3, 0, []⟩, ⟨2, 1, 0, []⟩, ⟨2, 2, 0, []⟩, ⟨7, 0, 0, [43]⟩, ⟨15, 0, 0, []⟩, ⟨22, 0, 0, []⟩] := by kernel_rfl
theorem ex9_main : idxZ (findF ex9P.fs [109, 97, 105, 110]) = 0 := by kernel_rfl
theorem source_prog {w : World} {en : Ending} {p : ProgM} (h : SourceAt w en (.good p)) (hi : ProgIs p) : ∃ g : PgV, g.p = p ∧ PgAt g w ∧ en = .returned (.tuple #[g.val, .int .i64 0, .int .i64 0]) := by
 obtain ⟨nv, fv, tv, sv, uv, zv, lvs, pvs, he, hp⟩ := h
 obtain ⟨g, h1, h2, h3, _⟩ := pg_of hp hi
 exact ⟨g, h1, h3, by rw [he, h2]⟩
set_option maxHeartbeats 2000000 in
set_option maxRecDepth 100000 in
theorem shown9_any (HSRC : SrcAny) (w : World) : Calls Tryd.prog 4 #[] w fun e w' => e = .returned (.bool true) ∧ Fr nob w w' := by
 have HS := hid (HSRC ⟨#[102, 110, 32, 109, 97, 105, 110, 40, 41, 123, 112, 114, 105, 110, 116, 32, 49, 43, 50, 59, 125]⟩ w (by decide) (r := .good ex9P) ex9_src)
 have HI := hid (source_is ex9_src).1
 go_enter Tryd.func4, Tryd.ntmps4
 go_wp2_with fail
 refine HS.out.mono ?_
 rintro e w1 ⟨hs, hf⟩
 obtain ⟨g, hg, pg, rfl⟩ := source_prog hs HI.out
 have P1 := hid pg
 have F1 := hid hf
 have HG := hid hg
 clear hs hf pg hg HS
 unfold PgV.val
 have FA := hid (show Fr nob w1 (w1.alloc (.cells #[.slice (some ⟨g.nb, 0, none⟩) g.p.ns.length g.nc, .slice (some ⟨g.fb, 0, none⟩) g.p.fs.length g.fc, .slice (some ⟨g.tb, 0, none⟩) g.p.ns.length g.tc, .slice (some ⟨g.sb, 0, none⟩) g.p.ns.length g.sc, .slice g.ua g.un g.uc, .slice g.za g.zn g.zc] 29)) from (Fr.refl nob w1).alloc _)
 have P2 := hid (P1.out.no FA.out)
 have HA := hid (coall_any P2.out)
 unfold PgV.val at HA
 go_wp2_with fail
 have BP := hid (Blk.new w1 29 #[.slice (some ⟨g.nb, 0, none⟩) g.p.ns.length g.nc, .slice (some ⟨g.fb, 0, none⟩) g.p.fs.length g.fc, .slice (some ⟨g.tb, 0, none⟩) g.p.ns.length g.tc, .slice (some ⟨g.sb, 0, none⟩) g.p.ns.length g.sc, .slice g.ua g.un g.uc, .slice g.za g.zn g.zc])
 refine HA.out.mono ?_
 rintro e w2 ⟨iv, ev, rfl, hc, hf⟩
 have hl : (compM g.p).ins = [⟨1, 3, 0, []⟩, ⟨2, 1, 0, []⟩, ⟨2, 2, 0, []⟩, ⟨7, 0, 0, [43]⟩, ⟨15, 0, 0, []⟩, ⟨22, 0, 0, []⟩] := by rw [HG.out]; exact ex9_comp
 have ho := hc.ins
 have he := hc.ent
 rw [hl] at ho
 have ho : Own w2 39 4 iv 6 (insCells [⟨1, 3, 0, []⟩, ⟨2, 1, 0, []⟩, ⟨2, 2, 0, []⟩, ⟨7, 0, 0, [43]⟩, ⟨15, 0, 0, []⟩, ⟨22, 0, 0, []⟩]) := ho
 obtain ⟨IA, IC, rfl, -, -⟩ := ho.cap
 obtain ⟨EA, EC, rfl, -, -⟩ := he.cap
 obtain ⟨ib, rfl, hcell⟩ := ho.some (by decide)
 generalize (compM g.p).entry.length = el at *
 have x0 := hcell 0 _ rfl
 have x1 := hcell 1 _ rfl
 have x2 : w2.cell? ⟨ib, 15, none⟩ = some (.string ⟨#[43]⟩) := hcell 15 _ rfl
 have x3 := hcell 20 _ rfl
 have ilt : ib < w2.heap.size := World.block_lt_of_cell? _ _ x0
 have hs : ((⟨#[43]⟩ : ByteArray).toList == [43]) = true := by kernel_rfl
 have P3 := hid ((P2.out.no hf).no ((Fr.refl nob w2).alloc (.cells #[.slice (some ⟨ib, 0, none⟩) 6 IC, .slice EA el EC] 35)))
 have F3 := hid (((F1.out.tr FA.out).tr hf).alloc (.cells #[.slice (some ⟨ib, 0, none⟩) 6 IC, .slice EA el EC] 35))
 have BP2 := hid (BP.out.fr hf (fun x => x))
 have BP3 := hid (BP2.out.alloc (.cells #[.slice (some ⟨ib, 0, none⟩) 6 IC, .slice EA el EC] 35))
 have BC := hid (Blk.new w2 35 #[.slice (some ⟨ib, 0, none⟩) 6 IC, .slice EA el EC])
 have FC := hid ((Fr.refl nob w2).alloc (.cells #[.slice (some ⟨ib, 0, none⟩) 6 IC, .slice EA el EC] 35))
 have y0 := (FC.out.cell ilt (fun x => x)).trans x0
 have y1 := (FC.out.cell (p := ⟨ib, 1, none⟩) ilt (fun x => x)).trans x1
 have y2 := (FC.out.cell (p := ⟨ib, 15, none⟩) ilt (fun x => x)).trans x2
 have y3 := (FC.out.cell (p := ⟨ib, 20, none⟩) ilt (fun x => x)).trans x3
 clear hf hc ho he hcell x0 x1 x2 x3 ilt hl P2 FA HA BP
 generalize w1.heap.size = PB at *
 obtain ⟨p0, p1, p2, p3, p4, p5, _⟩ := BP3.out.sixth
 have q0 := (BC.out.cell 0).trans rfl
 have HM := hid (comain_any P3.out)
 unfold PgV.val at HM
 rw [HG.out, ex9_main] at HM
 rw [HG.out] at p0 p1 p2 p3
 rw [HG.out]
 go_wp2_with fail
 refine HM.out.mono ?_
 rintro e w4 ⟨rfl, hf⟩
 have F4 := hid (F3.out.tr hf)
 clear hf
 go_wp2_with fail
 go_ret
 exact ⟨rfl, F4.out⟩
theorem source_some (src : List UInt8) : ∃ r, sourceM src = some r := by
 obtain ⟨r, hr⟩ := parse_some src
 unfold sourceM
 rw [hr]
 exact ⟨_, rfl⟩
end Go.Proofs.YtlbjicjinnnboaaDoor
