/- MO1: CoMem, CoPut, CoEach, CoEx. -/
import Derived.Test.YtlbjicjinnnboaaDoorMO0
import Derived.Test.YtlbjicjinnnboaaDoorMCd
import Derived.Test.YtlbjicjinnnboaaDoorMK1
import Derived.StillTailTactics
set_option linter.unusedVariables false
set_option linter.unusedSimpArgs false
/- The program's own coder: in memory; put, here, node, each. -/
namespace Go.Proofs.YtlbjicjinnnboaaDoor
open Go.RowKit
open Pw
def coTs : List TypeId := [51, 39]
def coCells (g : PgV) (iv : Value) : Array Value := #[.slice (some ⟨g.nb, 0, none⟩) g.p.ns.length g.nc, .slice (some ⟨g.fb, 0, none⟩) g.p.fs.length g.fc, .slice (some ⟨g.tb, 0, none⟩) g.p.ns.length g.tc, .slice (some ⟨g.sb, 0, none⟩) g.p.ns.length g.sc, .slice g.ua g.un g.uc, .slice g.za g.zn g.zc, iv]
structure Co (g : PgV) (cb : Nat) (w : World) (L : List InsM) : Prop where
 pg : PgAt g w
 ex : ∃ A c, Blk w cb 51 (coCells g (.slice A L.length c)) ∧ Own w 39 4 (.slice A L.length c) L.length (insCells L) ∧ (∀ b, blk (.slice A L.length c) = some b → cb < b)
section
variable {g : PgV} {cb : Nat} {w w' : World} {L : List InsM}
theorem Co.no (h : Co g cb w L) (f : Fr nob w w') : Co g cb w' L := by
 obtain ⟨A, c, hb, ho, hn⟩ := h.ex
 exact ⟨h.pg.no f, A, c, hb.fr f (fun x => x), ho.fr f (fun _ _ x => x), hn⟩
theorem coTs_pg (h : PgAt g w) {B : Nat} (f : FrT B coTs w w') : PgAt g w' := f.pg h (by decide) (by decide) (by decide) (by decide)
theorem Co.app (h : Co g cb w L) {A : Option Addr} {c : Nat} (hb : Blk w cb 51 (coCells g (.slice A L.length c))) {x : List InsM} {m : Nat} {w1 w2 : World} {A' : Option Addr} {c' : Nat} (hf0 : Fr nob w w1) (ho : Own w2 39 4 (.slice A' (L.length + m) c') (L.length + m) (insCells L ++ insCells x)) (hm : m = x.length)
   (hf : Fr (obl (blk (.slice A L.length c))) w1 w2) (hv : blk (.slice A' (L.length + m) c') = blk (.slice A L.length c) ∨ blk (.slice A' (L.length + m) c') = some w1.heap.size) :
   Co g cb (w2.setCell ⟨cb, 6, none⟩ (.slice A' (L.length + m) c')) (L ++ x) ∧ FrT cb coTs w (w2.setCell ⟨cb, 6, none⟩ (.slice A' (L.length + m) c')) := by
 subst hm
 obtain ⟨A0, c0, hb0, ho0, hn⟩ := h.ex
 have e : (Value.slice A0 L.length c0) = .slice A L.length c := by
   have h1 := hb0.symm.trans hb
   injection h1 with h1
   injection h1 with h1 _
   have := congrArg (fun a => a[6]?) h1
   simpa [coCells] using this
 rw [e] at ho0 hn
 have ho1 : Own w1 39 4 (.slice A L.length c) L.length (insCells L) := ho0.fr hf0 (fun _ _ x => x)
 have hf2 : FrT cb coTs w1 w2 := FrT.app ho1 (by decide) (fun b hb' => Nat.le_of_lt (hn b hb')) hf
 have hf3 : FrT cb coTs w w2 := (FrT.no hf0).tr hf2
 have hb2 : Blk w2 cb 51 (coCells g (.slice A L.length c)) := (hb.fr hf0 (fun x => x)).fr hf (fun hm => by
   have hm : blk (.slice A L.length c) = some cb := hm
   have := hn cb hm; omega)
 have hf4 : FrT cb coTs w2 (w2.setCell ⟨cb, 6, none⟩ (.slice A' (L.length + x.length) c')) := FrT.set hb2 (by decide) (Nat.le_refl _) _ _
 have hlt : cb < w1.heap.size := (hb.fr hf0 (fun x => x)).lt
 refine ⟨⟨coTs_pg h.pg (hf3.tr hf4), A', c', ?_, ?_, fun b hb' => ?_⟩, hf3.tr hf4⟩
 · have := hb2.setCell 6 (.slice A' (L.length + x.length) c')
   rw [List.length_append]
   exact this
 · rw [List.length_append, insCells_app]
   exact ho.far (fun hb' => by
     have hb' : blk (.slice A' (L.length + x.length) c') = some cb := hb'
     rcases hv with e | e
     · rw [e] at hb'; have := hn cb hb'; omega
     · rw [e] at hb'; injection hb' with hb'; omega) _
 · rw [List.length_append] at hb'
   rcases hv with e | e
   · exact hn b (e ▸ hb')
   · rw [e] at hb'; injection hb' with hb'; omega
end
theorem Blk.fifth {w : World} {T t : Nat} {a b c d e : Value} (h : Blk w T t #[a, b, c, d, e]) :
  w.cell? ⟨T, 0, none⟩ = some a ∧ w.cell? ⟨T, 1, none⟩ = some b ∧ w.cell? ⟨T, 2, none⟩ = some c ∧ w.cell? ⟨T, 3, none⟩ = some d ∧ w.cell? ⟨T, 4, none⟩ = some e ∧
  w.frozen? ⟨T, 0, none⟩ = false ∧ w.frozen? ⟨T, 1, none⟩ = false ∧ w.frozen? ⟨T, 2, none⟩ = false ∧ w.frozen? ⟨T, 3, none⟩ = false ∧ w.frozen? ⟨T, 4, none⟩ = false ∧ T < w.heap.size :=
 ⟨(h.cell 0).trans rfl, (h.cell 1).trans rfl, (h.cell 2).trans rfl, (h.cell 3).trans rfl, (h.cell 4).trans rfl, h.frozen 0, h.frozen 1, h.frozen 2, h.frozen 3, h.frozen 4, h.lt⟩
section
variable {g : PgV} {cb : Nat} {w w' : World} {L : List InsM}
set_option maxHeartbeats 2000000 in
set_option maxRecDepth 100000 in
theorem conode_any (h : Co g cb w L) {x : Nat} {nd : NodeM} (hx : g.p.ns[x]? = some nd) : ∃ lv, Own w 3 1 lv nd.l.length (ints nd.l) ∧
  Calls Tryd.prog 21 #[.pointer (some ⟨cb, 0, none⟩), .int .i64 (x : Nat)] w fun en w' => en = .returned (.agg #[.int .i64 nd.kind, .int .i64 nd.line, .int .i64 nd.n, .string (bs nd.name), lv]) ∧ Fr nob w w' := by
 obtain ⟨lv, hlv, x0, x1, x2, x3, x4, nlt, xlt⟩ := h.pg.node hx
 refine ⟨lv, hlv, ?_⟩
 obtain ⟨A, c, hb, -, -⟩ := h.ex
 have c0 : w.cell? ⟨cb, 0, none⟩ = some (.slice (some ⟨g.nb, 0, none⟩) g.p.ns.length g.nc) := (hb.cell 0).trans rfl
 have clt := hb.lt
 have hx3 : (x : Int) < (g.p.ns.length : Int) := by omega
 have n1 : ¬ cb = w.heap.size := by omega
 have n2 : ¬ g.nb = w.heap.size := by omega
 obtain ⟨LA, LC, rfl, -, -⟩ := hlv.cap
 generalize hll : nd.l.length = ll at *
 clear h hb hx hlv xlt hll
 go_enter Tryd.func21, Tryd.ntmps21
 go_wp2_with fail
 refine bodyPost_ret (v := .agg #[.int .i64 nd.kind, .int .i64 nd.line, .int .i64 nd.n, .string (bs nd.name), .slice LA ll LC]) (by simp [results, Tryd.results21, go_sem]) rfl ⟨rfl, (Fr.refl nob w).alloc _⟩
theorem coApp (h : Co g cb w L) {A : Option Addr} {c n : Nat} {o : Obj} {news : List Value} {i : InsM} (hb : Blk w cb 51 (coCells g (.slice A n c))) (hn : L.length = n) (he : news = insCells [i]) {w3 : World} {A3 : Option Addr} {c3 : Nat}
  (ho : Own w3 39 4 (.slice A3 (n + 1) c3) (n + 1) (insCells L ++ news)) (hf : Fr (obl (blk (.slice A n c))) (w.alloc o) w3) (hv : blk (.slice A3 (n + 1) c3) = blk (.slice A n c) ∨ blk (.slice A3 (n + 1) c3) = some (w.alloc o).heap.size) :
  Co g cb (w3.setCell ⟨cb, 6, none⟩ (.slice A3 (n + 1) c3)) (L ++ [i]) ∧ FrT cb coTs w (w3.setCell ⟨cb, 6, none⟩ (.slice A3 (n + 1) c3)) := by
 subst hn
 rw [he] at ho
 exact h.app hb (x := [i]) (m := 1) ((Fr.refl nob w).alloc o) ho rfl hf hv
theorem coArm (h : Co g cb w L) {A : Option Addr} {c n : Nat} {news : List Value} {i : InsM} (hb : Blk w cb 51 (coCells g (.slice A n c))) (hn : L.length = n) (he : news = insCells [i]) {w1 : World} (hf0 : Fr nob w w1) : ∀ (A3 : Option Addr) (c3 : Nat) (w3 : World),
  Own w3 39 4 (.slice A3 (n + 1) c3) (n + 1) (insCells L ++ news) → Fr (obl (blk (.slice A n c))) w1 w3 → (blk (.slice A3 (n + 1) c3) = blk (.slice A n c) ∨ blk (.slice A3 (n + 1) c3) = some w1.heap.size) →
  w3.frozen? ⟨cb, 6, none⟩ = false ∧ w3.cell? ⟨cb, 6, none⟩ = some (.slice A n c) ∧ cb < w3.heap.size ∧ Hid (Co g cb (w3.setCell ⟨cb, 6, none⟩ (.slice A3 (n + 1) c3)) (L ++ [i]) ∧ FrT cb coTs w (w3.setCell ⟨cb, 6, none⟩ (.slice A3 (n + 1) c3))) := by
 intro A3 c3 w3 ho hf hv
 subst hn
 rw [he] at ho
 have hx := h.app hb (x := [i]) (m := 1) hf0 ho rfl hf hv
 obtain ⟨A0, c0, hb0, ho0, hnw⟩ := h.ex
 have e : (Value.slice A0 L.length c0) = .slice A L.length c := by
  have h1 := hb0.symm.trans hb
  injection h1 with h1
  injection h1 with h1 _
  have := congrArg (fun a => a[6]?) h1
  simpa [coCells] using this
 rw [e] at hnw
 have h3 : Blk w3 cb 51 (coCells g (.slice A L.length c)) := (hb.fr hf0 (fun x => x)).fr hf (fun hm => by
  have hm : blk (.slice A L.length c) = some cb := hm
  have := hnw cb hm; omega)
 exact ⟨h3.frozen 6, (h3.cell 6).trans rfl, h3.lt, hx⟩
theorem coCell {A : Option Addr} {c n : Nat} {o : Obj} (hb : Blk w cb 51 (coCells g (.slice A n c))) {w3 : World} (hf : Fr (obl (blk (.slice A n c))) (w.alloc o) w3) (hn : ∀ b, blk (.slice A n c) = some b → cb < b) :
  w3.cell? ⟨cb, 6, none⟩ = some (.slice A n c) ∧ w3.frozen? ⟨cb, 6, none⟩ = false ∧ cb < w3.heap.size := by
 have h3 : Blk w3 cb 51 (coCells g (.slice A n c)) := (hb.alloc o).fr hf (fun hm => by
  have hm : blk (.slice A n c) = some cb := hm
  have := hn cb hm; omega)
 exact ⟨(h3.cell 6).trans rfl, h3.frozen 6, h3.lt⟩
set_option maxHeartbeats 2000000 in
set_option maxRecDepth 100000 in
theorem coput_any (h : Co g cb w L) (i : InsM) {o a : Int} (ho : o = (i.op : Nat)) (ha : a = i.a) (hb0 : i.b = 0) (hs0 : i.s = []) (hL : L.length ≤ 3000) :
  Calls Tryd.prog 12 #[.pointer (some ⟨cb, 0, none⟩), .int .i64 o, .int .i64 a] w fun en w' => en = .returned (.int .i64 (L.length : Nat)) ∧ Co g cb w' (L ++ [i]) ∧ FrT cb coTs w w' := by
 obtain ⟨A, c, hb, hown, hnew⟩ := h.ex
 have c6 : w.cell? ⟨cb, 6, none⟩ = some (.slice A L.length c) := (hb.cell 6).trans rfl
 have f6 := hb.frozen 6
 have clt := hb.lt
 have H0 := hid h
 have HB := hid hb
 have HO := hid hown
 have HE := hid (show ([.int .i64 o, .int .i64 a, .int .i64 0, .string ⟨#[]⟩] : List Value) = insCells [i] from by
  subst ho; subst ha
  obtain ⟨o, a, b, s⟩ := i
  dsimp only at hb0 hs0
  subst hb0; subst hs0; rfl)
 have hL3 : (L.length : Int) ≤ 3000 := by omega
 have HNW := hid hnew
 clear h hb hown hnew ho ha hb0 hs0
 generalize hn : L.length = n at *
 have HN := hid hn
 clear hn
 go_enter Tryd.func12, Tryd.ntmps12
 go_wp2_with (at_builtin; refine wpList_append (v := .slice A n c) (n := n) (m := 1) (xs := insCells L) (news := [.int .i64 o, .int .i64 a, .int .i64 0, .string ⟨#[]⟩]) rfl _ _ rfl TyIns rfl rfl (HO.out.alloc _) (Rd.ofBlk (n := 1) (cs := [.int .i64 o, .int .i64 a, .int .i64 0, .string ⟨#[]⟩]) (Blk.new _ _ _) rfl (by decide)) (by simp [Value.oneCell']) (by omega) (by unfold maxLen; omega) ?_; intro A3 c3 w3 ho3 hf3 hv3; have CO := hid (coApp H0.out HB.out HN.out HE.out ho3 hf3 hv3); have g6 := (coCell HB.out hf3 HNW.out).2.1; have d6 := (coCell HB.out hf3 HNW.out).1; have dlt := (coCell HB.out hf3 HNW.out).2.2; clear ho3 hf3 hv3)
 clear c6 f6 clt g6 d6 dlt
 have hlen := CO.out.1
 have HC := hid CO.out
 clear hlen CO
 generalize w3.setCell ⟨cb, 6, none⟩ (.slice A3 (n + 1) c3) = w4 at *
 obtain ⟨A5, c5, hb5, -, -⟩ := HC.out.1.ex
 have c6 : w4.cell? ⟨cb, 6, none⟩ = some (.slice A5 (n + 1) c5) := by
  have := (hb5.cell 6).trans rfl
  rw [List.length_append, List.length_singleton, HN.out] at this
  exact this
 have v1 : IntKind.i64.wrap ((n : Int) + 1 - 1) = (n : Int) := by rw [show (n : Int) + 1 - 1 = n by omega]; exact IntWalk.i64_in _ (by omega)
 clear hb5
 go_wp2_with fail
 go_ret
 exact ⟨by simp, HC.out.1, HC.out.2⟩
theorem coputN_any (h : Co g cb w L) {N : Nat} (hN : L.length = N) (i : InsM) {o a : Int} (ho : o = (i.op : Nat)) (ha : a = i.a) (hb0 : i.b = 0) (hs0 : i.s = []) (hL : L.length ≤ 3000) :
  Calls Tryd.prog 12 #[.pointer (some ⟨cb, 0, none⟩), .int .i64 o, .int .i64 a] w fun en w' => en = .returned (.int .i64 (N : Nat)) ∧ Co g cb w' (L ++ [i]) ∧ FrT cb coTs w w' := by
 subst hN
 exact coput_any h i ho ha hb0 hs0 hL
theorem insCells_set : ∀ {l : List InsM} {j : Nat} {x : InsM} (a : Int), l[j]? = some x → (insCells l).set (j * 4 + 1) (.int .i64 a) = insCells (l.set j { x with a := a })
 | [], _, _, _, h => by simp at h
 | y :: l, 0, x, a, h => by
  simp at h; subst h
  rfl
 | y :: l, j + 1, x, a, h => by
  have := insCells_set (l := l) (j := j) (x := x) a (by simpa using h)
  have e : insCells (y :: l) = insOne y ++ insCells l := rfl
  have hl : (insOne y).length = 4 := rfl
  rw [e, List.set_cons_succ, show insCells (y :: l.set j { x with a := a }) = insOne y ++ insCells (l.set j { x with a := a }) from rfl, ← this, List.set_append_right _ _ (by omega), hl, show (j + 1) * 4 + 1 - 4 = j * 4 + 1 by omega]
def hereL (L : List InsM) (j : Nat) : List InsM := match L[j]? with | none => L | some x => L.set j { x with a := (L.length : Nat) }
set_option maxHeartbeats 2000000 in
set_option maxRecDepth 100000 in
theorem cohere_any (h : Co g cb w L) {j : Nat} (hj : j < L.length) (hL : L.length ≤ 3000) :
  Calls Tryd.prog 50 #[.pointer (some ⟨cb, 0, none⟩), .int .i64 (j : Nat)] w fun en w' => en = .returned (.tuple #[]) ∧ Co g cb w' (hereL L j) ∧ FrT cb coTs w w' := by
 obtain ⟨A, c, hb, hown, hnew⟩ := h.ex
 obtain ⟨b, rfl, hcell⟩ := hown.some (by omega)
 have c6 : w.cell? ⟨cb, 6, none⟩ = some (.slice (some ⟨b, 0, none⟩) L.length c) := (hb.cell 6).trans rfl
 obtain ⟨x, hx⟩ : ∃ x, L[j]? = some x := ⟨_, List.getElem?_eq_getElem hj⟩
 have x1 := hcell _ _ (insCells_get hx).2.1
 have hbl : blk (.slice (some ⟨b, 0, none⟩) L.length c) = some b := blk_rowP (by omega) hown.capn.1
 obtain ⟨cs, hib⟩ := hown.ty hbl
 have z1 := hib.frozen (j * 4 + 1)
 have blt := hib.lt
 have clt := hb.lt
 have hj2 : (j : Int) < (L.length : Int) := by omega
 have hL3 : (L.length : Int) ≤ 3000 := by omega
 have key : Co g cb (w.setCell ⟨b, j * 4 + 1, none⟩ (.int .i64 (L.length : Nat))) (hereL L j) ∧ FrT cb coTs w (w.setCell ⟨b, j * 4 + 1, none⟩ (.int .i64 (L.length : Nat))) := by
  have hf : FrT cb coTs w (w.setCell ⟨b, j * 4 + 1, none⟩ (.int .i64 (L.length : Nat))) := FrT.set hib (by decide) (Nat.le_of_lt (hnew b hbl)) _ _
  have hl2 : (hereL L j).length = L.length := by unfold hereL; rw [hx]; simp
  refine ⟨⟨coTs_pg h.pg hf, some ⟨b, 0, none⟩, c, ?_, ?_, ?_⟩, hf⟩
  · rw [hl2]; exact hb.far (fun e => by have := hnew b hbl; have e : cb = b := e; omega) _
  · rw [hl2]
    have := hown.store hbl (j * 4 + 1) (.int .i64 (L.length : Nat))
    rw [insCells_set _ hx] at this
    unfold hereL; rw [hx]; exact this
  · rw [hl2]; exact hnew
 have HK := hid key
 clear key h hb hown hnew hx hbl hib hcell hj hL
 generalize L.length = n at *
 go_enter Tryd.func50, Tryd.ntmps50
 go_wp2_with fail
 go_region_law (fail)
 all_goals
  go_wp2_with fail
  refine bodyPost_end (results_none rfl _ _ _) rfl ⟨rfl, ?_⟩
  first
  | exact HK.out
  | exact ⟨HK.out.1.no ((Fr.refl nob _).drew), HK.out.2.tr (FrT.no ((Fr.refl nob _).drew))⟩
end
theorem rowGet {w : World} {kv : Value} {l : List Nat} (h : Own w 3 1 kv l.length (ints l)) {j a : Nat} (hj : l[j]? = some a) : ∃ kb c, kv = .slice (some ⟨kb, 0, none⟩) l.length c ∧ w.cell? ⟨kb, j, none⟩ = some (.int .i64 (a : Nat)) := by
 obtain ⟨A, c, rfl, _, _⟩ := h.cap
 obtain ⟨b, rfl, hc⟩ := h.some (by have := (List.getElem?_eq_some_iff.1 hj).1; omega)
 have := hc j (.int .i64 (a : Nat)) (by unfold ints; rw [List.getElem?_map, hj]; rfl)
 exact ⟨b, c, rfl, by simpa using this⟩
set_option maxHeartbeats 2000000 in
set_option maxRecDepth 100000 in
theorem each_any {F : Nat} {rv kv : Value} {l : List Nat} (hen : Enters Tryd.prog F) (I : Nat → World → Prop) (hk : ∀ j w, I j w → Own w 3 1 kv l.length (ints l)) (hl : l.length ≤ 1000)
  (hone : ∀ j x w, l[j]? = some x → I j w → Calls Tryd.prog F #[rv, .int .i64 (x : Nat)] w fun en w' => en = .returned (.tuple #[]) ∧ I (j + 1) w') {w : World} (h : I 0 w) :
  Calls Tryd.prog 20 #[kv, .func (.func F) #[rv] #[]] w fun en w' => en = .returned (.tuple #[]) ∧ I l.length w' := by
 obtain ⟨KA, KC, rfl, -, -⟩ := (hk 0 w h).cap
 have HK := hid hk
 have HO := hid hone
 have H0 := hid h
 clear hk hone h
 generalize hn : l.length = n at *
 have HN := hid hn
 clear hn
 have hn3 : (n : Int) ≤ 1000 := by omega
 go_enter Tryd.func20, Tryd.ntmps20
 go_wp2_with fail
 go_loopw [8] (fun i wr => ∃ j : Nat, j ≤ n ∧ i = .int .i64 (j : Int) ∧ Hid (I j wr)) (fun i _ => n - (intOf i).toNat)
 case atStart => exact ⟨0, Nat.zero_le _, by go_num, H0⟩
 case round =>
  obtain ⟨j, hj, rfl, HJ⟩ := hrel
  clear H0
  by_cases hjn : j < n
  · obtain ⟨a, ha⟩ : ∃ a, l[j]? = some a := ⟨_, List.getElem?_eq_getElem (by rw [HN.out]; exact hjn)⟩
    obtain ⟨kb, c, e, hc⟩ := rowGet (by rw [HN.out]; exact HK.out _ _ HJ.out) ha
    injection e with e1 e2 e3
    subst e1
    have HC := hid (HO.out j a _ ha HJ.out)
    have hj2 : (j : Int) < (n : Int) := by omega
    clear hj hjn ha e2 e3
    go_wp2_with fail
    rw [hen]
    go_wp2_with fail
    refine HC.out.mono ?_
    rintro e w4 ⟨rfl, h4⟩
    have H4 := hid h4
    clear h4
    go_wp2_with fail
    go_roundw
    case rel => exact ⟨j + 1, by omega, by go_num, H4⟩
    case measure => simp [intOf]; omega
  · have hj2 : ¬ (j : Int) < (n : Int) := by omega
    have hjn2 : j = n := by omega
    subst hjn2
    clear hj hjn
    go_wp2_with fail
    exact bodyPost_end (results_none rfl _ _ _) rfl ⟨rfl, HJ.out⟩
def CoOk (F : Nat) (g : PgV) (x at_ : Nat) (l : List InsM) : Prop := ∀ (cb : Nat) (w : World) (L : List InsM), Co g cb w L → L.length = at_ → at_ + l.length ≤ 3000 →
 Calls Tryd.prog F #[.pointer (some ⟨cb, 0, none⟩), .int .i64 (x : Nat)] w fun en w' => en = .returned (.tuple #[]) ∧ Co g cb w' (L ++ l) ∧ FrT cb coTs w w'
def CoRow (F : Nat) (g : PgV) (ks : List Nat) (at_ : Nat) (l : List InsM) : Prop := ∃ cs : List (List InsM), cs.length = ks.length ∧ l = cs.flatten ∧ ∀ (j x : Nat) (c : List InsM), ks[j]? = some x → cs[j]? = some c → CoOk F g x (at_ + (cs.take j).flatten.length) c
section
variable {g : PgV} {F : Nat}
theorem CoRow.nil (at_ : Nat) : CoRow F g [] at_ [] := ⟨[], rfl, rfl, fun j x c h => by simp at h⟩
theorem CoRow.cons {x at_ : Nat} {ks : List Nat} {l m : List InsM} (h : CoOk F g x at_ l) (h2 : CoRow F g ks (at_ + l.length) m) : CoRow F g (x :: ks) at_ (l ++ m) := by
 obtain ⟨cs, h1, rfl, h3⟩ := h2
 refine ⟨l :: cs, by simp [h1], by simp, fun j y c hj hc => ?_⟩
 cases j with
 | zero =>
  simp at hj hc
  subst hj; subst hc
  simpa using h
 | succ j =>
  have := h3 j y c (by simpa using hj) (by simpa using hc)
  rw [List.take_succ_cons, List.flatten_cons, List.length_append, ← Nat.add_assoc]
  exact this
theorem flat_take_len {cs : List (List InsM)} {j : Nat} {c : List InsM} (h : cs[j]? = some c) : (cs.take (j + 1)).flatten = (cs.take j).flatten ++ c := by
 rw [List.take_add_one, h, List.flatten_append]; simp
theorem flat_le {cs : List (List InsM)} (j : Nat) : (cs.take j).flatten.length ≤ cs.flatten.length := by
 have : cs.flatten = (cs.take j).flatten ++ (cs.drop j).flatten := by rw [← List.flatten_append, List.take_append_drop]
 rw [this, List.length_append]; omega
theorem coeach_any (hen : Enters Tryd.prog F) {cb at_ : Nat} {w : World} {L l : List InsM} {ks : List Nat} {kv : Value} (h : Co g cb w L) (hk : Own w 3 1 kv ks.length (ints ks)) (hr : CoRow F g ks at_ l) (hL : L.length = at_) (hl : at_ + l.length ≤ 3000) (hks : ks.length ≤ 1000) :
   Calls Tryd.prog 20 #[kv, .func (.func F) #[.pointer (some ⟨cb, 0, none⟩)] #[]] w fun en w' => en = .returned (.tuple #[]) ∧ Co g cb w' (L ++ l) ∧ FrT cb coTs w w' := by
 obtain ⟨cs, h1, rfl, h3⟩ := hr
 refine (each_any hen (fun j w' => (Co g cb w' (L ++ (cs.take j).flatten) ∧ FrT cb coTs w w')) (fun j w' ⟨_, hf⟩ => hf.own hk (by decide)) hks (fun j x w' hj ⟨hc, hf⟩ => ?_) ⟨by simpa using h, FrT.refl _ _ _⟩).mono ?_
 · have hjl := (List.getElem?_eq_some_iff.1 hj).1
   obtain ⟨c, hcj⟩ : ∃ c, cs[j]? = some c := ⟨_, List.getElem?_eq_getElem (by omega)⟩
   have hle := flat_le (cs := cs) (j + 1)
   rw [flat_take_len hcj, List.length_append] at hle
   refine (h3 j x c hj hcj cb w' _ hc (by rw [List.length_append, hL]) (by omega)).mono ?_
   rintro en w2 ⟨rfl, a, b⟩
   refine ⟨rfl, ?_, hf.tr b⟩
   rw [flat_take_len hcj, ← List.append_assoc]; exact a
 · rintro en w' ⟨rfl, a, b⟩
   rw [← h1, List.take_length] at a
   exact ⟨rfl, a, b⟩
end
theorem enters_expr : Enters Tryd.prog 35 := enters_of Tryd.func35 (by kernel_rfl) rfl
theorem enters_statement : Enters Tryd.prog 22 := enters_of Tryd.func22 (by kernel_rfl) rfl
end Go.Proofs.YtlbjicjinnnboaaDoor
