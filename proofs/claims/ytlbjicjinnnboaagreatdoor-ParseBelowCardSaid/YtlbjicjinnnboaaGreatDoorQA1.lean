/- QA1: QMem, QStep, QHas, QPut, QLine, QNum. -/
import Derived.Test.YtlbjicjinnnboaaGreatDoorMC
import Derived.Test.YtlbjicjinnnboaaGreatDoorShelf
import Derived.Test.YtlbjicjinnnboaaGreatDoorMX
/- The program's own parser in memory: what it holds, and its smallest steps. -/
namespace Go.Proofs.YtlbjicjinnnboaaGreatDoor
open Go.RowKit
set_option linter.unusedVariables false
set_option linter.unusedSimpArgs false
/-- What the parser holds: its next token, how deep it is, the first error and its place, and its row of nodes. -/
structure PQ where
  i : Nat
  deep : Nat
  e : Nat
  place : Nat
  m : Nat
  nv : Value
  xs : List Value
def qTok (ts : List Tok) (q : PQ) : Tok := ts.getD q.i tok0
def qCells (src : ByteArray) (tb n c : Nat) (q : PQ) : Array Value := #[.string src, .slice (some ⟨tb, q.i * 3, none⟩) n c, .int .i64 q.deep, .int .i64 q.e, .int .i64 q.place, q.nv]
structure QMem (src : ByteArray) (tb tc : Nat) (ts : List Tok) (g : Nat) (w : World) (q : PQ) : Prop where
  blk : Blk w g 82 (qCells src tb (ts.length - q.i) (tc - q.i) q)
  own : Own w 50 5 q.nv q.m q.xs
  toks : ∃ b0, Toks b0 w (.slice (some ⟨tb, 0, none⟩) ts.length tc) ts
  room : q.i < ts.length
  newer : ∀ k, Go.Proofs.YtlbjicjinnnboaaGreatDoor.blk q.nv = some k → g < k
section
variable {src : ByteArray} {tb tc : Nat} {ts : List Tok} {g : Nat} {w w' : World} {q : PQ}
theorem QMem.no (h : QMem src tb tc ts g w q) (f : Fr nob w w') : QMem src tb tc ts g w' q := by
  obtain ⟨b0, ht⟩ := h.toks
  exact ⟨h.blk.fr f (fun x => x), h.own.fr f (fun _ _ x => x), ⟨b0, ht.no f⟩, h.room, h.newer⟩
theorem QMem.cap (h : QMem src tb tc ts g w q) : ts.length ≤ tc ∧ tc ≤ maxLen := by
  obtain ⟨b0, ht⟩ := h.toks
  obtain ⟨A, c, e, h1, h2⟩ := ht.own.cap
  injection e with _ _ e3
  subst e3
  exact ⟨h1, h2⟩
/-- The next token's cells. -/
theorem QMem.tok (h : QMem src tb tc ts g w q) : ts[q.i]? = some (qTok ts q) ∧ tb < w.heap.size ∧
    w.cell? ⟨tb, q.i * 3, none⟩ = some (.int .i64 (qTok ts q).kind) ∧ w.cell? ⟨tb, q.i * 3 + 1, none⟩ = some (.string (bs (qTok ts q).text)) ∧ w.cell? ⟨tb, q.i * 3 + 2, none⟩ = some (.int .i64 (qTok ts q).place) := by
  obtain ⟨b0, ht⟩ := h.toks
  have hi : ts[q.i]? = some (qTok ts q) := by
    unfold qTok
    rw [List.getD, List.getElem?_eq_getElem h.room]; rfl
  obtain ⟨g2, hg, _, hlt, hat⟩ := ht.some (by have := h.room; omega)
  injection hg with hg
  injection hg with hg
  subst hg
  exact ⟨hi, hlt, hat q.i _ hi⟩
theorem QMem.cells (h : QMem src tb tc ts g w q) : g < w.heap.size ∧ w.cell? ⟨g, 0, none⟩ = some (.string src) ∧ w.cell? ⟨g, 1, none⟩ = some (.slice (some ⟨tb, q.i * 3, none⟩) (ts.length - q.i) (tc - q.i)) ∧ w.cell? ⟨g, 2, none⟩ = some (.int .i64 q.deep) ∧ w.cell? ⟨g, 3, none⟩ = some (.int .i64 q.e) ∧ w.cell? ⟨g, 4, none⟩ = some (.int .i64 q.place) ∧ w.cell? ⟨g, 5, none⟩ = some q.nv := by
  have hb := h.blk
  refine ⟨hb.lt, ?_, ?_, ?_, ?_, ?_, ?_⟩
  · rw [hb.cell 0]; rfl
  · rw [hb.cell 1]; rfl
  · rw [hb.cell 2]; rfl
  · rw [hb.cell 3]; rfl
  · rw [hb.cell 4]; rfl
  · rw [hb.cell 5]; rfl
end
def tokA (t : Tok) : Value := .agg #[.int .i64 t.kind, .string (bs t.text), .int .i64 t.place]
theorem tf0 (k : Int) (t : ByteArray) (p : Int) (w : World) : (Instr.field 115 (.agg #[.int .i64 k, .string t, .int .i64 p]) 0).run Tryz.prog w = .ok (.int .i64 k) w := by kernel_rfl
theorem tf1 (k : Int) (t : ByteArray) (p : Int) (w : World) : (Instr.field 115 (.agg #[.int .i64 k, .string t, .int .i64 p]) 1).run Tryz.prog w = .ok (.string t) w := by kernel_rfl
theorem tf2 (k : Int) (t : ByteArray) (p : Int) (w : World) : (Instr.field 115 (.agg #[.int .i64 k, .string t, .int .i64 p]) 2).run Tryz.prog w = .ok (.int .i64 p) w := by kernel_rfl
set_option maxHeartbeats 1600000 in
set_option maxRecDepth 100000 in
theorem qnext_any {src : ByteArray} {tb tc : Nat} {ts : List Tok} {g : Nat} {w : World} {q : PQ} (h : QMem src tb tc ts g w q) :
    Calls Tryz.prog 76 #[.pointer (some ⟨g, 0, none⟩)] w fun e w' => e = .returned (tokA (qTok ts q)) ∧ Fr nob w w' := by
  obtain ⟨hg, _, c1, _, _, _, _⟩ := h.cells
  obtain ⟨_, htb, x0, x1, x2⟩ := h.tok
  have hroom := h.room
  have hcap := h.cap
  obtain ⟨n, hn⟩ : ∃ n, ts.length - q.i = n + 1 := ⟨ts.length - q.i - 1, by omega⟩
  obtain ⟨c, hc⟩ : ∃ c, tc - q.i = c + 1 := ⟨tc - q.i - 1, by omega⟩
  rw [hn, hc] at c1
  unfold tokA
  clear h hn hc hroom hcap
  generalize (qTok ts q).kind = tk at *
  generalize (qTok ts q).text = tt at *
  generalize (qTok ts q).place = tp at *
  generalize bs tt = bt at *
  have n1 : ¬ g = w.heap.size := by omega
  have n2 : ¬ tb = w.heap.size := by omega
  go_enter Tryz.func76, Tryz.ntmps76
  go_wp2_with fail
  refine bodyPost_ret (v := .agg #[.int .i64 tk, .string bt, .int .i64 tp]) (by simp [results, Tryz.results76, go_sem]; try rfl) rfl ⟨rfl, (Fr.refl nob w).alloc _⟩
section
variable {src : ByteArray} {tb tc : Nat} {ts : List Tok} {g : Nat} {w w' : World} {q q' : PQ}
/-- A store into the parser. -/
theorem QMem.set (h : QMem src tb tc ts g w q) (j : Nat) (u : Value) (hn : q'.nv = q.nv) (hm : q'.m = q.m) (hx : q'.xs = q.xs) (hr : q'.i < ts.length)
    (hc : (qCells src tb (ts.length - q.i) (tc - q.i) q).setIfInBounds j u = qCells src tb (ts.length - q'.i) (tc - q'.i) q') : QMem src tb tc ts g (w.setCell ⟨g, j, none⟩ u) q' := by
  obtain ⟨b0, ht⟩ := h.toks
  have f : Fr (oneb g) w (w.setCell ⟨g, j, none⟩ u) := (Fr.refl _ w).setCell _ _ (fun _ => rfl)
  have hb := h.blk
  refine ⟨?_, ?_, ⟨b0, ht.own.fr f (fun b hb' hm => ht.own.blk_ne hb (by decide) (by rw [hb', show b = g from hm])), ht.new⟩, hr, by rw [hn]; exact h.newer⟩
  · have := hb.setCell j u
    rwa [hc] at this
  · rw [hn, hm, hx]
    exact h.own.fr f (fun b hb' hm => h.own.blk_ne hb (by decide) (by rw [hb', show b = g from hm]))
theorem QMem.setD (h : QMem src tb tc ts g w q) (x : Nat) : QMem src tb tc ts g (w.setCell ⟨g, 2, none⟩ (.int .i64 x)) { q with deep := x } := h.set 2 _ rfl rfl rfl h.room rfl
theorem QMem.setE (h : QMem src tb tc ts g w q) (x : Nat) : QMem src tb tc ts g (w.setCell ⟨g, 3, none⟩ (.int .i64 x)) { q with e := x } := h.set 3 _ rfl rfl rfl h.room rfl
theorem QMem.setP (h : QMem src tb tc ts g w q) (x : Nat) : QMem src tb tc ts g (w.setCell ⟨g, 4, none⟩ (.int .i64 x)) { q with place := x } := h.set 4 _ rfl rfl rfl h.room rfl
theorem QMem.setI (h : QMem src tb tc ts g w q) {n c : Nat} (hn : ts.length - q.i = n + 1) (hc : tc - q.i = c + 1) (h1 : 0 < n) : QMem src tb tc ts g (w.setCell ⟨g, 1, none⟩ (.slice (some ⟨tb, (q.i + 1) * 3, none⟩) n c)) { q with i := q.i + 1 } := by
  have hn2 : ts.length - (q.i + 1) = n := by omega
  have hc2 : tc - (q.i + 1) = c := by omega
  refine h.set 1 _ rfl rfl rfl (by show q.i + 1 < ts.length; omega) ?_
  show _ = qCells src tb (ts.length - (q.i + 1)) (tc - (q.i + 1)) { q with i := q.i + 1 }
  rw [hn2, hc2]
  rfl
end
def qKind (ts : List Tok) (k : Nat) (q : PQ) : Bool := decide (q.e = 0) && decide ((qTok ts q).kind = k)
def qFail (ts : List Tok) (k : Nat) (q : PQ) : PQ := if q.e = 0 then { q with e := k, place := (qTok ts q).place } else q
def qTake (ts : List Tok) (q : PQ) : PQ := if 1 < ts.length - q.i then { q with i := q.i + 1 } else q
def FrQ (g : Nat) (w w' : World) : Prop := FrR g w w'
set_option maxHeartbeats 1600000 in
set_option maxRecDepth 100000 in
theorem qkind_any {src : ByteArray} {tb tc : Nat} {ts : List Tok} {g : Nat} {w : World} {q : PQ} (h : QMem src tb tc ts g w q) (k : Nat) :
    Calls Tryz.prog 50 #[.pointer (some ⟨g, 0, none⟩), .int .i64 k] w fun e w' => e = .returned (.bool (qKind ts k q)) ∧ Fr nob w w' := by
  obtain ⟨hg, _, _, _, c3, _, _⟩ := h.cells
  have HN := hid (qnext_any h)
  unfold qKind
  unfold tokA at HN
  clear h
  generalize (qTok ts q).kind = tk at *
  by_cases he : q.e = 0
  · have heb : ((q.e : Int) == 0) = true := by rw [he]; rfl
    rw [decide_eq_true he, Bool.true_and]
    clear he
    have hk : ((tk : Int) == (k : Int)) = decide (tk = k) := by
      by_cases h2 : tk = k
      · rw [decide_eq_true h2, h2]; simp
      · rw [decide_eq_false h2]; exact beq_eq_false_iff_ne.2 (by omega)
    have HK := hid hk
    clear hk
    go_enter Tryz.func50, Tryz.ntmps50
    go_wp2_with fail
    refine HN.out.mono ?_
    rintro e w2 ⟨rfl, hf⟩
    have F := hid hf
    have ff := tf0
    clear hf
    go_wp2_with fail
    go_ret
    exact ⟨by rw [← HK.out]; simp, F.out⟩
  · have heb : ((q.e : Int) == 0) = false := beq_eq_false_iff_ne.2 (by omega)
    rw [decide_eq_false he, Bool.false_and]
    clear he
    go_enter Tryz.func50, Tryz.ntmps50
    go_wp2_with fail
    go_ret
    exact ⟨rfl, Fr.refl _ _⟩
set_option maxHeartbeats 1600000 in
set_option maxRecDepth 100000 in
theorem qfail_any {src : ByteArray} {tb tc : Nat} {ts : List Tok} {g : Nat} {w : World} {q : PQ} (h : QMem src tb tc ts g w q) (k : Nat) :
    Calls Tryz.prog 119 #[.pointer (some ⟨g, 0, none⟩), .int .i64 k] w fun e w' => e = .returned (.tuple #[]) ∧ QMem src tb tc ts g w' (qFail ts k q) ∧ FrR g w w' := by
  obtain ⟨hg, _, _, _, c3, _, _⟩ := h.cells
  have HN := hid (qnext_any h)
  have H := hid h
  unfold tokA at HN
  by_cases he : q.e = 0
  · have heb : ((q.e : Int) == 0) = true := by rw [he]; rfl
    have e1 : qFail ts k q = { q with e := k, place := (qTok ts q).place } := by unfold qFail; rw [if_pos he]
    rw [e1]
    clear e1 he h
    generalize (qTok ts q).place = tp at *
    go_enter Tryz.func119, Tryz.ntmps119
    go_wp2_with fail
    refine HN.out.mono ?_
    rintro e w2 ⟨rfl, hf⟩
    have F := hid hf
    have H2 := hid (H.out.no hf)
    clear hf c3 hg
    obtain ⟨hg, _, _, _, c3, c4, _⟩ := H2.out.cells
    have ff := tf2
    have f3 := H2.out.blk.frozen 3
    have f4 := H2.out.blk.frozen 4
    go_wp2_with fail
    refine bodyPost_end (results_none rfl _ _ _) rfl ⟨rfl, (H2.out.setE k).setP tp, ?_⟩
    exact ((F.out.ofNo.setCell ⟨g, 3, none⟩ _ (M := oneb g) (fun _ => rfl)).setCell ⟨g, 4, none⟩ _ (fun _ => rfl)).mono (fun k _ e => .inl e)
  · have heb : ((q.e : Int) == 0) = false := beq_eq_false_iff_ne.2 (by omega)
    have e1 : qFail ts k q = q := by unfold qFail; rw [if_neg he]
    rw [e1]
    clear e1 he h
    go_enter Tryz.func119, Tryz.ntmps119
    go_wp2_with fail
    refine bodyPost_end (results_none rfl _ _ _) rfl ⟨rfl, H.out, Fr.refl _ _⟩
end Go.Proofs.YtlbjicjinnnboaaGreatDoor
/- The program's own parser: is, take. -/
namespace Go.Proofs.YtlbjicjinnnboaaGreatDoor
open Go.RowKit
set_option linter.unusedVariables false
set_option linter.unusedSimpArgs false
def qIs (ts : List Tok) (zs : List ByteArray) (q : PQ) : Bool := decide (q.e = 0) && (decide ((qTok ts q).kind = 5) || decide ((qTok ts q).kind = 4)) && isIn zs (qTok ts q).text
theorem among_at {w : World} {b : Nat} {ss : List ByteArray} (hb : Blk w b 9 (ss.map Value.string).toArray) (n : Nat) (hn : ss.length = n) (hm : n ≤ 9223372036854775807) (x : ByteArray) :
    Calls Tryz.prog 122 #[.slice (some ⟨b, 0, none⟩) n n, .string x] w fun e w' =>
      e = .returned (.bool (isIn ss x.data.toList)) ∧ w' = w := by
  refine (Tryz.slices_Contains_string _ _ _ _ ss x _ (by omega) hm (fun j hj => ?_)).mono ?_
  · rw [Nat.zero_add, hb.cell j]
    simp [List.getD, hj]
  · rintro e w' ⟨rfl, rfl⟩
    rw [List.take_of_length_le (by omega), mem_bytes]
    exact ⟨rfl, rfl⟩
set_option maxHeartbeats 1600000 in
set_option maxRecDepth 100000 in
theorem qis_any {src : ByteArray} {tb tc : Nat} {ts : List Tok} {g : Nat} {w : World} {q : PQ} (h : QMem src tb tc ts g w q) (zs : List ByteArray) (b n : Nat) (hb : Blk w b 9 (zs.map Value.string).toArray) (hn : zs.length = n) (hn1 : n ≤ 1000) :
    Calls Tryz.prog 83 #[.pointer (some ⟨g, 0, none⟩), .slice (some ⟨b, 0, none⟩) n n] w fun e w' => e = .returned (.bool (qIs ts zs q)) ∧ Fr nob w w' := by
  have HN := hid (qnext_any h)
  have H := hid h
  have HB := hid hb
  have HNN := hid hn
  unfold qIs
  unfold tokA at HN
  have hbt : (bs (qTok ts q).text).data.toList = (qTok ts q).text := rfl
  have HBT := hid hbt
  clear h hb hn hbt
  generalize (qTok ts q).kind = tk at *
  generalize (qTok ts q).text = tt at *
  generalize (qTok ts q).place = tp at *
  generalize bs tt = bt at *
  obtain ⟨z, hz⟩ : ∃ z, isIn zs tt = z := ⟨_, rfl⟩
  rw [hz]
  have HZ := hid hz
  clear hz
  by_cases he : q.e = 0
  · have heb : ((q.e : Int) == 0) = true := by rw [he]; rfl
    rw [decide_eq_true he, Bool.true_and]
    clear he
    by_cases h5 : tk = 5
    · have h5b : ((tk : Int) == 5) = true := by rw [h5]; rfl
      rw [decide_eq_true h5, Bool.true_or, Bool.true_and]
      clear h5
      go_enter Tryz.func83, Tryz.ntmps83
      go_wp2_with fail
      refine HN.out.mono ?_
      rintro e w2 ⟨rfl, hf⟩
      have H2 := hid (H.out.no hf)
      have B2 := hid (HB.out.fr hf (fun x => x))
      have F2 := hid (hf.alloc (.cells #[.int .i64 tk, .string bt, .int .i64 tp] 115))
      have HC := hid (among_at (w := w2.alloc (.cells #[.int .i64 tk, .string bt, .int .i64 tp] 115)) (B2.out.alloc _) n HNN.out (by omega) bt)
      rw [HBT.out, HZ.out] at HC
      clear hf
      have c3' : (w2.alloc (.cells #[.int .i64 tk, .string bt, .int .i64 tp] 115)).cell? ⟨g, 3, none⟩ = some (.int .i64 q.e) := ((H2.out.no ((Fr.refl nob w2).alloc _)).cells).2.2.2.2.1
      go_wp2_with fail
      refine HC.out.mono ?_
      rintro e w3 ⟨rfl, rfl⟩
      go_wp2_with fail
      go_ret
      exact ⟨by simp, F2.out⟩
    · have h5b : ((tk : Int) == 5) = false := beq_eq_false_iff_ne.2 (by omega)
      rw [decide_eq_false h5, Bool.false_or]
      clear h5
      by_cases h4 : tk = 4
      · have h4b : ((tk : Int) == 4) = true := by rw [h4]; rfl
        rw [decide_eq_true h4, Bool.true_and]
        clear h4
        go_enter Tryz.func83, Tryz.ntmps83
        go_wp2_with fail
        refine HN.out.mono ?_
        rintro e w2 ⟨rfl, hf⟩
        have H2 := hid (H.out.no hf)
        have B2 := hid (HB.out.fr hf (fun x => x))
        have F2 := hid (hf.alloc (.cells #[.int .i64 tk, .string bt, .int .i64 tp] 115))
        have HC := hid (among_at (w := w2.alloc (.cells #[.int .i64 tk, .string bt, .int .i64 tp] 115)) (B2.out.alloc _) n HNN.out (by omega) bt)
        rw [HBT.out, HZ.out] at HC
        clear hf
        have c3' : (w2.alloc (.cells #[.int .i64 tk, .string bt, .int .i64 tp] 115)).cell? ⟨g, 3, none⟩ = some (.int .i64 q.e) := ((H2.out.no ((Fr.refl nob w2).alloc _)).cells).2.2.2.2.1
        go_wp2_with fail
        refine HC.out.mono ?_
        rintro e w3 ⟨rfl, rfl⟩
        go_wp2_with fail
        go_ret
        exact ⟨by simp, F2.out⟩
      · have h4b : ((tk : Int) == 4) = false := beq_eq_false_iff_ne.2 (by omega)
        rw [decide_eq_false h4, Bool.false_and]
        clear h4
        go_enter Tryz.func83, Tryz.ntmps83
        go_wp2_with fail
        refine HN.out.mono ?_
        rintro e w2 ⟨rfl, hf⟩
        have H2 := hid (H.out.no hf)
        have B2 := hid (HB.out.fr hf (fun x => x))
        have F2 := hid (hf.alloc (.cells #[.int .i64 tk, .string bt, .int .i64 tp] 115))
        have HC := hid (among_at (w := w2.alloc (.cells #[.int .i64 tk, .string bt, .int .i64 tp] 115)) (B2.out.alloc _) n HNN.out (by omega) bt)
        rw [HBT.out, HZ.out] at HC
        clear hf
        have c3' : (w2.alloc (.cells #[.int .i64 tk, .string bt, .int .i64 tp] 115)).cell? ⟨g, 3, none⟩ = some (.int .i64 q.e) := ((H2.out.no ((Fr.refl nob w2).alloc _)).cells).2.2.2.2.1
        go_wp2_with fail
        go_ret
        exact ⟨rfl, F2.out⟩
  · have heb : ((q.e : Int) == 0) = false := beq_eq_false_iff_ne.2 (by omega)
    rw [decide_eq_false he, Bool.false_and, Bool.false_and]
    clear he
    go_enter Tryz.func83, Tryz.ntmps83
    go_wp2_with fail
    refine HN.out.mono ?_
    rintro e w2 ⟨rfl, hf⟩
    have H2 := hid (H.out.no hf)
    have B2 := hid (HB.out.fr hf (fun x => x))
    have F2 := hid (hf.alloc (.cells #[.int .i64 tk, .string bt, .int .i64 tp] 115))
    have HC := hid (among_at (w := w2.alloc (.cells #[.int .i64 tk, .string bt, .int .i64 tp] 115)) (B2.out.alloc _) n HNN.out (by omega) bt)
    rw [HBT.out, HZ.out] at HC
    clear hf
    have c3' : (w2.alloc (.cells #[.int .i64 tk, .string bt, .int .i64 tp] 115)).cell? ⟨g, 3, none⟩ = some (.int .i64 q.e) := ((H2.out.no ((Fr.refl nob w2).alloc _)).cells).2.2.2.2.1
    go_wp2_with fail
    go_ret
    exact ⟨rfl, F2.out⟩
theorem QMem.fr {src : ByteArray} {tb tc : Nat} {ts : List Tok} {g : Nat} {w w' : World} {q : PQ} {M : Nat → Prop} (h : QMem src tb tc ts g w q) (f : Fr M w w') (hg : ¬ M g) (ht : ¬ M tb) (hn : ∀ k, Go.Proofs.YtlbjicjinnnboaaGreatDoor.blk q.nv = some k → ¬ M k) : QMem src tb tc ts g w' q := by
  obtain ⟨b0, h0⟩ := h.toks
  refine ⟨h.blk.fr f hg, h.own.fr f hn, ⟨b0, h0.own.fr f (fun k hk hm => ?_), h0.new⟩, h.room, h.newer⟩
  have hk2 : k = tb := by simp [Go.Proofs.YtlbjicjinnnboaaGreatDoor.blk] at hk; omega
  subst hk2
  exact ht hm
theorem tok_set {w : World} {r : Nat} {cs : Array Value} (h : Blk w r 115 cs) (hs : cs.size = 3) (a b c : Value) : Blk (((w.setCell ⟨r, 0, none⟩ a).setCell ⟨r, 1, none⟩ b).setCell ⟨r, 2, none⟩ c) r 115 #[a, b, c] := by
  have h3 := ((h.setCell 0 a).setCell 1 b).setCell 2 c
  obtain ⟨l⟩ := cs
  match l, hs with
  | [x, y, z], _ => simpa using h3
set_option maxHeartbeats 1600000 in
set_option maxRecDepth 100000 in
theorem qtake_any {src : ByteArray} {tb tc : Nat} {ts : List Tok} {g : Nat} {w : World} {q : PQ} (h : QMem src tb tc ts g w q) :
    Calls Tryz.prog 120 #[.pointer (some ⟨g, 0, none⟩)] w fun e w' => e = .returned (tokA (qTok ts q)) ∧ QMem src tb tc ts g w' (qTake ts q) ∧ FrR g w w' := by
  have A0 := hid (show Fr nob w (w.alloc (.cells #[.int .i64 0, .string ⟨#[]⟩, .int .i64 0] 115)) from (Fr.refl nob w).alloc _)
  have H := hid (h.no A0.out)
  have HN := hid (qnext_any H.out)
  have hroom := h.room
  have hcap := h.cap
  obtain ⟨n, hn⟩ : ∃ n, ts.length - q.i = n + 1 := ⟨ts.length - q.i - 1, by omega⟩
  obtain ⟨c, hc⟩ : ∃ c, tc - q.i = c + 1 := ⟨tc - q.i - 1, by omega⟩
  unfold qTake
  rw [hn]
  unfold tokA at HN ⊢
  generalize (qTok ts q).kind = tk at *
  generalize (qTok ts q).text = tt at *
  generalize (qTok ts q).place = tp at *
  generalize bs tt = bt at *
  have GL := hid (show g < w.heap.size from h.blk.lt)
  have TL := hid (show ¬ tb = w.heap.size by have := h.tok.2.1; omega)
  clear h
  have R0 := hid (show w.heap.size < (w.alloc (.cells #[.int .i64 0, .string ⟨#[]⟩, .int .i64 0] 115)).heap.size from by simp)
  have R1 := hid (Blk.new w 115 #[.int .i64 0, .string ⟨#[]⟩, .int .i64 0])
  by_cases h1 : 1 < n + 1
  · rw [if_pos h1]
    have hnc : n ≤ c := by omega
    obtain ⟨n', rfl⟩ : ∃ n', n = n' + 1 := ⟨n - 1, by omega⟩
    obtain ⟨c', rfl⟩ : ∃ c', c = c' + 1 := ⟨c - 1, by omega⟩
    have h1i : (1 : Int) < ((n' : Int) + 1 + 1) := by omega
    go_enter Tryz.func120, Tryz.ntmps120
    go_wp2_with fail
    refine HN.out.mono ?_
    rintro e w2 ⟨rfl, hf⟩
    have H2 := hid (H.out.no hf)
    have F2 := hid (A0.out.tr hf)
    have RB := hid ((R1.out.fr hf (fun x => x)).alloc (.cells #[.int .i64 tk, .string bt, .int .i64 tp] 115))
    have TB := hid (Blk.new w2 115 #[.int .i64 tk, .string bt, .int .i64 tp])
    have H3 := hid (H2.out.no ((Fr.refl nob w2).alloc (.cells #[.int .i64 tk, .string bt, .int .i64 tp] 115)))
    have F3 := hid (F2.out.alloc (.cells #[.int .i64 tk, .string bt, .int .i64 tp] 115))
    have ng : ¬ w.heap.size = g := fun e => by have := H.out.blk.lt; exact absurd e (by have := GL.out; omega)
    have ng2 : ¬ g = w.heap.size := fun e => ng e.symm
    have nt : ¬ w2.heap.size = g := by have := H2.out.blk.lt; omega
    have nt2 : ¬ g = w2.heap.size := fun e => nt e.symm
    have nr : ¬ w.heap.size = w2.heap.size := by have := hf.size; have := R0.out; omega
    have nr2 : ¬ w2.heap.size = w.heap.size := fun e => nr e.symm
    clear hf
    obtain ⟨_, _, c1, _, _, _, _⟩ := H3.out.cells
    rw [hn, hc] at c1
    have f1 := H3.out.blk.frozen 1
    have x0 : (w2.alloc (.cells #[.int .i64 tk, .string bt, .int .i64 tp] 115)).cell? ⟨w.heap.size, 0, none⟩ = some (.int .i64 0) := by rw [RB.out.cell 0]; rfl
    have x1 : (w2.alloc (.cells #[.int .i64 tk, .string bt, .int .i64 tp] 115)).cell? ⟨w.heap.size, 1, none⟩ = some (.string ⟨#[]⟩) := by rw [RB.out.cell 1]; rfl
    have x2 : (w2.alloc (.cells #[.int .i64 tk, .string bt, .int .i64 tp] 115)).cell? ⟨w.heap.size, 2, none⟩ = some (.int .i64 0) := by rw [RB.out.cell 2]; rfl
    have z0 := RB.out.frozen 0
    have z1 := RB.out.frozen 1
    have z2 := RB.out.frozen 2
    have y0 : (w2.alloc (.cells #[.int .i64 tk, .string bt, .int .i64 tp] 115)).cell? ⟨w2.heap.size, 0, none⟩ = some (.int .i64 tk) := by rw [TB.out.cell 0]; rfl
    have y1 : (w2.alloc (.cells #[.int .i64 tk, .string bt, .int .i64 tp] 115)).cell? ⟨w2.heap.size, 1, none⟩ = some (.string bt) := by rw [TB.out.cell 1]; rfl
    have y2 : (w2.alloc (.cells #[.int .i64 tk, .string bt, .int .i64 tp] 115)).cell? ⟨w2.heap.size, 2, none⟩ = some (.int .i64 tp) := by rw [TB.out.cell 2]; rfl
    go_wp2_with fail
    have HI := hid (H3.out.setI hn hc (by omega))
    rw [show (q.i + 1) * 3 = q.i * 3 + 3 by omega] at HI
    have RI := hid (show Blk ((w2.alloc (.cells #[.int .i64 tk, .string bt, .int .i64 tp] 115)).setCell ⟨g, 1, none⟩ (.slice (some ⟨tb, q.i * 3 + 3, none⟩) (n' + 1) (c' + 1))) w.heap.size 115 #[.int .i64 0, .string ⟨#[]⟩, .int .i64 0] from RB.out.far (p := ⟨g, 1, none⟩) ng _)
    have FI := hid (show FrR g w ((w2.alloc (.cells #[.int .i64 tk, .string bt, .int .i64 tp] 115)).setCell ⟨g, 1, none⟩ (.slice (some ⟨tb, q.i * 3 + 3, none⟩) (n' + 1) (c' + 1))) from F3.out.ofNo.setCell ⟨g, 1, none⟩ _ (fun _ => .inl rfl))
    have RF := hid (tok_set RI.out rfl (.int .i64 tk) (.string bt) (.int .i64 tp))
    have HF := hid (HI.out.fr (M := oneb w.heap.size) ((((Fr.refl (oneb w.heap.size) _).setCell ⟨w.heap.size, 0, none⟩ (.int .i64 tk) (fun _ => rfl)).setCell ⟨w.heap.size, 1, none⟩ (.string bt) (fun _ => rfl)).setCell ⟨w.heap.size, 2, none⟩ (.int .i64 tp) (fun _ => rfl)) (fun e => ng2 e) (fun e => TL.out e) (fun k hk hm => by
      have hk2 : k = w.heap.size := hm
      subst hk2
      exact HI.out.own.blk_ne RI.out (by decide) hk))
    have FF := hid (show FrR g w _ from ((FI.out.setCell ⟨w.heap.size, 0, none⟩ (.int .i64 tk) (fun hl => absurd hl (by show ¬ w.heap.size < w.heap.size; omega))).setCell ⟨w.heap.size, 1, none⟩ (.string bt) (fun hl => absurd hl (by show ¬ w.heap.size < w.heap.size; omega))).setCell ⟨w.heap.size, 2, none⟩ (.int .i64 tp) (fun hl => absurd hl (by show ¬ w.heap.size < w.heap.size; omega)))
    clear x0 x1 x2 y0 y1 y2 z0 z1 z2 c1 f1
    generalize ((World.setCell (World.setCell _ _ _) _ _).setCell _ _).setCell _ _ = wf at *
    have x0 : wf.cell? ⟨w.heap.size, 0, none⟩ = some (.int .i64 tk) := by rw [RF.out.cell 0]; rfl
    have x1 : wf.cell? ⟨w.heap.size, 1, none⟩ = some (.string bt) := by rw [RF.out.cell 1]; rfl
    have x2 : wf.cell? ⟨w.heap.size, 2, none⟩ = some (.int .i64 tp) := by rw [RF.out.cell 2]; rfl
    refine bodyPost_ret (v := .agg #[.int .i64 tk, .string bt, .int .i64 tp]) (by simp [results, Tryz.results120, go_sem, x0, x1, x2]; try rfl) rfl ⟨rfl, HF.out, FF.out⟩
  · rw [if_neg h1]
    have hn0 : n = 0 := by omega
    subst hn0
    go_enter Tryz.func120, Tryz.ntmps120
    go_wp2_with fail
    refine HN.out.mono ?_
    rintro e w2 ⟨rfl, hf⟩
    have H2 := hid (H.out.no hf)
    have F2 := hid (A0.out.tr hf)
    have RB := hid ((R1.out.fr hf (fun x => x)).alloc (.cells #[.int .i64 tk, .string bt, .int .i64 tp] 115))
    have TB := hid (Blk.new w2 115 #[.int .i64 tk, .string bt, .int .i64 tp])
    have H3 := hid (H2.out.no ((Fr.refl nob w2).alloc (.cells #[.int .i64 tk, .string bt, .int .i64 tp] 115)))
    have F3 := hid (F2.out.alloc (.cells #[.int .i64 tk, .string bt, .int .i64 tp] 115))
    have ng : ¬ w.heap.size = g := fun e => by have := H.out.blk.lt; exact absurd e (by have := GL.out; omega)
    have ng2 : ¬ g = w.heap.size := fun e => ng e.symm
    have nt : ¬ w2.heap.size = g := by have := H2.out.blk.lt; omega
    have nt2 : ¬ g = w2.heap.size := fun e => nt e.symm
    have nr : ¬ w.heap.size = w2.heap.size := by have := hf.size; have := R0.out; omega
    have nr2 : ¬ w2.heap.size = w.heap.size := fun e => nr e.symm
    clear hf
    obtain ⟨_, _, c1, _, _, _, _⟩ := H3.out.cells
    rw [hn, hc] at c1
    have f1 := H3.out.blk.frozen 1
    have x0 : (w2.alloc (.cells #[.int .i64 tk, .string bt, .int .i64 tp] 115)).cell? ⟨w.heap.size, 0, none⟩ = some (.int .i64 0) := by rw [RB.out.cell 0]; rfl
    have x1 : (w2.alloc (.cells #[.int .i64 tk, .string bt, .int .i64 tp] 115)).cell? ⟨w.heap.size, 1, none⟩ = some (.string ⟨#[]⟩) := by rw [RB.out.cell 1]; rfl
    have x2 : (w2.alloc (.cells #[.int .i64 tk, .string bt, .int .i64 tp] 115)).cell? ⟨w.heap.size, 2, none⟩ = some (.int .i64 0) := by rw [RB.out.cell 2]; rfl
    have z0 := RB.out.frozen 0
    have z1 := RB.out.frozen 1
    have z2 := RB.out.frozen 2
    have y0 : (w2.alloc (.cells #[.int .i64 tk, .string bt, .int .i64 tp] 115)).cell? ⟨w2.heap.size, 0, none⟩ = some (.int .i64 tk) := by rw [TB.out.cell 0]; rfl
    have y1 : (w2.alloc (.cells #[.int .i64 tk, .string bt, .int .i64 tp] 115)).cell? ⟨w2.heap.size, 1, none⟩ = some (.string bt) := by rw [TB.out.cell 1]; rfl
    have y2 : (w2.alloc (.cells #[.int .i64 tk, .string bt, .int .i64 tp] 115)).cell? ⟨w2.heap.size, 2, none⟩ = some (.int .i64 tp) := by rw [TB.out.cell 2]; rfl
    go_wp2_with fail
    have FI := hid (show FrR g w _ from F3.out.ofNo)
    have RF := hid (tok_set RB.out rfl (.int .i64 tk) (.string bt) (.int .i64 tp))
    have HF := hid (H3.out.fr (M := oneb w.heap.size) ((((Fr.refl (oneb w.heap.size) _).setCell ⟨w.heap.size, 0, none⟩ (.int .i64 tk) (fun _ => rfl)).setCell ⟨w.heap.size, 1, none⟩ (.string bt) (fun _ => rfl)).setCell ⟨w.heap.size, 2, none⟩ (.int .i64 tp) (fun _ => rfl)) (fun e => ng2 e) (fun e => TL.out e) (fun k hk hm => by
      have hk2 : k = w.heap.size := hm
      subst hk2
      exact H3.out.own.blk_ne RB.out (by decide) hk))
    have FF := hid (show FrR g w _ from ((FI.out.setCell ⟨w.heap.size, 0, none⟩ (.int .i64 tk) (fun hl => absurd hl (by show ¬ w.heap.size < w.heap.size; omega))).setCell ⟨w.heap.size, 1, none⟩ (.string bt) (fun hl => absurd hl (by show ¬ w.heap.size < w.heap.size; omega))).setCell ⟨w.heap.size, 2, none⟩ (.int .i64 tp) (fun hl => absurd hl (by show ¬ w.heap.size < w.heap.size; omega)))
    clear x0 x1 x2 y0 y1 y2 z0 z1 z2 c1 f1
    generalize ((World.setCell (w2.alloc _) _ _).setCell _ _).setCell _ _ = wf at *
    have x0 : wf.cell? ⟨w.heap.size, 0, none⟩ = some (.int .i64 tk) := by rw [RF.out.cell 0]; rfl
    have x1 : wf.cell? ⟨w.heap.size, 1, none⟩ = some (.string bt) := by rw [RF.out.cell 1]; rfl
    have x2 : wf.cell? ⟨w.heap.size, 2, none⟩ = some (.int .i64 tp) := by rw [RF.out.cell 2]; rfl
    refine bodyPost_ret (v := .agg #[.int .i64 tk, .string bt, .int .i64 tp]) (by simp [results, Tryz.results120, go_sem, x0, x1, x2]; try rfl) rfl ⟨rfl, HF.out, FF.out⟩
end Go.Proofs.YtlbjicjinnnboaaGreatDoor
/- The program's own parser: has, must, name. -/
namespace Go.Proofs.YtlbjicjinnnboaaGreatDoor
open Go.RowKit
set_option linter.unusedVariables false
set_option linter.unusedSimpArgs false
def qHas (ts : List Tok) (X : ByteArray) (q : PQ) : PQ := if qIs ts [X] q = true then qTake ts q else q
def qMust (ts : List Tok) (X : ByteArray) (q : PQ) : PQ := if qIs ts [X] q = true then qTake ts q else qFail ts 20 q
def qName (ts : List Tok) (q : PQ) : List UInt8 := if qKind ts 3 q = true then (qTok ts q).text else []
def qNamed (ts : List Tok) (q : PQ) : PQ := if qKind ts 3 q = true then qTake ts q else qFail ts 20 q
set_option maxHeartbeats 1600000 in
set_option maxRecDepth 100000 in
theorem qhas_any {src : ByteArray} {tb tc : Nat} {ts : List Tok} {g : Nat} {w : World} {q : PQ} (h : QMem src tb tc ts g w q) (X : ByteArray) :
    Calls Tryz.prog 118 #[.pointer (some ⟨g, 0, none⟩), .string X] w fun e w' => e = .returned (.bool (qIs ts [X] q)) ∧ QMem src tb tc ts g w' (qHas ts X q) ∧ FrR g w w' := by
  obtain ⟨w1, hw1⟩ : ∃ w1, w1 = w.alloc (.cells #[.string X] 9) := ⟨_, rfl⟩
  have F1 := hid (show Fr nob w w1 from by rw [hw1]; exact (Fr.refl nob w).alloc _)
  have H1 := hid (h.no F1.out)
  have B1 := hid (show Blk w1 w.heap.size 9 ([X].map Value.string).toArray from by rw [hw1]; exact Blk.new w _ _)
  have HI := hid (qis_any H1.out [X] w.heap.size 1 B1.out rfl (by decide))
  unfold qHas
  obtain ⟨b, hb⟩ : ∃ b, qIs ts [X] q = b := ⟨_, rfl⟩
  rw [hb] at HI ⊢
  clear hb h
  cases b with
  | false =>
    rw [if_neg (by decide)]
    go_enter Tryz.func118, Tryz.ntmps118
    go_wp2_with fail
    rw [← hw1]
    clear hw1
    refine HI.out.mono ?_
    rintro e w2 ⟨rfl, hf⟩
    have H2 := hid (H1.out.no hf)
    have F2 := hid (F1.out.tr hf)
    clear hf
    go_wp2_with fail
    go_ret
    exact ⟨rfl, H2.out, FrR.no F2.out⟩
  | true =>
    rw [if_pos rfl]
    go_enter Tryz.func118, Tryz.ntmps118
    go_wp2_with fail
    rw [← hw1]
    clear hw1
    refine HI.out.mono ?_
    rintro e w2 ⟨rfl, hf⟩
    have H2 := hid (H1.out.no hf)
    have F2 := hid (F1.out.tr hf)
    clear hf
    go_wp2_with fail
    refine (qtake_any H2.out).mono ?_
    rintro e w3 ⟨rfl, h3, hf⟩
    have H3 := hid h3
    have F3 := hid (FrR.trans (FrR.no F2.out) hf)
    clear h3 hf
    go_wp2_with fail
    go_ret
    exact ⟨rfl, H3.out, F3.out⟩
set_option maxHeartbeats 1600000 in
set_option maxRecDepth 100000 in
theorem qmust_any {src : ByteArray} {tb tc : Nat} {ts : List Tok} {g : Nat} {w : World} {q : PQ} (h : QMem src tb tc ts g w q) (X : ByteArray) :
    Calls Tryz.prog 78 #[.pointer (some ⟨g, 0, none⟩), .string X] w fun e w' => e = .returned (.tuple #[]) ∧ QMem src tb tc ts g w' (qMust ts X q) ∧ FrR g w w' := by
  have HI := hid (qhas_any h X)
  unfold qMust
  unfold qHas at HI
  obtain ⟨b, hb⟩ : ∃ b, qIs ts [X] q = b := ⟨_, rfl⟩
  rw [hb] at HI ⊢
  clear hb h
  cases b with
  | false =>
    rw [if_neg (by decide)] at HI ⊢
    go_enter Tryz.func78, Tryz.ntmps78
    go_wp2_with fail
    refine HI.out.mono ?_
    rintro e w2 ⟨rfl, h2, hf⟩
    have H2 := hid h2
    have F2 := hid hf
    clear h2 hf
    go_wp2_with fail
    refine (qfail_any H2.out 20).mono ?_
    rintro e w3 ⟨rfl, h3, hf⟩
    have H3 := hid h3
    have F3 := hid (FrR.trans F2.out hf)
    clear h3 hf
    go_wp2_with fail
    refine bodyPost_end (results_none rfl _ _ _) rfl ⟨rfl, H3.out, F3.out⟩
  | true =>
    rw [if_pos rfl] at HI ⊢
    go_enter Tryz.func78, Tryz.ntmps78
    go_wp2_with fail
    refine HI.out.mono ?_
    rintro e w2 ⟨rfl, h2, hf⟩
    have H2 := hid h2
    have F2 := hid hf
    clear h2 hf
    go_wp2_with fail
    refine bodyPost_end (results_none rfl _ _ _) rfl ⟨rfl, H2.out, F2.out⟩
set_option maxHeartbeats 1600000 in
set_option maxRecDepth 100000 in
theorem qname_any {src : ByteArray} {tb tc : Nat} {ts : List Tok} {g : Nat} {w : World} {q : PQ} (h : QMem src tb tc ts g w q) :
    Calls Tryz.prog 79 #[.pointer (some ⟨g, 0, none⟩)] w fun e w' => e = .returned (.string (bs (qName ts q))) ∧ QMem src tb tc ts g w' (qNamed ts q) ∧ FrR g w w' := by
  have HK := hid (qkind_any h 3)
  have H := hid h
  unfold qNamed qName
  obtain ⟨b, hb⟩ : ∃ b, qKind ts 3 q = b := ⟨_, rfl⟩
  rw [hb] at HK ⊢
  clear hb h
  cases b with
  | false =>
    rw [if_neg (by decide), if_neg (by decide)]
    go_enter Tryz.func79, Tryz.ntmps79
    go_wp2_with fail
    refine HK.out.mono ?_
    rintro e w2 ⟨rfl, hf⟩
    have H2 := hid (H.out.no hf)
    have F2 := hid hf
    clear hf
    go_wp2_with fail
    refine (qfail_any H2.out 20).mono ?_
    rintro e w3 ⟨rfl, h3, hf⟩
    have H3 := hid h3
    have F3 := hid (FrR.trans (FrR.no F2.out) hf)
    clear h3 hf
    go_wp2_with fail
    go_ret
    exact ⟨rfl, H3.out, F3.out⟩
  | true =>
    rw [if_pos rfl, if_pos rfl]
    go_enter Tryz.func79, Tryz.ntmps79
    go_wp2_with fail
    refine HK.out.mono ?_
    rintro e w2 ⟨rfl, hf⟩
    have H2 := hid (H.out.no hf)
    have F2 := hid hf
    clear hf
    go_wp2_with fail
    refine (qtake_any H2.out).mono ?_
    rintro e w3 ⟨rfl, h3, hf⟩
    have H3 := hid h3
    have F3 := hid (FrR.trans (FrR.no F2.out) hf)
    have ff := tf1
    clear h3 hf
    unfold tokA
    go_wp2_with fail
    go_ret
    exact ⟨rfl, H3.out, F3.out⟩
end Go.Proofs.YtlbjicjinnnboaaGreatDoor
/- The program's own parser: put. -/
namespace Go.Proofs.YtlbjicjinnnboaaGreatDoor
open Go.RowKit
set_option linter.unusedVariables false
set_option linter.unusedSimpArgs false
def qPut (k line n : Nat) (name : List UInt8) (lv nv : Value) (q : PQ) : PQ := { q with m := q.m + 1, nv := nv, xs := q.xs ++ [.int .i64 k, .int .i64 line, .int .i64 n, .string (bs name), lv] }
set_option maxHeartbeats 1600000 in
set_option maxRecDepth 100000 in
theorem qput_any {src : ByteArray} {tb tc : Nat} {ts : List Tok} {g : Nat} {w : World} {q : PQ} (h : QMem src tb tc ts g w q) (k line : Nat) (name : List UInt8) (A1 : Option Addr) (M c1 : Nat) (hn : q.m ≤ 1000000) :
    Calls Tryz.prog 126 #[.pointer (some ⟨g, 0, none⟩), .int .i64 k, .int .i64 line, .string (bs name), .slice A1 M c1] w fun e w' =>
      e = .returned (.int .i64 q.m) ∧ (∃ nv, QMem src tb tc ts g w' (qPut k line 0 name (.slice A1 M c1) nv q)) ∧ FrR g w w' := by
  have hb := h.blk
  have ho := h.own
  obtain ⟨b0, ht⟩ := h.toks
  have NW := hid h.newer
  obtain ⟨hg, _, _, _, _, _, c5⟩ := h.cells
  have f5 := hb.frozen 5
  obtain ⟨A, c, hnv, hc1, hc2⟩ := ho.cap
  rw [hnv] at ho c5 NW
  have H := hid h
  have HO := hid ho
  have HB := hid hb
  have HT := hid ht
  have HNV := hid hnv
  have hn2 : (q.m : Int) ≤ 1000000 := by omega
  obtain ⟨i, deep, er, place, N, nv, xs⟩ := q
  dsimp only at *
  obtain ⟨B, hB⟩ : ∃ B, bs name = B := ⟨_, rfl⟩
  have NM := hid hB
  rw [hB]
  clear h ho hb ht hB hnv
  go_enter Tryz.func126, Tryz.ntmps126
  go_wp2_with (at_builtin; refine wpList_append (v := .slice A N c) (m := 1) (news := [.int .i64 k, .int .i64 line, .int .i64 0, .string B, .slice A1 M c1]) rfl _ _ rfl TyNode rfl rfl (HO.out.alloc _) (Rd.ofBlk (n := 1) (cs := [.int .i64 k, .int .i64 line, .int .i64 0, .string B, .slice A1 M c1]) (Blk.new _ _ _) rfl (by decide)) (by simp [Value.oneCell']) (by omega) (by unfold maxLen; omega) ?_; intro A3 c3' w3 ho3 hf3 hv3; have O3 := hid ho3; have F3 := hid hf3; have V3 := hid hv3; have B3 := hid ((HB.out.alloc _).fr hf3 (fun hm => HO.out.blk_ne HB.out (by decide) hm)); have g5 := B3.out.frozen 5; have d5 : w3.cell? ⟨g, 5, none⟩ = some nv := (by rw [B3.out.cell 5]; rfl); clear ho3 hf3 hv3)
  go_ret
  have hFR : FrR g w w3 := by
    refine Fr.trans (M1 := nob) ((Fr.refl nob w).alloc _) F3.out (fun _ _ x => x.elim) (fun k2 hk2 hm => ?_)
    obtain ⟨cur, hcur⟩ := HO.out.ty (k := k2) hm
    exact .inr ⟨NW.out k2 hm, cur, _, hcur⟩
  have hset : Fr (oneb g) w3 (w3.setCell ⟨g, 5, none⟩ (.slice A3 (N + 1) c3')) := (Fr.refl (oneb g) w3).setCell _ _ (fun _ => rfl)
  have hFR2 : FrR g w (w3.setCell ⟨g, 5, none⟩ (.slice A3 (N + 1) c3')) := FrR.trans hFR (hset.mono (fun k _ e => .inl e))
  refine ⟨by first | rfl | simp, ⟨.slice A3 (N + 1) c3', ⟨?_, ?_, ⟨b0, ?_⟩, H.out.room, fun k2 hk2 => ?_⟩⟩, hFR2⟩
  · exact B3.out.setCell 5 _
  · have := O3.out
    rw [← NM.out] at this
    exact this.fr hset (fun b hb' hm => O3.out.blk_ne B3.out (by decide) (by rw [hb', show b = g from hm]))
  · exact ⟨HT.out.own.frR HB.out (by decide) (by decide) hFR2, HT.out.new⟩
  · have hk3 : blk (.slice A3 (N + 1) c3') = some k2 := hk2
    rcases V3.out with e | e
    · exact NW.out k2 (by rw [← e]; exact hk3)
    · rw [e] at hk3
      injection hk3 with hk3
      have := HB.out.lt
      simp at hk3; omega
end Go.Proofs.YtlbjicjinnnboaaGreatDoor
/- The program's own parser: line, types, calls. -/
namespace Go.Proofs.YtlbjicjinnnboaaGreatDoor
open Go.RowKit
set_option linter.unusedVariables false
set_option linter.unusedSimpArgs false
def qLine (src : ByteArray) (ts : List Tok) (q : PQ) : Nat := lineN src.data.toList (qTok ts q).place
set_option maxHeartbeats 1600000 in
set_option maxRecDepth 100000 in
theorem qline_any {src : ByteArray} {tb tc : Nat} {ts : List Tok} {g : Nat} {w : World} {q : PQ} (h : QMem src tb tc ts g w q) (hs : src.size ≤ 281474976710656) :
    Calls Tryz.prog 77 #[.pointer (some ⟨g, 0, none⟩)] w fun e w' => e = .returned (.int .i64 (qLine src ts q)) ∧ Fr nob w w' := by
  have HN := hid (fun wx (hx : QMem src tb tc ts g wx q) => qnext_any hx)
  have H := hid h
  have CK := hid (show ∀ wx : World, Fr nob w wx → wx.cell? ⟨g, 0, none⟩ = some (.string src) from fun wx f => (h.no f).cells.2.1)
  have HL := hid (fun wx => Lx.line_at src hs (qTok ts q).place wx)
  have c0 := CK.out _ (Fr.refl _ _)
  unfold tokA at HN
  unfold qLine
  clear h
  obtain ⟨L, hL⟩ : ∃ L, lineN src.data.toList ((qTok ts q).place : Int) = L := ⟨_, rfl⟩
  rw [hL] at HL ⊢
  clear hL
  have ff := tf2
  go_enter Tryz.func77, Tryz.ntmps77
  go_wp2_with fail
  go_region_held3 (fun wx => wx.cell? ⟨g, 0, none⟩ = some (.string src)) (first | exact K2.out | go_keep)
    (first
      | (go_at_call 76; go_loud (refine (HN.out _ (H.out.no (Fr.refl nob w).drew)).mono ?_); go_loud (rintro e w2 ⟨rfl, hf⟩); go_loud (have F2 := hid ((Fr.refl nob w).drew.tr hf)); go_loud (have K2 := hid (CK.out _ F2.out)); clear hf)
      | (go_at_call 117; go_loud (refine (HL.out _).mono ?_); go_loud (rintro e w3 ⟨rfl, rfl⟩)))
  go_wp2_with fail
  go_ret
  exact ⟨rfl, F2.out⟩
def typeS : List ByteArray := [⟨#[105, 110, 116]⟩, ⟨#[98, 111, 111, 108]⟩, ⟨#[116, 101, 120, 116]⟩, ⟨#[108, 105, 115, 116]⟩]
theorem idx_type (l : List UInt8) : 1 + Lib.idxOfS typeS (bs l) = (typeM l : Int) := by
  unfold typeM
  have hx : ∀ x : List UInt8, (bs x = bs l) ↔ l = x := fun x => ⟨fun h => by have := congrArg (fun b => b.data.toList) h; simpa [bs] using this.symm, fun h => by rw [h]⟩
  unfold Lib.idxOfS typeS
  by_cases h1 : l = [105, 110, 116]
  · rw [if_pos h1, h1]; rfl
  · rw [if_neg h1]
    by_cases h2 : l = [98, 111, 111, 108]
    · rw [if_pos h2, h2]; rfl
    · rw [if_neg h2]
      by_cases h3 : l = [116, 101, 120, 116]
      · rw [if_pos h3, h3]; rfl
      · rw [if_neg h3]
        by_cases h4 : l = [108, 105, 115, 116]
        · rw [if_pos h4, h4]; rfl
        · rw [if_neg h4]
          have k1 : ¬ (⟨#[105, 110, 116]⟩ : ByteArray) = bs l := fun e => h1 ((hx [105, 110, 116]).1 e)
          have k2 : ¬ (⟨#[98, 111, 111, 108]⟩ : ByteArray) = bs l := fun e => h2 ((hx [98, 111, 111, 108]).1 e)
          have k3 : ¬ (⟨#[116, 101, 120, 116]⟩ : ByteArray) = bs l := fun e => h3 ((hx [116, 101, 120, 116]).1 e)
          have k4 : ¬ (⟨#[108, 105, 115, 116]⟩ : ByteArray) = bs l := fun e => h4 ((hx [108, 105, 115, 116]).1 e)
          simp [Lib.idxFromS, k1, k2, k3, k4]
set_option maxHeartbeats 1600000 in
set_option maxRecDepth 100000 in
theorem qType_any (l : List UInt8) (w : World) : Calls Tryz.prog 121 #[.string (bs l)] w fun e w' => e = .returned (.int .i64 (typeM l)) ∧ Fr nob w w' := by
  have hB := Blk.new w 9 (typeS.map Value.string).toArray
  have HI := hid (Tryz.slices_Index_string w.heap.size 0 4 4 typeS (bs l) (w.alloc (.cells (typeS.map Value.string).toArray 9)) (by decide) (by decide) (fun j hj => by
    rw [Nat.zero_add, hB.cell j]
    simp [List.getD, hj]))
  rw [List.take_of_length_le (by decide)] at HI
  have ht := idx_type l
  have F := hid (show Fr nob w (w.alloc (.cells (typeS.map Value.string).toArray 9)) from (Fr.refl nob w).alloc _)
  obtain ⟨z, hz⟩ : ∃ z, Lib.idxOfS typeS (bs l) = z := ⟨_, rfl⟩
  rw [hz] at HI ht
  have hz4 : typeM l ≤ 4 := by unfold typeM; (repeat' split) <;> omega
  have hw : IntKind.i64.wrap (1 + z) = 1 + z := IntWalk.i64_in _ (by omega)
  have hw1 : (-9223372036854775808 : Int) ≤ 1 + z := by omega
  have hw2 : (1 : Int) + z ≤ 9223372036854775807 := by omega
  unfold typeS at HI F
  rw [← ht]
  clear hB hz ht hz4
  generalize bs l = x at *
  go_enter Tryz.func121, Tryz.ntmps121
  go_wp2_with fail
  refine HI.out.mono ?_
  rintro e w2 ⟨rfl, rfl⟩
  go_wp2_with fail
  go_ret
  exact ⟨by first | rfl | simp, F.out⟩
def qType (ts : List Tok) (q : PQ) : Nat := if qKind ts 4 q = true then typeM (qTok ts q).text else 0
def qTyped (ts : List Tok) (q : PQ) : PQ := if qType ts q = 0 then qFail ts 20 q else qTake ts q
set_option maxHeartbeats 1600000 in
set_option maxRecDepth 100000 in
theorem qtyped_any {src : ByteArray} {tb tc : Nat} {ts : List Tok} {g : Nat} {w : World} {q : PQ} (h : QMem src tb tc ts g w q) :
    Calls Tryz.prog 82 #[.pointer (some ⟨g, 0, none⟩)] w fun e w' => e = .returned (.int .i64 (qType ts q)) ∧ QMem src tb tc ts g w' (qTyped ts q) ∧ FrR g w w' := by
  have HN := hid (qnext_any h)
  have HT := hid (fun wx => qType_any (qTok ts q).text wx)
  have HK := hid (fun wx (hx : QMem src tb tc ts g wx q) => qkind_any hx 4)
  have H := hid h
  unfold qTyped qType
  obtain ⟨b, hb⟩ : ∃ b, qKind ts 4 q = b := ⟨_, rfl⟩
  rw [hb] at HK ⊢
  obtain ⟨t, ht⟩ : ∃ t, typeM (qTok ts q).text = t := ⟨_, rfl⟩
  rw [ht] at HT ⊢
  unfold tokA at HN
  have ff := tf1
  clear hb ht h
  cases b with
  | false =>
    rw [if_neg (by decide), if_pos rfl]
    go_enter Tryz.func82, Tryz.ntmps82
    go_wp2_with fail
    refine HN.out.mono ?_
    rintro e w2 ⟨rfl, hf⟩
    have H2 := hid (H.out.no hf)
    have F2 := hid hf
    clear hf
    go_wp2_with fail
    refine (HT.out _).mono ?_
    rintro e w3 ⟨rfl, hf⟩
    have H3 := hid (H2.out.no hf)
    have F3 := hid (F2.out.tr hf)
    clear hf
    go_wp2_with fail
    refine (HK.out _ H3.out).mono ?_
    rintro e w4 ⟨rfl, hf⟩
    have H4 := hid (H3.out.no hf)
    have F4 := hid (F3.out.tr hf)
    clear hf
    go_wp2_with fail
    refine (qfail_any H4.out 20).mono ?_
    rintro e w5 ⟨rfl, h5, hf⟩
    have H5 := hid h5
    have F5 := hid (FrR.trans (FrR.no F4.out) hf)
    clear h5 hf
    go_wp2_with fail
    go_ret
    exact ⟨rfl, H5.out, F5.out⟩
  | true =>
    rw [if_pos rfl]
    by_cases h0 : t = 0
    · rw [if_pos h0, h0]
      rw [h0] at HT
      go_enter Tryz.func82, Tryz.ntmps82
      go_wp2_with fail
      refine HN.out.mono ?_
      rintro e w2 ⟨rfl, hf⟩
      have H2 := hid (H.out.no hf)
      have F2 := hid hf
      clear hf
      go_wp2_with fail
      refine (HT.out _).mono ?_
      rintro e w3 ⟨rfl, hf⟩
      have H3 := hid (H2.out.no hf)
      have F3 := hid (F2.out.tr hf)
      clear hf
      go_wp2_with fail
      refine (HK.out _ H3.out).mono ?_
      rintro e w4 ⟨rfl, hf⟩
      have H4 := hid (H3.out.no hf)
      have F4 := hid (F3.out.tr hf)
      clear hf
      go_wp2_with fail
      refine (qfail_any H4.out 20).mono ?_
      rintro e w5 ⟨rfl, h5, hf⟩
      have H5 := hid h5
      have F5 := hid (FrR.trans (FrR.no F4.out) hf)
      clear h5 hf
      go_wp2_with fail
      go_ret
      exact ⟨rfl, H5.out, F5.out⟩
    · rw [if_neg h0]
      have htb : ((t : Int) == 0) = false := beq_eq_false_iff_ne.2 (by omega)
      go_enter Tryz.func82, Tryz.ntmps82
      go_wp2_with fail
      refine HN.out.mono ?_
      rintro e w2 ⟨rfl, hf⟩
      have H2 := hid (H.out.no hf)
      have F2 := hid hf
      clear hf
      go_wp2_with fail
      refine (HT.out _).mono ?_
      rintro e w3 ⟨rfl, hf⟩
      have H3 := hid (H2.out.no hf)
      have F3 := hid (F2.out.tr hf)
      clear hf
      go_wp2_with fail
      refine (HK.out _ H3.out).mono ?_
      rintro e w4 ⟨rfl, hf⟩
      have H4 := hid (H3.out.no hf)
      have F4 := hid (F3.out.tr hf)
      clear hf h0
      go_wp2_with fail
      refine (qtake_any H4.out).mono ?_
      rintro e w5 ⟨rfl, h5, hf⟩
      have H5 := hid h5
      have F5 := hid (FrR.trans (FrR.no F4.out) hf)
      clear h5 hf
      go_wp2_with fail
      go_ret
      exact ⟨rfl, H5.out, F5.out⟩
end Go.Proofs.YtlbjicjinnnboaaGreatDoor
/- The program's own parser: number, calls. -/
namespace Go.Proofs.YtlbjicjinnnboaaGreatDoor
open Go.RowKit
set_option linter.unusedVariables false
set_option linter.unusedSimpArgs false
def qCalls (ts : List Tok) (q : PQ) : Bool := qKind ts 3 q && (decide ((ts.getD (q.i + 1) tok0).kind = 5) && decide ((ts.getD (q.i + 1) tok0).text = [40]))
theorem QMem.tok1 {src : ByteArray} {tb tc : Nat} {ts : List Tok} {g : Nat} {w : World} {q : PQ} (h : QMem src tb tc ts g w q) (h1 : q.i + 1 < ts.length) :
    w.cell? ⟨tb, q.i * 3 + 3, none⟩ = some (.int .i64 (ts.getD (q.i + 1) tok0).kind) ∧ w.cell? ⟨tb, q.i * 3 + 3 + 1, none⟩ = some (.string (bs (ts.getD (q.i + 1) tok0).text)) := by
  obtain ⟨b0, ht⟩ := h.toks
  have hi : ts[q.i + 1]? = some (ts.getD (q.i + 1) tok0) := by
    rw [List.getD, List.getElem?_eq_getElem h1]; rfl
  obtain ⟨g2, hg, _, hlt, hat⟩ := ht.some (by omega)
  injection hg with hg
  injection hg with hg
  subst hg
  obtain ⟨a, b, _⟩ := hat (q.i + 1) _ hi
  rw [show (q.i + 1) * 3 = q.i * 3 + 3 by omega] at a b
  exact ⟨a, b⟩
theorem q_next {ts : List Tok} {q : PQ} (ht : ToksOk ts) (hr : q.i < ts.length) (hk : qKind ts 3 q = true) : q.i + 1 < ts.length := by
  by_cases h : q.i + 1 < ts.length
  · exact h
  · have hl := ht.last
    rw [show ts.length - 1 = q.i by omega] at hl
    unfold qKind qTok at hk
    simp only [Bool.and_eq_true, decide_eq_true_eq] at hk
    rw [hl] at hk
    exact absurd hk.2 (by decide)
set_option maxHeartbeats 1600000 in
set_option maxRecDepth 100000 in
theorem qcalls_any {src : ByteArray} {tb tc : Nat} {ts : List Tok} {g : Nat} {w : World} {q : PQ} (h : QMem src tb tc ts g w q) (ht : ToksOk ts) :
    Calls Tryz.prog 187 #[.pointer (some ⟨g, 0, none⟩)] w fun e w' => e = .returned (.bool (qCalls ts q)) ∧ Fr nob w w' := by
  have HK := hid (qkind_any h 3)
  have H := hid h
  have hq1 := fun hk => q_next ht h.room hk
  have HCAP := hid h.cap
  unfold qCalls
  obtain ⟨b, hb⟩ : ∃ b, qKind ts 3 q = b := ⟨_, rfl⟩
  rw [hb] at HK hq1 ⊢
  clear hb h
  cases b with
  | false =>
    rw [Bool.false_and]
    clear hq1
    go_enter Tryz.func187, Tryz.ntmps187
    go_wp2_with fail
    refine HK.out.mono ?_
    rintro e w2 ⟨rfl, hf⟩
    go_wp2_with fail
    go_ret
    exact ⟨rfl, hf⟩
  | true =>
    have h1 := hq1 rfl
    have H1 := hid h1
    have hcap := HCAP.out
    obtain ⟨n, hn⟩ : ∃ n, ts.length - q.i = n + 1 + 1 := ⟨ts.length - q.i - 2, by omega⟩
    obtain ⟨c, hc⟩ : ∃ c, tc - q.i = c + 1 + 1 := ⟨tc - q.i - 2, by omega⟩
    have HN := hid hn
    have HC := hid hc
    rw [Bool.true_and]
    have HT := hid (fun wx (hx : QMem src tb tc ts g wx q) => hx.tok1 h1)
    generalize hk : (ts.getD (q.i + 1) tok0).kind = tk at *
    generalize htt : (ts.getD (q.i + 1) tok0).text = tt at *
    have hbt : (bs tt).toList = tt := by rw [ByteArray.toList_eq]; rfl
    generalize bs tt = bt at *
    clear hk htt hn hc h1 hcap hq1
    by_cases h5 : tk = 5
    · have h5b : ((tk : Int) == 5) = true := by rw [h5]; rfl
      rw [decide_eq_true h5, Bool.true_and]
      have h40 : (bt.toList == [40]) = decide (tt = [40]) := by
        rw [hbt]
        by_cases hx : tt = [40]
        · rw [decide_eq_true hx, hx]; rfl
        · rw [decide_eq_false hx]; exact beq_eq_false_iff_ne.2 hx
      obtain ⟨z, hz⟩ : ∃ z, decide (tt = [40]) = z := ⟨_, rfl⟩
      rw [hz] at h40 ⊢
      clear hbt h5 hz
      go_enter Tryz.func187, Tryz.ntmps187
      go_wp2_with fail
      refine HK.out.mono ?_
      rintro e w2 ⟨rfl, hf⟩
      obtain ⟨hg, _, c1, _, _, _, _⟩ := (H.out.no hf).cells
      obtain ⟨x0, x1⟩ := HT.out _ (H.out.no hf)
      rw [HN.out, HC.out] at c1
      have F2 := hid hf
      clear hf
      go_wp2_with fail
      go_ret
      exact ⟨by simp, F2.out⟩
    · have h5b : ((tk : Int) == 5) = false := beq_eq_false_iff_ne.2 (by omega)
      rw [decide_eq_false h5, Bool.false_and]
      clear hbt h5
      go_enter Tryz.func187, Tryz.ntmps187
      go_wp2_with fail
      refine HK.out.mono ?_
      rintro e w2 ⟨rfl, hf⟩
      obtain ⟨hg, _, c1, _, _, _, _⟩ := (H.out.no hf).cells
      obtain ⟨x0, x1⟩ := HT.out _ (H.out.no hf)
      rw [HN.out, HC.out] at c1
      have F2 := hid hf
      clear hf
      go_wp2_with fail
      go_ret
      exact ⟨rfl, F2.out⟩
set_option maxHeartbeats 1600000 in
set_option maxRecDepth 100000 in
theorem qnumber_any {src : ByteArray} {tb tc : Nat} {ts : List Tok} {g : Nat} {w : World} {q : PQ} (h : QMem src tb tc ts g w q) (k line n : Nat) (hn : q.m ≤ 1000000) :
    Calls Tryz.prog 233 #[.pointer (some ⟨g, 0, none⟩), .int .i64 k, .int .i64 line, .int .i64 n] w fun e w' =>
      e = .returned (.int .i64 q.m) ∧ (∃ nv, QMem src tb tc ts g w' (qPut k line n [] (.slice none 0 0) nv q)) ∧ FrR g w w' := by
  have HP := hid (qput_any h k line [] none 0 0 hn)
  have hlen : q.xs.length = q.m * 5 := h.own.len
  have HL := hid hlen
  have hm1 : (q.m : Int) ≤ 1000000 := by omega
  rw [show bs [] = ⟨#[]⟩ from rfl] at HP
  clear h hlen
  go_enter Tryz.func233, Tryz.ntmps233
  go_wp2_with fail
  refine HP.out.mono ?_
  rintro e w2 ⟨rfl, ⟨nv, h2⟩, hf⟩
  have H2 := hid h2
  have F2 := hid hf
  clear h2 hf
  obtain ⟨hg, _, _, _, _, _, c5⟩ := H2.out.cells
  have ho := H2.out.own
  have hnw := H2.out.newer
  change Own w2 50 5 nv (q.m + 1) (q.xs ++ [.int .i64 k, .int .i64 line, .int .i64 (0 : Nat), .string (bs []), .slice none 0 0]) at ho
  change ∀ k, blk nv = some k → g < k at hnw
  change w2.cell? ⟨g, 5, none⟩ = some nv at c5
  obtain ⟨hl, A, c, rfl, ⟨_, hz⟩ | ⟨nb, cur, rfl, hc0, hb, hnc, hcm, hsz, htk⟩⟩ := ho
  · omega
  · have hr := hb.frozen (q.m * 5 + 2)
    have hc2 : ∃ u, w2.cell? ⟨nb, q.m * 5 + 2, none⟩ = some u := by
      rw [hb.cell]
      exact ⟨_, Array.getElem?_eq_getElem (by rw [hsz]; omega)⟩
    obtain ⟨u, hu⟩ := hc2
    have hlt : (q.m : Int) < (q.m : Int) + 1 := by omega
    have hlt2 : q.m < q.m + 1 := by omega
    have HB := hid hb
    have HNW := hid hnw
    clear hl htk hsz
    go_wp2_with fail
    go_ret
    have hbn : blk (.slice (some ⟨nb, 0, none⟩) (q.m + 1) c) = some nb := by simp [blk]; omega
    have hgn : nb ≠ g := fun e => HB.out.ne H2.out.blk (by decide) e
    have f : Fr (oneb nb) w2 (w2.setCell ⟨nb, q.m * 5 + 2, none⟩ (.int .i64 n)) := (Fr.refl _ w2).setCell _ _ (fun _ => rfl)
    obtain ⟨b0, ht⟩ := H2.out.toks
    refine ⟨rfl, ⟨.slice (some ⟨nb, 0, none⟩) (q.m + 1) c, H2.out.blk.fr f (fun e => hgn e.symm), ?_, ⟨b0, ht.own.fr f (fun k2 hk hm => ?_), ht.new⟩, H2.out.room, H2.out.newer⟩, F2.out.trans (f.mono (fun k2 _ e => .inr ⟨?_, ?_⟩))⟩
    · have hst := H2.out.own.store (g := nb) hbn (q.m * 5 + 2) (.int .i64 n)
      have e : (qPut k line 0 [] (.slice none 0 0) (.slice (some ⟨nb, 0, none⟩) (q.m + 1) c) q).xs.set (q.m * 5 + 2) (.int .i64 n) = (qPut k line n [] (.slice none 0 0) (.slice (some ⟨nb, 0, none⟩) (q.m + 1) c) q).xs := by
        show (q.xs ++ ([.int .i64 k, .int .i64 line, .int .i64 (0 : Nat), .string (bs []), .slice none 0 0] : List Value)).set (q.m * 5 + 2) (.int .i64 n) = q.xs ++ ([.int .i64 k, .int .i64 line, .int .i64 n, .string (bs []), .slice none 0 0] : List Value)
        rw [← HL.out, List.set_append_right _ _ (by omega), show q.xs.length + 2 - q.xs.length = 2 by omega]
        rfl
      rw [e] at hst
      exact hst
    · exact ht.own.blk_ne HB.out (by decide) (by rw [hk, show k2 = nb from hm])
    · rw [show k2 = nb from e]; exact HNW.out nb hbn
    · exact ⟨cur, _, by rw [show k2 = nb from e]; exact HB.out⟩
end Go.Proofs.YtlbjicjinnnboaaGreatDoor
