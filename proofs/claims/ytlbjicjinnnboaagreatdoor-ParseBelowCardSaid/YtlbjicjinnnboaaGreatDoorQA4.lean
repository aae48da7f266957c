/- QA4: QRow, QApp, QChainA, QChain, QCall, QCallB, QRight, QBlock, QBlockB. -/
import Derived.Test.YtlbjicjinnnboaaGreatDoorQA2
import Derived.Test.YtlbjicjinnnboaaGreatDoorQA3
/- The program's own parser: a row of things with commas between, in parentheses. -/
namespace Go.Proofs.YtlbjicjinnnboaaGreatDoor
open Go.RowKit
set_option linter.unusedVariables false
set_option linter.unusedSimpArgs false
section
variable {α : Type} (ts : List Tok) (one : Nat → α → PS → Option (α × PS))
/-- Things with commas between. -/
def rowM : Nat → α → PS → Option (α × PS)
  | 0, _, _ => none
  | k + 1, a, s => (one k a s).bind fun r => if pIs ts [44] r.2 then rowM k r.1 (pGo r.2) else some (r.1, r.2)
def RowAt (k : Nat) (a : α) (s : PS) (r : α × PS) : Bool → Prop
  | true => rowM ts one k a s = some r
  | false => r = (a, s)
end
section
variable {src : ByteArray} {tb tc : Nat} {ts : List Tok} {g : Nat} {α : Type}
/-- What holds beside the parser, whatever steps it takes. -/
def RowI (src : ByteArray) (tb tc : Nat) (ts : List Tok) (g : Nat) (I : World → PS → α → Prop) : Prop :=
  ∀ w s a, I w s a → ∃ R N, QS src tb tc ts g R w w s N ∧ ∀ w' s', (s'.e = 0 → s.e = 0) → QS src tb tc ts g R w w' s' N → I w' s' a
theorem RowI.has {I : World → PS → α → Prop} (hI : RowI src tb tc ts g I) {w : World} {s : PS} {a : α} (h : I w s a) (X : ByteArray) {b : Bool} (hb : pIs ts X.data.toList s = b) :
    Calls Tryz.prog 118 #[.pointer (some ⟨g, 0, none⟩), .string X] w fun e w' => e = .returned (.bool b) ∧ I w' (if b = true then pGo s else s) a := by
  obtain ⟨R, N, hq, hk⟩ := hI _ _ _ h
  exact (hq.has X hb).mono fun e w' ⟨he, h'⟩ => ⟨he, hk _ _ (by cases b <;> exact fun e => e) h'⟩
theorem RowI.must {I : World → PS → α → Prop} (hI : RowI src tb tc ts g I) {w : World} {s : PS} {a : α} (h : I w s a) (X : ByteArray) :
    Calls Tryz.prog 78 #[.pointer (some ⟨g, 0, none⟩), .string X] w fun e w' => e = .returned (.tuple #[]) ∧ I w' (pMust ts X.data.toList s) a := by
  obtain ⟨R, N, hq, hk⟩ := hI _ _ _ h
  exact (hq.must X).mono fun e w' ⟨he, h'⟩ => ⟨he, hk _ _ ((Ext.refl s).must _).e0 h'⟩
theorem RowI.cell {I : World → PS → α → Prop} (hI : RowI src tb tc ts g I) {w : World} {s : PS} {a : α} (h : I w s a) : g < w.heap.size ∧ w.cell? ⟨g, 3, none⟩ = some (.int .i64 s.e) ∧ s.i < ts.length ∧ ts.length ≤ 1000 := by
  obtain ⟨R, N, hq, hk⟩ := hI _ _ _ h
  obtain ⟨h1, _, _, _, h2⟩ := hq.deepC
  exact ⟨h1, h2, hq.ok.room, hq.toks.few⟩
set_option maxHeartbeats 3200000 in
set_option maxRecDepth 100000 in
theorem row_any {one : Nat → α → PS → Option (α × PS)} {I : World → PS → α → Prop} {f : Nat} {cap : Array Value} {n L : Nat} {len : α → Nat} (hI : RowI src tb tc ts g I) (hen : Enters Tryz.prog f)
    (hmono : ∀ k a s r, one k a s = some r → s.nodes.length ≤ r.2.nodes.length ∧ s.i ≤ r.2.i ∧ len r.1 = len a + 1)
    (hone : ∀ k w s a r, k ≤ n → I w s a → s.e = 0 → len a ≤ 1000 → one k a s = some r → r.2.nodes.length ≤ L → Calls Tryz.prog f cap w fun e w' => e = .returned (.tuple #[]) ∧ I w' r.2 r.1)
    {w : World} {s s2 : PS} {a : α} {r : α × PS} (h : I w s a) (ha : len a = 0) (hs2 : pMust ts [40] s = s2) (hr : (if pIs ts [41] s2 = false ∧ s2.e = 0 then rowM ts one n a s2 else some (a, s2)) = some r) (hL : r.2.nodes.length ≤ L) :
    Calls Tryz.prog 80 #[.pointer (some ⟨g, 0, none⟩), .func (.func f) #[] cap] w fun e w' => e = .returned (.tuple #[]) ∧ I w' (pMust ts [41] r.2) r.1 := by
  have HI := hid hI
  have HM := hid hmono
  have HO := hid hone
  have H0 := hid h
  have HS2 := hid hs2
  have HL := hid hL
  have HA := hid ha
  have hmn : ∀ k a s r, rowM ts one k a s = some r → s.nodes.length ≤ r.2.nodes.length := by
    intro k
    induction k with
    | zero => intro a s r h; cases h
    | succ k ih =>
      intro a s r h
      simp only [rowM, Option.bind_eq_some_iff] at h
      obtain ⟨u, hu, h⟩ := h
      have h1 := (hmono _ _ _ _ hu).1
      split at h
      · have h2 := ih _ _ _ h
        have h3 : (pGo u.2).nodes = u.2.nodes := rfl
        rw [h3] at h2
        omega
      · simp only [Option.some.injEq] at h
        subst h
        exact h1
  have HMN := hid hmn
  clear hmn hI hmono hone h hs2 hL ha
  by_cases h41 : pIs ts [41] s2 = true
  · rw [if_neg (by rw [h41]; simp)] at hr
    simp only [Option.some.injEq] at hr
    subst hr
    have H41 := hid h41
    clear h41
    go_enter Tryz.func80, Tryz.ntmps80
    go_wp2_with fail
    refine (HI.out.must H0.out ⟨#[40]⟩).mono ?_
    rintro e w1 ⟨rfl, h1⟩
    have H1 := hid (show I w1 s2 a from by rw [← HS2.out]; exact h1)
    clear h1
    go_wp2_with fail
    refine (HI.out.has H1.out ⟨#[41]⟩ (b := true) H41.out).mono ?_
    rintro e w2 ⟨rfl, h2⟩
    rw [if_pos rfl] at h2
    have H2 := hid h2
    clear h2
    go_wp2_with fail
    refine bodyPost_ret (results_none rfl _ _ _) rfl ⟨rfl, ?_⟩
    unfold pMust
    rw [if_pos H41.out]
    exact H2.out
  · have h41f : pIs ts [41] s2 = false := by simpa using h41
    have H41 := hid h41f
    clear h41
    obtain ⟨b, hb, HR⟩ : ∃ b : Bool, b = decide (s2.e = 0) ∧ Hid (RowAt ts one n a s2 r b) := by
      by_cases h0 : s2.e = 0
      · rw [if_pos ⟨h41f, h0⟩] at hr
        exact ⟨true, by simp [h0], hr⟩
      · rw [if_neg (by rintro ⟨_, h⟩; exact h0 h)] at hr
        simp only [Option.some.injEq] at hr
        exact ⟨false, by simp [h0], hr.symm⟩
    have HB := hid hb
    have heb : ((s2.e : Int) == 0) = b := by
      rw [hb]
      by_cases h0 : s2.e = 0
      · rw [decide_eq_true h0, h0]; rfl
      · rw [decide_eq_false h0]; exact beq_eq_false_iff_ne.2 (by omega)
    clear hr h41f hb
    go_enter Tryz.func80, Tryz.ntmps80
    go_wp2_with fail
    refine (HI.out.must H0.out ⟨#[40]⟩).mono ?_
    rintro e w1 ⟨rfl, h1⟩
    have H1 := hid (show I w1 s2 a from by rw [← HS2.out]; exact h1)
    clear h1
    go_wp2_with fail
    refine (HI.out.has H1.out ⟨#[41]⟩ (b := false) H41.out).mono ?_
    rintro e w2 ⟨rfl, h2⟩
    rw [if_neg (by decide)] at h2
    have H2 := hid h2
    clear h2
    obtain ⟨hg, c3, _, _⟩ := HI.out.cell H2.out
    go_wp2_with fail
    clear hg c3 heb
    go_loopg [4] n (fun k more wr => ∃ (l : α) (s' : PS) (b : Bool), more = .bool b ∧ Hid (k ≤ n) ∧ Hid (I wr s' l) ∧ Hid (RowAt ts one k l s' r b) ∧ Hid (b = true → s'.e = 0 ∧ len l ≤ s'.i))
    case atStart => exact ⟨a, s2, b, by simp, hid (Nat.le_refl n), H2, HR, hid (fun e => ⟨by have := HB.out; rw [e] at this; simpa using this.symm, by rw [HA.out]; omega⟩)⟩
    case round =>
      obtain ⟨l, s', b', rfl, HK, H3, HR3, HE⟩ := hrel
      clear H0 H1 H2 HR HB H41
      cases b' with
      | false =>
        have hr : r = (l, s') := HR3.out
        subst hr
        clear HR3 HE
        go_wp2_with fail
        refine (HI.out.must H3.out ⟨#[41]⟩).mono ?_
        rintro e w4 ⟨rfl, h4⟩
        have H4 := hid h4
        clear h4
        go_wp2_with fail
        refine bodyPost_end (results_none rfl _ _ _) rfl ⟨rfl, H4.out⟩
      | true =>
        have hr : rowM ts one gk l s' = some r := HR3.out
        cases gk with
        | zero => cases hr
        | succ k =>
          simp only [rowM, Option.bind_eq_some_iff] at hr
          obtain ⟨u, hu, hr⟩ := hr
          obtain ⟨he, hl⟩ := HE.out rfl
          obtain ⟨_, _, hi1, hi2⟩ := HI.out.cell H3.out
          obtain ⟨m1, m2, m3⟩ := HM.out _ _ _ _ hu
          have hul : u.2.nodes.length ≤ L := by
            have h9 := HL.out
            by_cases hp : pIs ts [44] u.2 = true
            · rw [if_pos hp] at hr
              have h8 := HMN.out _ _ _ _ hr
              have h7 : (pGo u.2).nodes = u.2.nodes := rfl
              rw [h7] at h8
              omega
            · rw [if_neg hp] at hr
              simp only [Option.some.injEq] at hr
              subst hr
              exact h9
          have HC := hid (HO.out k _ _ _ _ (by have := HK.out; omega) H3.out he (by omega) hu hul)
          obtain ⟨z, hz⟩ : ∃ z, pIs ts [44] u.2 = z := ⟨_, rfl⟩
          have HZ := hid hz
          have HN := hid (show len u.1 ≤ (pGo u.2).i from by show len u.1 ≤ u.2.i + 1; omega)
          have HR4 := hid (show RowAt ts one k u.1 (if z = true then pGo u.2 else u.2) r z from by
            rw [hz] at hr
            cases z with
            | true => rw [if_pos rfl] at hr ⊢; exact hr
            | false =>
              rw [if_neg (by decide)] at hr ⊢
              simp only [Option.some.injEq] at hr
              exact hr.symm)
          clear hr hu he hl hi1 hi2 m1 m2 m3 hul hz HR3 HE
          go_wp2_with fail
          rw [hen]
          go_wp2_with fail
          refine HC.out.mono ?_
          rintro e w4 ⟨rfl, h4⟩
          have H4 := hid h4
          clear h4
          go_wp2_with fail
          refine (HI.out.has H4.out ⟨#[44]⟩ (b := z) HZ.out).mono ?_
          rintro e w5 ⟨rfl, h5⟩
          have H5 := hid h5
          clear h5
          go_wp2_with fail
          go_roundg k
          case measure => omega
          case rel => exact ⟨u.1, _, z, by simp, hid (by have := HK.out; omega), H5, HR4, hid (fun e => by
            subst e
            exact ⟨(pIs_kind HZ.out).1, HN.out⟩)⟩
end
end Go.Proofs.YtlbjicjinnnboaaGreatDoor
/- The program's own parser: a row of numbers that a closure makes longer. -/
namespace Go.Proofs.YtlbjicjinnnboaaGreatDoor
open Go.RowKit
set_option linter.unusedVariables false
set_option linter.unusedSimpArgs false
section
variable {src : ByteArray} {tb tc : Nat} {ts : List Tok} {g : Nat} {N N' : Lim} {R : Nat → Prop} {w0 w w' : World} {s s' : PS} {v : Value} {l : List Nat} {bl : Nat}
theorem below_own : ∀ {ns : List NodeM} {vs : List Value}, Below2 w ns vs → ∀ v ∈ vs, ∃ n xs, Own w 3 1 v n xs
  | [], [], _, _, hv => by cases hv
  | [], _ :: _, h, _, _ => h.elim
  | _ :: _, [], h, _, _ => h.elim
  | _ :: ns, u :: vs, h, v, hv => by
    rcases List.mem_cons.1 hv with rfl | hv
    · exact ⟨_, _, h.1⟩
    · exact below_own h.2 v hv
/-- Blocks of the walk's own are written: what the parser holds stays. -/
theorem QMem.frM {q : PQ} {lvs : List Value} {M : Nat → Prop} (hq : QMem src tb tc ts g w q) (hs : Sim ts R w q s lvs N) (f : Fr M w w')
    (hM : ∀ k, M k → ∃ t cs, Blk w k t cs ∧ t ≠ 82 ∧ t ≠ 50 ∧ t ≠ 115 ∧ (t = 3 → R k)) : QMem src tb tc ts g w' q ∧ Sim ts R w' q s lvs N := by
  obtain ⟨b0, ht⟩ := hq.toks
  refine ⟨⟨hq.blk.fr f (fun hm => ?_), hq.own.fr f (fun k hk hm => ?_), ⟨b0, ht.own.fr f (fun k hk hm => ?_), ht.new⟩, hq.room, hq.newer⟩, hs.e, hs.place, hs.deep, hs.pos, hs.row, fun h0 => (hs.below h0).avoid f (fun v hv k hk hm => ?_), hs.avoid, hs.bad⟩
  · obtain ⟨t, cs, hb, h1, h2, h3, h4⟩ := hM _ hm
    exact hb.ne hq.blk h1 rfl
  · obtain ⟨t, cs, hb, h1, h2, h3, h4⟩ := hM _ hm
    exact hq.own.blk_ne hb (Ne.symm h2) hk
  · obtain ⟨t, cs, hb, h1, h2, h3, h4⟩ := hM _ hm
    exact ht.own.blk_ne hb (Ne.symm h3) hk
  · obtain ⟨t, cs, hb, h1, h2, h3, h4⟩ := hM _ hm
    by_cases ht : t = 3
    · exact hs.avoid h0 v hv k hk (h4 ht)
    · obtain ⟨n, xs, ho⟩ := below_own (hs.below h0) v hv
      exact ho.blk_ne hb (Ne.symm ht) hk
theorem QS.frM (h : QS src tb tc ts g R w0 w s N) {M : Nat → Prop} (f : Fr M w w') (hn : ∀ k, M k → w0.heap.size ≤ k)
    (hM : ∀ k, M k → ∃ t cs, Blk w k t cs ∧ t ≠ 82 ∧ t ≠ 50 ∧ t ≠ 115 ∧ (t = 3 → R k)) : QS src tb tc ts g R w0 w' s N := by
  obtain ⟨q, lvs, hq, hs⟩ := h.q
  obtain ⟨hq', hs'⟩ := hq.frM hs f hM
  refine ⟨⟨q, lvs, hq', hs'⟩, fun k hk => Nat.lt_of_lt_of_le (h.res k hk) f.size, h.ok, h.toks, h.long, ?_, ⟨h.most.1, h.most.2.imp fun m hm => hm.fr f (fun e => ?_)⟩⟩
  · exact Fr.trans h.fr f (fun _ _ x => x) (fun k hk hm => by have := hn k hm; omega)
  · have := hn _ e
    have := h.most.1
    omega
/-- A cell of the walk's own is written. -/
theorem QS.cell (h : QS src tb tc ts g R w0 w s N) {b : Nat} {t : TypeId} {cs : Array Value} (hb : Blk w b t cs) (h1 : t ≠ 82) (h2 : t ≠ 50) (h3 : t ≠ 115) (h4 : t ≠ 3) (hn : w0.heap.size ≤ b) (i : Nat) (u : Value) : QS src tb tc ts g R w0 (w.setCell ⟨b, i, none⟩ u) s N :=
  h.frM (M := oneb b) ((Fr.refl (oneb b) w).setCell _ _ (fun _ => rfl)) (fun k hk => by rw [show k = b from hk]; exact hn) (fun k hk => ⟨t, cs, by rw [show k = b from hk]; exact hb, h1, h2, h3, fun e => absurd e h4⟩)
/-- The parser, and a row of numbers in a variable. -/
structure QRw (src : ByteArray) (tb tc : Nat) (ts : List Tok) (g : Nat) (R : Nat → Prop) (bl : Nat) (w0 w : World) (s : PS) (N : Lim) (v : Value) (l : List Nat) : Prop where
  q : QS src tb tc ts g (RV R v) w0 w s N
  cell : Blk w bl 27 #[v]
  own : Own w 3 1 v l.length (ints l)
  nr : ∀ k, blk v = some k → ¬ R k
  nw : ∀ k, blk v = some k → w0.heap.size ≤ k
  bnew : w0.heap.size ≤ bl
theorem QRw.to (h : QRw src tb tc ts g R bl w0 w s N v l) (h' : QS src tb tc ts g (RV R v) w w' s' N') : QRw src tb tc ts g R bl w0 w' s' N' v l := by
  obtain ⟨cs, hg⟩ := h.q.blkg
  exact ⟨h.q.back h', h'.fr.blk h.cell (fun e => h.cell.ne hg (by decide) e) (by decide), h.own.frR hg (by decide) (by decide) h'.fr, h.nr, h.nw, h.bnew⟩
/-- A number more, and stored in the variable. -/
theorem QRw.app (h : QRw src tb tc ts g R bl w0 w s N v l) {o : Obj} {w3 : World} {v' : Value} {l' : List Nat} (ho : Own w3 3 1 v' l'.length (ints l')) (hf : Fr (obl (blk v)) (w.alloc o) w3) (hv : blk v' = blk v ∨ blk v' = some (w.alloc o).heap.size) :
    QRw src tb tc ts g R bl w0 (w3.setCell ⟨bl, 0, none⟩ v') s N v' l' := by
  have h1 := h.q.alloc o
  have hown := h.own.alloc o
  obtain ⟨q, lvs, hq, hs⟩ := h1.q
  have hMk : ∀ k, obl (blk v) k → ∃ t cs, Blk (w.alloc o) k t cs ∧ t ≠ 82 ∧ t ≠ 50 ∧ t ≠ 115 ∧ (t = 3 → RV R v k) := fun k hk => by
    obtain ⟨cs, hb⟩ := hown.ty hk
    exact ⟨_, cs, hb, by decide, by decide, by decide, fun _ => .inr hk⟩
  obtain ⟨hq3, hs3⟩ := hq.frM hs hf hMk
  have hlt : s.e = 0 → ∀ u ∈ lvs, ∀ j, blk u = some j → j < (w.alloc o).heap.size := fun h0 => rows_lt (hs.below h0)
  have hR' : ∀ k, RV R v' k → k < w3.heap.size := fun k hk => by
    rcases hk with hk | hk
    · have := h1.res k (.inl hk); have := hf.size; omega
    · exact ho.blk_lt hk
  have h3 : QS src tb tc ts g (RV R v') w0 w3 s N := by
    have h3 := h1.frM hf (fun k hk => h.nw k hk) hMk
    refine ⟨⟨q, lvs, hq3, hs3.e, hs3.place, hs3.deep, hs3.pos, hs3.row, hs3.below, fun h0 u hu j hj hr => ?_, hs3.bad⟩, hR', h3.ok, h3.toks, h3.long, h3.fr, h3.most⟩
    rcases hr with hr | hr
    · exact hs.avoid h0 u hu j hj (.inl hr)
    · rcases hv with e | e
      · exact hs.avoid h0 u hu j hj (.inr (by rw [← e]; exact hr))
      · rw [e] at hr
        injection hr with hr
        have := hlt h0 u hu j hj
        omega
  have hc3 : Blk w3 bl 27 #[v] := (h.cell.alloc o).fr hf (fun hm => hown.blk_ne (h.cell.alloc o) (by decide) hm)
  refine ⟨h3.cell hc3 (by decide) (by decide) (by decide) (by decide) h.bnew 0 v', hc3.setCell 0 v', ?_, fun k hk hr => ?_, fun k hk => ?_, h.bnew⟩
  · exact ho.fr (M := oneb bl) ((Fr.refl (oneb bl) w3).setCell _ _ (fun _ => rfl)) (fun k hk hm => ho.blk_ne hc3 (by decide) (by rw [hk, show k = bl from hm]))
  · rcases hv with e | e
    · rw [e] at hk; exact h.nr k hk hr
    · rw [e] at hk
      injection hk with hk
      have := h1.res k (.inl hr)
      omega
  · rcases hv with e | e
    · rw [e] at hk; exact h.nw k hk
    · rw [e] at hk
      injection hk with hk
      have := h1.fr.size
      omega
/-- The row is empty at first. -/
theorem QRw.start (h : QS src tb tc ts g R w0 w s N) (hc : Blk w bl 27 #[.slice none 0 0]) (hb : w0.heap.size ≤ bl) : QRw src tb tc ts g R bl w0 w s N (.slice none 0 0) [] := by
  have hn : ∀ k, blk (.slice none 0 0) ≠ some k := fun k hk => by simp [blk] at hk
  obtain ⟨q, lvs, hq, hs⟩ := h.q
  refine ⟨⟨⟨q, lvs, hq, hs.e, hs.place, hs.deep, hs.pos, hs.row, hs.below, fun h0 u hu j hj hr => ?_, hs.bad⟩, fun k hk => ?_, h.ok, h.toks, h.long, h.fr, h.most⟩, hc, Own.nil _ _ _, fun k hk => absurd hk (hn k), fun k hk => absurd hk (hn k), hb⟩
  · rcases hr with hr | hr
    · exact hs.avoid h0 u hu j hj hr
    · exact hn _ hr
  · rcases hk with hk | hk
    · exact h.res k hk
    · exact absurd hk (hn k)
end
end Go.Proofs.YtlbjicjinnnboaaGreatDoor
/- The program's own parser: several signs. -/
namespace Go.Proofs.YtlbjicjinnnboaaGreatDoor
open Go.RowKit
set_option linter.unusedVariables false
set_option linter.unusedSimpArgs false
theorem isIn_any (zs : List ByteArray) (t : List UInt8) : isIn zs t = zs.any fun x => isIn [x] t := by
  rw [Bool.eq_iff_iff]
  simp only [isIn, decide_eq_true_eq, List.any_eq_true, List.mem_map, List.mem_singleton, List.map_cons, List.map_nil]
  exact ⟨fun ⟨a, h1, h2⟩ => ⟨a, h1, h2.symm⟩, fun ⟨a, h1, h2⟩ => ⟨a, h1, h2.symm⟩⟩
theorem qIs_any {ts : List Tok} (zs : List ByteArray) (q : PQ) : qIs ts zs q = zs.any fun x => qIs ts [x] q := by
  unfold qIs
  rw [isIn_any]
  generalize (decide (q.e = 0) && (decide ((qTok ts q).kind = 5) || decide ((qTok ts q).kind = 4))) = a
  cases a
  · simp
  · simp
theorem QS.isL {src : ByteArray} {tb tc : Nat} {ts : List Tok} {g : Nat} {N : Lim} {R : Nat → Prop} {w0 w : World} {s : PS} (h : QS src tb tc ts g R w0 w s N) (zs : List ByteArray) {b n : Nat} (hb : Blk w b 9 (zs.map Value.string).toArray) (hn : zs.length = n) (hn1 : n ≤ 1000) {z : Bool} (hz : (zs.any fun x => pIs ts x.data.toList s) = z) :
    Calls Tryz.prog 83 #[.pointer (some ⟨g, 0, none⟩), .slice (some ⟨b, 0, none⟩) n n] w fun e w' => e = .returned (.bool z) ∧ Fr nob w w' := by
  obtain ⟨q, lvs, hq, hs⟩ := h.q
  refine (qis_any hq zs b n hb hn hn1).mono fun e w' ⟨he, hf⟩ => ⟨by rw [he, qIs_any, ← hz]; congr 2; exact congrArg (fun f => zs.any f) (funext fun x => hs.isX x), hf⟩
theorem signs_ne : ∀ (lv : Nat), ∀ x ∈ signsL lv, x ≠ [] := by
  intro lv x hx
  match lv, hx with
  | 0, hx => simp [signsL] at hx; simp [hx]
  | 1, hx => simp [signsL] at hx; simp [hx]
  | 2, hx => simp [signsL] at hx; rcases hx with rfl | rfl | rfl | rfl <;> decide
  | 3, hx => simp [signsL] at hx; rcases hx with rfl | rfl <;> decide
  | n + 4, hx => simp [signsL] at hx; rcases hx with rfl | rfl | rfl <;> decide
theorem pNext_any {ts : List Tok} (lv : Nat) (s : PS) : ((signsL lv).any fun x => pIs ts x s) = decide (pNext ts lv s ≠ []) := by
  unfold pNext
  cases h : (signsL lv).find? fun x => pIs ts x s with
  | none =>
    rw [List.find?_eq_none] at h
    have : ((signsL lv).any fun x => pIs ts x s) = false := by
      rw [List.any_eq_false]
      exact h
    rw [this]
    simp
  | some x =>
    have h1 := List.mem_of_find?_eq_some h
    have h2 := List.find?_some h
    have : ((signsL lv).any fun x => pIs ts x s) = true := List.any_eq_true.2 ⟨x, h1, h2⟩
    rw [this]
    simp [signs_ne lv x h1]
theorem pNext_text {ts : List Tok} (lv : Nat) (s : PS) (h : pNext ts lv s ≠ []) : s.e = 0 ∧ (pTok ts s).text = pNext ts lv s := by
  unfold pNext at h ⊢
  cases hh : (signsL lv).find? fun x => pIs ts x s with
  | none => rw [hh] at h; exact absurd rfl h
  | some x =>
    have h2 := List.find?_some hh
    exact ⟨(pIs_kind h2).1, (pIs_kind h2).2.2⟩
end Go.Proofs.YtlbjicjinnnboaaGreatDoor
/- The program's own parser: chain. -/
namespace Go.Proofs.YtlbjicjinnnboaaGreatDoor
open Go.RowKit
set_option linter.unusedVariables false
set_option linter.unusedSimpArgs false
def levelT : Nat → ByteArray
  | 0 => ⟨#[124, 124]⟩
  | 1 => ⟨#[38, 38]⟩
  | 2 => ⟨#[60, 32, 60, 61, 32, 61, 61, 32, 33, 61]⟩
  | 3 => ⟨#[43, 32, 45]⟩
  | _ => ⟨#[42, 32, 47, 32, 37]⟩
def levelsS : List ByteArray := [levelT 0, levelT 1, levelT 2, levelT 3, levelT 4]
def signsN : Nat → Nat
  | 0 => 1
  | 1 => 1
  | 2 => 4
  | 3 => 2
  | _ => 3
def signsS (lv : Nat) : List ByteArray := (signsL lv).map bs
theorem signsS_len (lv : Nat) : (signsS lv).length = signsN lv := by
  unfold signsS
  match lv with
  | 0 => rfl
  | 1 => rfl
  | 2 => rfl
  | 3 => rfl
  | n + 4 => rfl
theorem signsS_any {ts : List Tok} (lv : Nat) (s : PS) : ((signsS lv).any fun x => pIs ts x.data.toList s) = decide (pNext ts lv s ≠ []) := by
  rw [← pNext_any]
  unfold signsS
  rw [List.any_map]
  rfl
theorem cnt_levels : Lib.countB ⟨#[124, 124, 44, 38, 38, 44, 60, 32, 60, 61, 32, 61, 61, 32, 33, 61, 44, 43, 32, 45, 44, 42, 32, 47, 32, 37]⟩ ⟨#[44]⟩ = 4 := by kernel_rfl
theorem spl_levels : Lib.splitB ⟨#[44]⟩ 0 4 ⟨#[124, 124, 44, 38, 38, 44, 60, 32, 60, 61, 32, 61, 61, 32, 33, 61, 44, 43, 32, 45, 44, 42, 32, 47, 32, 37]⟩ = levelsS := by kernel_rfl
theorem split_levels (w0 w : World) (hv : Most w0 w) : Calls Tryz.prog 156 #[.string ⟨#[124, 124, 44, 38, 38, 44, 60, 32, 60, 61, 32, 61, 61, 32, 33, 61, 44, 43, 32, 45, 44, 42, 32, 47, 32, 37]⟩, .string ⟨#[44]⟩] w fun e w' =>
    e = .returned (.slice (some ⟨w.heap.size, 0, none⟩) 5 5) ∧ w' = w.alloc (.cells (levelsS.map Value.string).toArray 9) := by
  obtain ⟨_, m, hm⟩ := hv
  refine (Tryz.strings_Split _ _ m w (by decide) (by rw [hm.cell 0]; rfl) (by decide)).mono ?_
  rintro e w' ⟨rfl, rfl⟩
  rw [cnt_levels, spl_levels]
  exact ⟨rfl, rfl⟩
theorem cnt_level0 : Lib.countB (levelT 0) ⟨#[32]⟩ = 0 := by kernel_rfl
theorem cnt_level1 : Lib.countB (levelT 1) ⟨#[32]⟩ = 0 := by kernel_rfl
theorem cnt_level2 : Lib.countB (levelT 2) ⟨#[32]⟩ = 3 := by kernel_rfl
theorem cnt_level3 : Lib.countB (levelT 3) ⟨#[32]⟩ = 1 := by kernel_rfl
theorem cnt_level4 : Lib.countB (levelT 4) ⟨#[32]⟩ = 2 := by kernel_rfl
theorem spl_level0 : Lib.splitB ⟨#[32]⟩ 0 0 (levelT 0) = signsS 0 := by kernel_rfl
theorem spl_level1 : Lib.splitB ⟨#[32]⟩ 0 0 (levelT 1) = signsS 1 := by kernel_rfl
theorem spl_level2 : Lib.splitB ⟨#[32]⟩ 0 3 (levelT 2) = signsS 2 := by kernel_rfl
theorem spl_level3 : Lib.splitB ⟨#[32]⟩ 0 1 (levelT 3) = signsS 3 := by kernel_rfl
theorem spl_level4 : Lib.splitB ⟨#[32]⟩ 0 2 (levelT 4) = signsS 4 := by kernel_rfl
theorem split_level (lv : Nat) (hlv : lv ≤ 4) (w0 w : World) (hv : Most w0 w) : Calls Tryz.prog 156 #[.string (levelT lv), .string ⟨#[32]⟩] w fun e w' =>
    e = .returned (.slice (some ⟨w.heap.size, 0, none⟩) (signsN lv) (signsN lv)) ∧ w' = w.alloc (.cells ((signsS lv).map Value.string).toArray 9) := by
  obtain ⟨_, m, hm⟩ := hv
  match lv, hlv with
  | 0, _ =>
    refine (Tryz.strings_Split _ _ m w (by decide) (by rw [hm.cell 0]; rfl) (by decide)).mono ?_
    rintro e w' ⟨rfl, rfl⟩
    rw [cnt_level0, spl_level0]
    exact ⟨rfl, rfl⟩
  | 1, _ =>
    refine (Tryz.strings_Split _ _ m w (by decide) (by rw [hm.cell 0]; rfl) (by decide)).mono ?_
    rintro e w' ⟨rfl, rfl⟩
    rw [cnt_level1, spl_level1]
    exact ⟨rfl, rfl⟩
  | 2, _ =>
    refine (Tryz.strings_Split _ _ m w (by decide) (by rw [hm.cell 0]; rfl) (by decide)).mono ?_
    rintro e w' ⟨rfl, rfl⟩
    rw [cnt_level2, spl_level2]
    exact ⟨rfl, rfl⟩
  | 3, _ =>
    refine (Tryz.strings_Split _ _ m w (by decide) (by rw [hm.cell 0]; rfl) (by decide)).mono ?_
    rintro e w' ⟨rfl, rfl⟩
    rw [cnt_level3, spl_level3]
    exact ⟨rfl, rfl⟩
  | 4, _ =>
    refine (Tryz.strings_Split _ _ m w (by decide) (by rw [hm.cell 0]; rfl) (by decide)).mono ?_
    rintro e w' ⟨rfl, rfl⟩
    rw [cnt_level4, spl_level4]
    exact ⟨rfl, rfl⟩
  | n + 5, h => omega
structure QEx (src : ByteArray) (tb tc : Nat) (ts : List Tok) (g n : Nat) : Prop where
  atom : QDoes src tb tc ts g n .atom 222 #[.pointer (some ⟨g, 0, none⟩)]
  factor : QDoes src tb tc ts g n .factor 202 #[.pointer (some ⟨g, 0, none⟩)]
  chain : ∀ (lv : Nat) (z : Int), ((lv : Nat) : Int) = z → lv ≤ 5 → QDoes src tb tc ts g n (.chain lv) 186 #[.pointer (some ⟨g, 0, none⟩), .int .i64 z]
  expr : QDoes src tb tc ts g n (.chain 0) 162 #[.pointer (some ⟨g, 0, none⟩)]
theorem levels_cell {w : World} {B : Nat} (h : Blk w B 9 (levelsS.map Value.string).toArray) (lv : Nat) (hl : lv ≤ 4) : w.cell? ⟨B, lv, none⟩ = some (.string (levelT lv)) := by
  rw [h.cell lv]
  match lv, hl with
  | 0, _ => rfl
  | 1, _ => rfl
  | 2, _ => rfl
  | 3, _ => rfl
  | 4, _ => rfl
  | n + 5, h => omega
set_option maxHeartbeats 3200000 in
set_option maxRecDepth 100000 in
theorem qchain_good {src : ByteArray} {tb tc : Nat} {ts : List Tok} {g n : Nat} (ih : ∀ m, m ≤ n → QEx src tb tc ts g m) (lv : Nat) (z : Int) (hz : ((lv : Nat) : Int) = z) (hlv : lv ≤ 5) : QDoes src tb tc ts g (n + 1) (.chain lv) 186 #[.pointer (some ⟨g, 0, none⟩), .int .i64 z] := by
  subst hz
  intro R w0 w s r N h hr hn
  have IH := hid (ih n (Nat.le_refl n))
  have S0 := hid h
  obtain ⟨cg, hcg⟩ := h.blkg
  have GB := hid (show w.heap.size ≠ g from fun e => by have := hcg.lt; omega)
  obtain ⟨W1, hW1⟩ : ∃ W1, W1 = w.alloc (.cells (levelsS.map Value.string).toArray 9) := ⟨_, rfl⟩
  have A0 := hid (show Fr nob w W1 from by rw [hW1]; exact (Fr.refl nob w).alloc _)
  have B0 := hid (show Blk W1 w.heap.size 9 (levelsS.map Value.string).toArray from by rw [hW1]; exact Blk.new w _ _)
  have S1 := hid (S0.out.no A0.out).here
  have HSP := hid (split_levels w0 w h.most)
  rw [← hW1] at HSP
  have HW := hid hW1
  simp only [run] at hr
  obtain ⟨M, hM⟩ : ∃ M, M = (if s.e = 0 then 10 * (n + 1) else N.n + 2) := ⟨_, rfl⟩
  rw [← hM]
  have HM0 := hid (show s.e = 0 → M = 10 * (n + 1) from fun e => by rw [hM, if_pos e])
  have HM1 := hid (show (if s.e = 0 then 10 * n else N.n + 2) ≤ M from by rw [hM]; split <;> omega)
  clear hM hcg h hW1
  by_cases h5 : lv = 5
  · subst h5
    rw [if_pos rfl] at hr
    have HQ := hid ((IH.out.factor R W1 W1 s r N S1.out hr (by omega)))
    obtain ⟨M2, hM2⟩ : ∃ M2, M2 = (if s.e = 0 then 10 * n else N.n + 2) := ⟨_, rfl⟩
    rw [← hM2] at HM1 HQ
    clear ih hn hr hM2
    go_enter Tryz.func186, Tryz.ntmps186
    go_wp2_with fail
    refine HSP.out.mono ?_
    rintro e w1 ⟨rfl, hw1⟩
    have hw1' := hw1.symm
    subst hw1'
    clear hw1
    go_wp2_with fail
    refine HQ.out.mono ?_
    rintro e w2 ⟨x, rfl, hx, h2⟩
    have S2 := hid h2
    have HX := hid hx
    clear h2 hx
    go_wp2_with fail
    go_ret
    exact ⟨x, rfl, HX.out, (S0.out.no A0.out).back (S2.out.more HM1.out)⟩
  · rw [if_neg h5] at hr
    have lv4 : lv ≤ 4 := by omega
    have l0 : ((lv : Int) == 5) = false := beq_eq_false_iff_ne.2 (by omega)
    have l1 : (lv : Int) < 5 := by omega
    simp only [Option.bind_eq_some_iff] at hr
    obtain ⟨q, hq, hm⟩ := hr
    have HLE := hid (nodes_le (run_ext _ _ _ _ hm))
    have HN := hid hn
    have HQX := hid (run_ext _ _ _ _ hq).e0
    have HQ := hid hq
    have HMR := hid hm
    have HL := hid lv4
    have HI := hid ih
    obtain ⟨line, hline⟩ : ∃ line, pLine src.data.toList ts s = line := ⟨_, rfl⟩
    rw [hline] at HMR
    have HLN := hid hline
    obtain ⟨M2, hM2⟩ : ∃ M2, M2 = (if s.e = 0 then 10 * n else N.n + 2) := ⟨_, rfl⟩
    have HCH := hid (show ∀ w1, QS src tb tc ts g R W1 w1 s N → Calls Tryz.prog 186 #[.pointer (some ⟨g, 0, none⟩), .int .i64 ((lv : Int) + 1)] w1 fun e w' => ∃ x : Nat, e = .returned (.int .i64 x) ∧ (q.2.e = 0 → x = oneOf q.1) ∧ QS src tb tc ts g R W1 w' q.2 ⟨M, N.d⟩ from fun w1 h1 => by
      refine (IH.out.chain (lv + 1) ((lv : Int) + 1) rfl (by omega) R W1 w1 s q N h1 hq (by have := HLE.out; omega)).mono ?_
      rintro e w' ⟨x, he, hx, hs⟩
      exact ⟨x, he, hx, hs.more HM1.out⟩)
    rw [← hM2] at HM1
    clear ih hn hq hm hlv h5 lv4 hline hM2
    go_enter Tryz.func186, Tryz.ntmps186
    go_wp2_with fail
    refine HSP.out.mono ?_
    rintro e w1 ⟨rfl, hw1⟩
    have hw1' := hw1.symm
    subst hw1'
    clear hw1
    go_wp2_with fail
    refine S1.out.line.mono ?_
    rintro e w2 ⟨y, rfl, hy, h2⟩
    have S2 := hid h2
    have HY := hid (show s.e = 0 → y = line from fun e => by rw [hy e]; exact HLN.out)
    clear h2 hy
    go_wp2_with fail
    refine (HCH.out _ S2.out).mono ?_
    rintro e w3 ⟨x0, rfl, hx, h3⟩
    have S3 := hid h3
    have HX := hid hx
    clear h3 hx
    go_wp2_with fail
    go_loopg [7] n (fun k x wr => ∃ (xv xm : Nat) (s' : PS), x = .int .i64 (xv : Nat) ∧ Hid (k ≤ n) ∧ Hid (QS src tb tc ts g R W1 wr s' ⟨M, N.d⟩) ∧ Hid (run src.data.toList ts k (.more lv line xm) s' = some r) ∧ Hid (s'.e = 0 → xv = xm ∧ s.e = 0))
    case atStart => exact ⟨x0, oneOf q.1, q.2, rfl, hid (Nat.le_refl n), S3, HMR, hid (fun e => ⟨HX.out e, HQX.out e⟩)⟩
    case round =>
      obtain ⟨xv, xm, s', rfl, HK, S4, HR, HE⟩ := hrel
      clear S2 S3 HX HQ HMR HCH HLE HQX
      have hr := HR.out
      cases gk with
      | zero => simp [run] at hr
      | succ k =>
        simp only [run] at hr
        have B4 := hid (S4.out.fr.blk B0.out GB.out (by decide))
        have D4 := hid (S4.out.no (Fr.refl nob wr).drew)
        have CK := hid (show ∀ wx : World, Blk wx w.heap.size 9 (levelsS.map Value.string).toArray → wx.cell? ⟨w.heap.size, lv, none⟩ = some (.string (levelT lv)) from fun wx h => levels_cell h lv HL.out)
        have SP := hid (split_level lv HL.out W1 wr.drew D4.out.most)
        have hsn : signsN lv ≤ 1000 := by unfold signsN; split <;> omega
        have HIS := hid (show ∀ z : Bool, decide (pNext ts lv s' ≠ []) = z → Calls Tryz.prog 83 #[.pointer (some ⟨g, 0, none⟩), .slice (some ⟨wr.drew.heap.size, 0, none⟩) (signsN lv) (signsN lv)] (wr.drew.alloc (.cells ((signsS lv).map Value.string).toArray 9)) fun e w' => e = .returned (.bool z) ∧ Fr nob (wr.drew.alloc (.cells ((signsS lv).map Value.string).toArray 9)) w' from fun z hz => by
          exact (D4.out.alloc (.cells ((signsS lv).map Value.string).toArray 9)).isL (signsS lv) (Blk.new wr.drew _ _) (signsS_len lv) hsn (by rw [signsS_any]; exact hz))
        have KK := hid (CK.out (wr.drew.alloc (.cells ((signsS lv).map Value.string).toArray 9)) ((show Blk wr.drew w.heap.size 9 (levelsS.map Value.string).toArray from B4.out).alloc _))
        have BK := hid (show Blk (wr.drew.alloc (.cells ((signsS lv).map Value.string).toArray 9)) w.heap.size 9 (levelsS.map Value.string).toArray from (show Blk wr.drew w.heap.size 9 (levelsS.map Value.string).toArray from B4.out).alloc _)
        have DA := hid (D4.out.alloc (.cells ((signsS lv).map Value.string).toArray 9))
        have k0 := CK.out _ B4.out
        have hwd : wr.drew.heap.size = wr.heap.size := rfl
        generalize levelT lv = TX at *
        generalize signsN lv = SN at *
        generalize ((signsS lv).map Value.string).toArray = SA at *
        clear hsn HR
        by_cases hp : pNext ts lv s' = []
        · rw [if_pos hp] at hr
          simp only [Option.some.injEq] at hr
          subst hr
          have IS := hid (HIS.out false (by rw [hp]; simp))
          clear hp HIS
          go_wp2_with fail
          go_region_held3 (fun wx => wx.cell? ⟨w.heap.size, lv, none⟩ = some (.string TX)) (first | exact K2.out | exact KK.out | go_keep)
            (first
              | (go_at_call 156; go_loud (refine SP.out.mono ?_); go_loud (rintro e w5 ⟨rfl, rfl⟩))
              | (go_at_call 83; go_loud (refine IS.out.mono ?_); go_loud (rintro e w6 ⟨rfl, hf⟩); have S6 := hid (DA.out.no hf); have K2 := hid (CK.out _ (BK.out.fr hf (fun x => x))); clear hf))
          go_wp2_with fail
          go_ret
          exact ⟨xv, rfl, fun e => (HE.out e).1, (S0.out.no A0.out).back S6.out⟩
        · rw [if_neg hp] at hr
          obtain ⟨h0, htx⟩ := pNext_text lv s' hp
          obtain ⟨hxm, hse⟩ := HE.out h0
          subst hxm
          have hM := HM0.out hse
          have hy := HY.out hse
          subst hy
          simp only [Option.bind_eq_some_iff] at hr
          obtain ⟨u, hu, hr⟩ := hr
          have IS := hid (HIS.out true (by simp [hp]))
          have HO := hid (S4.out.ok.goNext S4.out.toks hp)
          have IK := hid (HI.out k (by have := HK.out; omega))
          have H0 := hid h0
          have HTX := hid htx
          have HM := hid hM
          have hle : u.2.nodes.length ≤ r.2.nodes.length := by
            by_cases h2 : lv = 2
            · rw [if_pos h2] at hr
              simp only [Option.some.injEq] at hr
              subst hr
              simp [pPut]
            · rw [if_neg h2] at hr
              have := nodes_le (run_ext _ _ _ _ hr)
              simp [pPut] at this
              omega
          have hN := HN.out
          have HB := hid (show u.2.nodes.length + 10 * k ≤ 1000000 by have := HK.out; omega)
          have HCH := hid (show ∀ w1, QS src tb tc ts g R W1 w1 (pGo s') ⟨M, N.d⟩ → Calls Tryz.prog 186 #[.pointer (some ⟨g, 0, none⟩), .int .i64 ((lv : Int) + 1)] w1 fun e w' => ∃ x : Nat, e = .returned (.int .i64 x) ∧ (u.2.e = 0 → x = oneOf u.1) ∧ QS src tb tc ts g R W1 w' u.2 ⟨10 * k, N.d⟩ from fun w1 h1 => by
            refine (IK.out.chain (lv + 1) ((lv : Int) + 1) rfl (by have := HL.out; omega) R W1 w1 (pGo s') u ⟨0, N.d⟩ (h1.zero H0.out 0) hu (by have := HK.out; show u.2.nodes.length + 0 + 10 * k + 10 ≤ 1000000; omega)).mono ?_
            rintro e w' ⟨x, he, hx, hs⟩
            rw [if_pos (show (pGo s').e = 0 from H0.out)] at hs
            exact ⟨x, he, hx, hs⟩)
          have HR := hid hr
          clear hp HIS hr hu hse hM h0 htx hle hN HN HY HLN
          go_wp2_with fail
          go_region_held3 (fun wx => wx.cell? ⟨w.heap.size, lv, none⟩ = some (.string TX)) (first | exact K2.out | exact KK.out | go_keep)
            (first
              | (go_at_call 156; go_loud (refine SP.out.mono ?_); go_loud (rintro e w5 ⟨rfl, rfl⟩))
              | (go_at_call 83; go_loud (refine IS.out.mono ?_); go_loud (rintro e w6 ⟨rfl, hf⟩); have S6 := hid (DA.out.no hf); have K2 := hid (CK.out _ (BK.out.fr hf (fun x => x))); clear hf))
          go_wp2_with fail
          refine (S6.out.take H0.out HO.out).mono ?_
          rintro e w7 ⟨rfl, h7⟩
          have S7 := hid h7
          clear h7
          unfold tokA
          have ff := tf1
          go_wp2_with fail
          refine (HCH.out _ S7.out).mono ?_
          rintro e w8 ⟨x8, rfl, hx, h8⟩
          have S8 := hid h8
          have HX := hid hx
          clear hx h8
          go_wp2_with fail
          refine (S8.out.put2 xv x8 rfl 9 rfl y y (fun _ => rfl) (name := (pTok ts s').text) rfl (l := [xv, oneOf u.1]) (fun e => by rw [HX.out e]) HB.out).mono ?_
          rintro e w9 ⟨x9, rfl, hx, h9⟩
          have S9 := hid h9
          have HX9 := hid hx
          clear hx h9
          by_cases h2 : lv = 2
          · have l2 : ((lv : Int) == 2) = true := by rw [h2]; rfl
            have hr := HR.out
            rw [if_pos h2, ← HTX.out] at hr
            simp only [Option.some.injEq] at hr
            subst hr
            clear h2 HR HCH IK HI
            go_wp2_with fail
            go_ret
            exact ⟨x9, rfl, fun e => HX9.out e, (S0.out.no A0.out).back (S9.out.more (by have := HM.out; have := HK.out; show 10 * k ≤ M; omega))⟩
          · have l2 : ((lv : Int) == 2) = false := beq_eq_false_iff_ne.2 (by omega)
            have hr := HR.out
            rw [if_neg h2, ← HTX.out] at hr
            have HR2 := hid hr
            clear h2 HR HCH IK HI hr
            go_wp2_with fail
            go_roundg k
            case measure => omega
            case rel => exact ⟨x9, u.2.nodes.length, (pPut 9 y 0 (pTok ts s').text [xv, oneOf u.1] u.2).2, rfl, hid (by have := HK.out; omega), S9.out.more (by have := HM.out; have := HK.out; show 10 * k ≤ M; omega), HR2, hid (fun e => ⟨HX9.out e, (HE.out H0.out).2⟩)⟩
theorem qex_all (src : ByteArray) (tb tc : Nat) (ts : List Tok) (g : Nat) : ∀ n, QEx src tb tc ts g n := by
  intro n
  induction n using Nat.strongRecOn with
  | _ n ih =>
    have hc : ∀ (lv : Nat) (z : Int), ((lv : Nat) : Int) = z → lv ≤ 5 → QDoes src tb tc ts g n (.chain lv) 186 #[.pointer (some ⟨g, 0, none⟩), .int .i64 z] := by
      cases n with
      | zero => exact fun _ _ _ _ => QDoes.zero _ _ _
      | succ n => exact qchain_good (fun m hm => ih m (by omega))
    cases n with
    | zero => exact ⟨QDoes.zero _ _ _, QDoes.zero _ _ _, hc, QDoes.zero _ _ _⟩
    | succ n =>
      have h1 := ih n (by omega)
      exact ⟨qatom_good h1.expr, qfactor_good ⟨h1.factor, h1.atom⟩, hc, qexpr_good hc⟩
end Go.Proofs.YtlbjicjinnnboaaGreatDoor
/- The program's own parser: a call's closure. -/
namespace Go.Proofs.YtlbjicjinnnboaaGreatDoor
open Go.RowKit
set_option linter.unusedVariables false
set_option linter.unusedSimpArgs false
theorem enters_call1 : Enters Tryz.prog 203 := enters_of Tryz.func203 (by kernel_rfl) rfl
set_option maxHeartbeats 3200000 in
set_option maxRecDepth 100000 in
theorem call1_any {src : ByteArray} {tb tc : Nat} {ts : List Tok} {g n : Nat} {N : Lim} {R : Nat → Prop} {w0 w : World} {s : PS} {v : Value} {l : List Nat} {bl b0 : Nat} {r : List Nat × PS}
    (h : QRw src tb tc ts g R bl w0 w s N v l) (h0 : s.e = 0) (hb0 : Blk w b0 78 #[.pointer (some ⟨g, 0, none⟩)]) (hr : run src.data.toList ts n (.chain 0) s = some r) (hn : r.2.nodes.length + 10 * n + 10 ≤ 1000000) (hl : l.length ≤ 1000) :
    Calls Tryz.prog 203 #[.pointer (some ⟨bl, 0, none⟩), .pointer (some ⟨b0, 0, none⟩)] w fun e w' => e = .returned (.tuple #[]) ∧ ∃ (v' : Value) (x : Nat), QRw src tb tc ts g R bl w0 w' r.2 ⟨10 * n, N.d⟩ v' (l ++ [x]) ∧ (r.2.e = 0 → x = oneOf r.1) ∧ Blk w' b0 78 #[.pointer (some ⟨g, 0, none⟩)] := by
  have H := hid h
  have HB := hid hb0
  have HL := hid hl
  obtain ⟨cg, hcg⟩ := h.q.blkg
  have GB := hid (show b0 ≠ g from hb0.ne hcg (by decide))
  have HX := (qex_all src tb tc ts g n).expr (RV R v) w w.drew s r ⟨0, N.d⟩ ((h.q.here.zero h0 0).no (Fr.refl nob w).drew) hr (by omega)
  rw [if_pos h0] at HX
  have HX := hid HX
  obtain ⟨A1, c1, hv, hc1, hc2⟩ := h.own.cap
  obtain ⟨m, hm⟩ : ∃ m, l.length = m := ⟨_, rfl⟩
  rw [hm] at hv HL
  subst hv
  have HMM := hid hm
  have k0 : w.cell? ⟨bl, 0, none⟩ = some (.slice A1 m c1) := by rw [h.cell.cell 0]; rfl
  have k1 : w.cell? ⟨b0, 0, none⟩ = some (.pointer (some ⟨g, 0, none⟩)) := by rw [hb0.cell 0]; rfl
  have CK := hid (show ∀ wx : World, Blk wx bl 27 #[.slice A1 m c1] → Blk wx b0 78 #[.pointer (some ⟨g, 0, none⟩)] → wx.cell? ⟨bl, 0, none⟩ = some (.slice A1 m c1) ∧ wx.cell? ⟨b0, 0, none⟩ = some (.pointer (some ⟨g, 0, none⟩)) from fun wx h1 h2 => ⟨by rw [h1.cell 0]; rfl, by rw [h2.cell 0]; rfl⟩)
  clear h h0 hb0 hr hn hl hcg hm
  go_enter Tryz.func203, Tryz.ntmps203
  go_wp2_with fail
  go_region_law (first
      | (go_simp; go_at_call 162; go_loud (refine HX.out.mono ?_); go_loud (rintro e w2 ⟨x, rfl, hx, h2⟩); go_loud (have HE := hid hx); go_loud (have S2 := hid (H.out.to h2)); go_loud (have B2 := hid (h2.fr.blk HB.out GB.out (by decide))); go_loud (have K2 := hid (CK.out _ S2.out.cell B2.out)); go_loud (have K3 := hid (CK.out _ (S2.out.cell.alloc (.cells #[.int .i64 (x : Int)] 3)) (B2.out.alloc (.cells #[.int .i64 (x : Int)] 3)))); have k2 := K2.out.1; have k3 := K3.out.1; have k4 := K2.out.2; clear hx h2)
      | (refine step_append (v := .slice A1 m c1) (n := m) (m := 1) (xs := ints l) (news := [.int .i64 (x : Nat)]) (by rfl) _ _ (by rfl) TyInts (by rfl) (by rfl) (by have h9 := S2.out.own; rw [HMM.out] at h9; exact h9.alloc _) (Rd.ofBlk (n := 1) (cs := [.int .i64 (x : Nat)]) (Blk.new _ _ _) rfl (by decide)) (by simp [Value.oneCell']) (by have h9 := HL.out; first | omega | (unfold maxLen; omega)) (by have h9 := HL.out; first | omega | (unfold maxLen; omega)) ?_; intro A5 c5 w5 ho5 hf5 hv5; go_loud (have HQ5 := hid (S2.out.app (o := .cells #[.int .i64 (x : Int)] 3) (own_snoc (x := x) (l := l) (by rw [HMM.out]; exact ho5)) hf5 hv5)); go_loud (have D5 := hid ((S2.out.cell.alloc (.cells #[.int .i64 (x : Int)] 3)).fr hf5 (fun hm => (S2.out.own.alloc (.cells #[.int .i64 (x : Int)] 3)).blk_ne (S2.out.cell.alloc (.cells #[.int .i64 (x : Int)] 3)) (by decide) hm))); go_loud (have E5 := hid ((B2.out.alloc (.cells #[.int .i64 (x : Int)] 3)).fr hf5 (fun hm => (S2.out.own.alloc (.cells #[.int .i64 (x : Int)] 3)).blk_ne (B2.out.alloc (.cells #[.int .i64 (x : Int)] 3)) (by decide) hm))); go_loud (have K5 := hid (CK.out _ D5.out E5.out)); have z0 := K5.out.1; have z1 := D5.out.frozen 0; clear ho5 hf5 hv5))
  all_goals
    go_wp2_with fail
    refine bodyPost_end (results_none rfl _ _ _) rfl ⟨rfl, _, x, HQ5.out, HE.out, E5.out.far (p := ⟨bl, 0, none⟩) (fun e => E5.out.ne D5.out (by decide) e) _⟩
end Go.Proofs.YtlbjicjinnnboaaGreatDoor
/- The program's own parser: a call. -/
namespace Go.Proofs.YtlbjicjinnnboaaGreatDoor
open Go.RowKit
set_option linter.unusedVariables false
set_option linter.unusedSimpArgs false
section
variable (src : ByteArray) (tb tc : Nat) (ts : List Tok) (g : Nat)
/-- What a task comes to that begins without an error. -/
def QDoes0 (n : Nat) (k : Task) (F : FuncId) (args : Array Value) : Prop :=
  ∀ (R : Nat → Prop) (w0 w : World) (s : PS) (r : List Nat × PS) (N : Lim), QS src tb tc ts g R w0 w s N → s.e = 0 → run src.data.toList ts n k s = some r → r.2.nodes.length + 10 * n + 10 ≤ 1000000 →
    Calls Tryz.prog F args w fun e w' => ∃ x : Nat, e = .returned (.int .i64 x) ∧ (r.2.e = 0 → x = oneOf r.1) ∧ QS src tb tc ts g R w0 w' r.2 ⟨10 * n, N.d⟩
end
def oneArg (src : List UInt8) (ts : List Tok) (k : Nat) (l : List Nat) (s : PS) : Option (List Nat × PS) := (run src ts k (.chain 0) s).map fun r => (l ++ r.1, r.2)
theorem rowM_args (src : List UInt8) (ts : List Tok) : ∀ (k : Nat) (l : List Nat) (s : PS), rowM ts (oneArg src ts) k l s = run src ts k (.args l) s
  | 0, _, _ => rfl
  | k + 1, l, s => by
    simp only [rowM, run, oneArg]
    cases h : run src ts k (.chain 0) s with
    | none => rfl
    | some r =>
      simp only [Option.map_some, Option.bind_some]
      split
      · exact rowM_args src ts k _ _
      · rfl
/-- A call's row. -/
def CallI (src : ByteArray) (tb tc : Nat) (ts : List Tok) (g : Nat) (R : Nat → Prop) (bl b0 : Nat) (w0 : World) (N : Lim) (w : World) (s : PS) (l : List Nat) : Prop :=
  ∃ v l', QRw src tb tc ts g R bl w0 w s N v l' ∧ l'.length = l.length ∧ (s.e = 0 → l' = l) ∧ Blk w b0 78 #[.pointer (some ⟨g, 0, none⟩)]
theorem callI_row (src : ByteArray) (tb tc : Nat) (ts : List Tok) (g : Nat) (R : Nat → Prop) (bl b0 : Nat) (w0 : World) (N : Lim) : RowI src tb tc ts g (CallI src tb tc ts g R bl b0 w0 N) := by
  intro w s a h
  obtain ⟨v, l', hq, h1, h2, hb⟩ := h
  refine ⟨RV R v, N, hq.q.here, fun w' s' he h' => ⟨v, l', hq.to h', h1, fun e => h2 (he e), ?_⟩⟩
  obtain ⟨cg, hcg⟩ := hq.q.blkg
  exact h'.fr.blk hb (hb.ne hcg (by decide)) (by decide)
theorem oneArg_mono {src : List UInt8} {ts : List Tok} (k : Nat) (a : List Nat) (s : PS) (r : List Nat × PS) (h : oneArg src ts k a s = some r) : s.nodes.length ≤ r.2.nodes.length ∧ s.i ≤ r.2.i ∧ r.1.length = a.length + 1 := by
  unfold oneArg at h
  simp only [Option.map_eq_some_iff] at h
  obtain ⟨q, hq, rfl⟩ := h
  have hx := run_ext _ _ _ _ hq
  refine ⟨nodes_le hx, hx.i, ?_⟩
  have h1 := run_one _ _ _ _ hq trivial
  show (a ++ q.1).length = _
  rw [h1]
  simp
/-- A call's row is read. -/
theorem callrow_any {src : ByteArray} {tb tc : Nat} {ts : List Tok} {g n : Nat} {d : Nat} {R : Nat → Prop} {w0 w : World} {s s2 : PS} {bl b0 : Nat} {r : List Nat × PS}
    (h : QS src tb tc ts g R w0 w s ⟨10 * n, d⟩) (hc : Blk w bl 27 #[.slice none 0 0]) (hbl : w0.heap.size ≤ bl) (hb0 : Blk w b0 78 #[.pointer (some ⟨g, 0, none⟩)])
    (hs2 : pMust ts [40] s = s2) (hr : (if pIs ts [41] s2 = false ∧ s2.e = 0 then run src.data.toList ts n (.args []) s2 else some ([], s2)) = some r) (hL : r.2.nodes.length + 10 * n + 10 ≤ 1000000) :
    Calls Tryz.prog 80 #[.pointer (some ⟨g, 0, none⟩), .func (.func 203) #[] #[.pointer (some ⟨bl, 0, none⟩), .pointer (some ⟨b0, 0, none⟩)]] w fun e w' => e = .returned (.tuple #[]) ∧ CallI src tb tc ts g R bl b0 w0 ⟨10 * n, d⟩ w' (pMust ts [41] r.2) r.1 := by
  refine row_any (one := oneArg src.data.toList ts) (len := List.length) (n := n) (L := r.2.nodes.length) (callI_row src tb tc ts g R bl b0 w0 ⟨10 * n, d⟩) enters_call1 oneArg_mono ?_ (a := []) (s := s) (s2 := s2) ?_ rfl hs2 ?_ (Nat.le_refl _)
  · intro k w s a u hk hI he hl hu hul
    obtain ⟨v, l', hq, h1, h2, hb⟩ := hI
    have hl' := h2 he
    subst hl'
    unfold oneArg at hu
    simp only [Option.map_eq_some_iff] at hu
    obtain ⟨q, hq2, rfl⟩ := hu
    refine (call1_any hq he hb hq2 (by have : q.2.nodes.length ≤ r.2.nodes.length := hul; omega) hl).mono ?_
    rintro e w' ⟨rfl, v', x, h3, h4, h5⟩
    have hq1 := run_one _ _ _ _ hq2 trivial
    refine ⟨rfl, v', l' ++ [x], ⟨h3.q.more (by show 10 * k ≤ 10 * n; omega), h3.cell, h3.own, h3.nr, h3.nw, h3.bnew⟩, ?_, fun e => ?_, h5⟩
    · show (l' ++ [x]).length = (l' ++ q.1).length
      rw [hq1]; simp
    · show l' ++ [x] = l' ++ q.1
      rw [hq1, h4 e]
  · exact ⟨.slice none 0 0, [], QRw.start h hc hbl, rfl, fun _ => rfl, hb0⟩
  · split
    · rename_i hh
      rw [rowM_args, ← hr, if_pos hh]
    · rename_i hh
      rw [← hr, if_neg hh]
set_option maxHeartbeats 3200000 in
set_option maxRecDepth 100000 in
theorem qcall_good (src : ByteArray) (tb tc : Nat) (ts : List Tok) (g n : Nat) : QDoes0 src tb tc ts g (n + 1) .call 188 #[.pointer (some ⟨g, 0, none⟩)] := by
  intro R w0 w s r N h h0 hr hn
  have S0 := hid h
  obtain ⟨cg, hcg⟩ := h.blkg
  have hgl : g < w.heap.size := hcg.lt
  have GL := hid hgl
  have A0 := hid (show Fr nob w (w.alloc (.cells #[.pointer (some ⟨g, 0, none⟩)] 78)) from (Fr.refl nob w).alloc _)
  have B0 := hid (Blk.new w 78 #[.pointer (some ⟨g, 0, none⟩)])
  obtain ⟨W1, hW1⟩ : ∃ W1, W1 = w.alloc (.cells #[.pointer (some ⟨g, 0, none⟩)] 78) := ⟨_, rfl⟩
  rw [← hW1] at A0 B0
  have hsz : W1.heap.size = w.heap.size + 1 := by rw [hW1]; simp
  have HSZ := hid hsz
  have S1 := hid ((S0.out.no A0.out).here.zero h0 (10 * n))
  have x0 : W1.cell? ⟨w.heap.size, 0, none⟩ = some (.pointer (some ⟨g, 0, none⟩)) := by rw [B0.out.cell 0]; rfl
  have HW := hid hW1
  simp only [run, Option.map_eq_some_iff] at hr
  obtain ⟨q, hq, rfl⟩ := hr
  obtain ⟨s2, hs2⟩ : ∃ s2, pMust ts [40] (pNamed ts s) = s2 := ⟨_, rfl⟩
  rw [hs2] at hq
  have HQ := hid hq
  have HS2 := hid hs2
  have hn2 : (pMust ts [41] q.2).nodes.length + 1 + 10 * (n + 1) + 10 ≤ 1000000 := by simpa [pPut] using hn
  have hqn := nodes_le ((Ext.refl q.2).must (ts := ts) [41])
  have HN := hid (show q.2.nodes.length + 10 * n + 10 ≤ 1000000 by omega)
  have HN2 := hid (show (pMust ts [41] q.2).nodes.length + 10 * n ≤ 1000000 by omega)
  obtain ⟨line, hline⟩ : ∃ line, pLine src.data.toList ts s = line := ⟨_, rfl⟩
  have HLN := hid hline
  obtain ⟨NM, hname⟩ : ∃ NM, bs (pName ts s) = NM := ⟨_, rfl⟩
  have HNM := hid hname
  rw [hline]
  have H0 := hid h0
  have CK := hid (show ∀ wx : World, FrR g W1 wx → wx.cell? ⟨w.heap.size, 0, none⟩ = some (.pointer (some ⟨g, 0, none⟩)) from fun wx f => by rw [(f.blk B0.out (fun e => by have := GL.out; omega) (by decide)).cell 0]; rfl)
  clear h hcg hgl hsz hq hs2 hn hn2 hqn hline hname h0 hW1
  go_enter Tryz.func188, Tryz.ntmps188
  go_wp2_with fail
  rw [← HW.out]
  have HLN1 := hid (S1.out.no (Fr.refl nob W1).drew).line
  go_region_held3 (fun wx => wx.cell? ⟨w.heap.size, 0, none⟩ = some (.pointer (some ⟨g, 0, none⟩))) (first | exact K2.out | exact K3.out | go_keep)
    (first
      | (go_at_call 77; go_loud (refine HLN1.out.mono ?_); go_loud (rintro e w2 ⟨y, rfl, hy, h2⟩); go_loud (have HY := hid hy); go_loud (have S2 := hid h2); go_loud (have K2 := hid (CK.out _ h2.fr)); clear hy h2)
      | (go_at_call 79; go_loud (refine (S2.out.name HNM.out).mono ?_); go_loud (rintro e w3 ⟨rfl, h3⟩); go_loud (have S3 := hid h3); go_loud (have K3 := hid (CK.out _ h3.fr)); clear h3))
  have L3 := hid S3.out.fr.size
  have B3 := hid (S3.out.fr.blk B0.out (fun e => by have := GL.out; omega) (by decide))
  have S4 := hid (S3.out.alloc (.cells #[.slice none 0 0] 27))
  have B4 := hid (B3.out.alloc (.cells #[.slice none 0 0] 27))
  have C4 := hid (Blk.new w3 27 #[.slice none 0 0])
  have x4 : (w3.alloc (.cells #[.slice none 0 0] 27)).cell? ⟨w.heap.size, 0, none⟩ = some (.pointer (some ⟨g, 0, none⟩)) := by rw [B4.out.cell 0]; rfl
  have hmf : ∀ (fn : Fn) (first cap : Array Value) (w : World), (Instr.makeFunc fn first cap).run Tryz.prog w = .ok (.func fn first cap) w := fun _ _ _ _ => rfl
  have HR := hid (callrow_any (w := w3.alloc (.cells #[.slice none 0 0] 27)) (w0 := W1) S4.out C4.out L3.out B4.out HS2.out HQ.out HN.out)
  go_wp2_with fail
  refine HR.out.mono ?_
  rintro e w5 ⟨rfl, v, l', hq5, hl5, he5, hb5⟩
  have Q5 := hid hq5
  have HE5 := hid he5
  have B5 := hid hb5
  obtain ⟨A1, c1, hv, hc1, hc2⟩ := hq5.own.cap
  generalize hm5 : l'.length = m5 at *
  subst hv
  have x5 : w5.cell? ⟨w.heap.size, 0, none⟩ = some (.pointer (some ⟨g, 0, none⟩)) := by rw [hb5.cell 0]; rfl
  have y5 : w5.cell? ⟨w3.heap.size, 0, none⟩ = some (.slice A1 m5 c1) := by rw [hq5.cell.cell 0]; rfl
  have HM5 := hid hm5
  have HP := hid ((Q5.out.q.drop (R := R) (fun k hk => Or.inl hk)).put 21 rfl y line (fun e => (HY.out H0.out).trans HLN.out) (name := pName ts s) HNM.out (A1 := A1) (M := m5) (c1 := c1) (l := q.1) (fun e => by have h1 := Q5.out.own; have h2 := HE5.out e; subst h2; rw [HM5.out] at h1 ⊢; exact h1) Q5.out.nr HN2.out)
  clear hq5 hl5 he5 hb5 hc1 hc2 hm5 x0 x4
  go_wp2_with fail
  refine HP.out.mono ?_
  rintro e w6 ⟨x6, rfl, hx, h6⟩
  have S6 := hid h6
  have HX := hid hx
  clear hx h6
  go_wp2_with fail
  go_ret
  exact ⟨x6, rfl, fun e => HX.out e, (S0.out.no A0.out).back (S6.out.more (by show 10 * n ≤ 10 * (n + 1); omega))⟩
end Go.Proofs.YtlbjicjinnnboaaGreatDoor
/- The program's own parser: right, sets, named. Printed by wip/tools/mkqright.py. -/
namespace Go.Proofs.YtlbjicjinnnboaaGreatDoor
open Go.RowKit
set_option linter.unusedVariables false
set_option linter.unusedSimpArgs false

theorem qcall_all (src : ByteArray) (tb tc : Nat) (ts : List Tok) (g n : Nat) : QDoes0 src tb tc ts g n .call 188 #[.pointer (some ⟨g, 0, none⟩)] := by
  cases n with
  | zero =>
    intro R w0 w s r N h h0 hr hn
    simp [run] at hr
  | succ n => exact qcall_good src tb tc ts g n
section
variable {src : ByteArray} {tb tc : Nat} {ts : List Tok} {g n : Nat} {N : Lim} {R : Nat → Prop} {w0 w : World} {s : PS} {r : List Nat × PS}
theorem run_pos {src : List UInt8} {ts : List Tok} {n : Nat} {k : Task} {s : PS} {r : List Nat × PS} (h : run src ts n k s = some r) : 1 ≤ n := by
  cases n with
  | zero => simp [run] at h
  | succ n => omega
theorem QDoes.at {k : Task} {F : FuncId} {args : Array Value} (h : QDoes src tb tc ts g n k F args) (hq : QS src tb tc ts g R w0 w s N) (hr : run src.data.toList ts n k s = some r) (hn : r.2.nodes.length + N.n + 10 * n + 10 ≤ 1000000) :
    Calls Tryz.prog F args w fun e w' => ∃ x : Nat, e = .returned (.int .i64 x) ∧ (r.2.e = 0 → x = oneOf r.1) ∧ QS src tb tc ts g R w0 w' r.2 ⟨N.n + 10 * n, N.d⟩ := by
  refine (h R w0 w s r N hq hr hn).mono ?_
  rintro e w' ⟨x, he, hx, hs⟩
  have := run_pos hr
  exact ⟨x, he, hx, hs.more (by show (if s.e = 0 then 10 * n else N.n + 2) ≤ N.n + 10 * n; split <;> omega)⟩
theorem QDoes0.at {k : Task} {F : FuncId} {args : Array Value} (h : QDoes0 src tb tc ts g n k F args) (hq : QS src tb tc ts g R w0 w s N) (h0 : s.e = 0) (hr : run src.data.toList ts n k s = some r) (hn : r.2.nodes.length + 10 * n + 10 ≤ 1000000) :
    Calls Tryz.prog F args w fun e w' => ∃ x : Nat, e = .returned (.int .i64 x) ∧ (r.2.e = 0 → x = oneOf r.1) ∧ QS src tb tc ts g R w0 w' r.2 ⟨10 * n, N.d⟩ := h R w0 w s r N hq h0 hr hn
theorem QDoesBad {k : Task} {F : FuncId} {args : Array Value} (h : QDoes src tb tc ts g n k F args) (hq : QS src tb tc ts g R w0 w s ⟨0 + 10 * n, N.d⟩) (h0 : s.e ≠ 0) (hr : run src.data.toList ts n k s = some r) (hn : r.2.nodes.length + (0 + 10 * n) + 10 * n + 10 ≤ 1000000) :
    Calls Tryz.prog F args w fun e w' => ∃ x : Nat, e = .returned (.int .i64 x) ∧ (r.2.e = 0 → x = oneOf r.1) ∧ QS src tb tc ts g R w0 w' r.2 ⟨10 * n + 2, N.d⟩ := by
  refine (h R w0 w s r _ hq hr hn).mono ?_
  rintro e w' ⟨x, he, hx, hs⟩
  rw [if_neg h0] at hs
  exact ⟨x, he, hx, hs.more (by show 0 + 10 * n + 2 ≤ 10 * n + 2; omega)⟩
theorem nodes_must (x : List UInt8) (s : PS) : (pMust ts x s).nodes.length = s.nodes.length := by
  unfold pMust pGo pFail
  split <;> (try split) <;> rfl
theorem nodes_named (s : PS) : (pNamed ts s).nodes.length = s.nodes.length := by
  unfold pNamed pGo pFail
  split <;> (try split) <;> rfl

set_option maxHeartbeats 3200000 in
set_option maxRecDepth 100000 in
theorem qright_good (src : ByteArray) (tb tc : Nat) (ts : List Tok) (g n : Nat) : QDoes src tb tc ts g (n + 1) .right 185 #[.pointer (some ⟨g, 0, none⟩)] := by
  intro R w0 w s r N h hr hn
  have S0 := hid h
  have EX := hid (qex_all src tb tc ts g n)
  have EC := hid (qcall_all src tb tc ts g n)
  simp only [run] at hr
  by_cases i1 : pIs ts [105, 110, 112, 117, 116] s = true
  · rw [if_pos i1] at hr
    simp only [Option.some.injEq] at hr
    subst hr
    have h0 := (pIs_kind i1).1
    rw [if_pos h0]
    have H0 := hid h0
    have I1 := hid i1
    have hn2 : s.nodes.length + 1 + N.n + 10 * (n + 1) + 10 ≤ 1000000 := by simpa [pPut, pGo] using hn
    have HN := hid (show (pGo s).nodes.length + 0 ≤ 1000000 by show s.nodes.length + 0 ≤ 1000000; omega)
    have Z0 := hid (h.zero h0 0)
    clear h hn hn2 i1 h0
    go_enter Tryz.func185, Tryz.ntmps185
    go_wp2_with fail
    refine Z0.out.line.mono ?_
    rintro e w1 ⟨y, rfl, hy, h1⟩
    have S1 := hid h1
    have HY := hid hy
    clear h1 hy
    go_wp2_with fail
    refine (S1.out.has ⟨#[105, 110, 112, 117, 116]⟩ (b := true) I1.out).mono ?_
    rintro e w2 ⟨rfl, h2⟩
    rw [if_pos rfl] at h2
    have S2 := hid h2
    clear h2
    go_wp2_with fail
    refine (S2.out.put0 19 rfl y (pLine src.data.toList ts s) (fun _ => HY.out H0.out) (name := []) rfl (l := []) (fun _ => rfl) HN.out).mono ?_
    rintro e w3 ⟨x3, rfl, hx3, h3⟩
    have S3 := hid h3
    have HX3 := hid hx3
    clear h3 hx3
    go_wp2_with fail
    go_ret
    exact ⟨x3, rfl, fun e => HX3.out e, S3.out.more (Nat.zero_le _)⟩
  · rw [if_neg i1] at hr
    have I1 := hid (show pIs ts [105, 110, 112, 117, 116] s = false by simpa using i1)
    clear i1
    by_cases i2 : pIs ts [110, 101, 119] s = true
    · rw [if_pos i2] at hr
      simp only [Option.map_eq_some_iff] at hr
      obtain ⟨q, hq, rfl⟩ := hr
      have h0 := (pIs_kind i2).1
      rw [if_pos h0]
      have H0 := hid h0
      have I2 := hid i2
      have hn2 : (pMust ts [41] q.2).nodes.length + 1 + N.n + 10 * (n + 1) + 10 ≤ 1000000 := by simpa [pPut] using hn
      have hnm := nodes_must (ts := ts) [41] q.2
      have HQ1 := hid (run_one _ _ _ _ hq trivial)
      have HE := hid (show (pMust ts [41] q.2).e = 0 → q.2.e = 0 from ((Ext.refl q.2).must (ts := ts) [41]).e0)
      have HQ := hid hq
      have HN := hid (show q.2.nodes.length + 0 + 10 * n + 10 ≤ 1000000 by omega)
      have HN2 := hid (show (pMust ts [41] q.2).nodes.length + (0 + 10 * n) ≤ 1000000 by omega)
      have Z0 := hid (h.zero h0 0)
      clear h hn hn2 hnm hq i2 h0
      go_enter Tryz.func185, Tryz.ntmps185
      go_wp2_with fail
      refine Z0.out.line.mono ?_
      rintro e w1 ⟨y, rfl, hy, h1⟩
      have S1 := hid h1
      have HY := hid hy
      clear h1 hy
      go_wp2_with fail
      refine (S1.out.has ⟨#[105, 110, 112, 117, 116]⟩ (b := false) I1.out).mono ?_
      rintro e w2 ⟨rfl, h2⟩
      rw [if_neg (by decide)] at h2
      have S2 := hid h2
      clear h2
      go_wp2_with fail
      refine (S2.out.has ⟨#[110, 101, 119]⟩ (b := true) I2.out).mono ?_
      rintro e w3 ⟨rfl, h3⟩
      rw [if_pos rfl] at h3
      have S3 := hid h3
      clear h3
      go_wp2_with fail
      refine (S3.out.must ⟨#[40]⟩).mono ?_
      rintro e w4 ⟨rfl, h4⟩
      have S4 := hid h4
      clear h4
      go_wp2_with fail
      refine (EX.out.expr.at S4.out HQ.out HN.out).mono ?_
      rintro e w5 ⟨x5, rfl, hx5, h5⟩
      have S5 := hid h5
      have HX5 := hid hx5
      clear h5 hx5
      go_wp2_with fail
      refine (S5.out.must ⟨#[41]⟩).mono ?_
      rintro e w6 ⟨rfl, h6⟩
      have S6 := hid h6
      clear h6
      go_wp2_with fail
      refine (S6.out.put1 x5 rfl 20 rfl y (pLine src.data.toList ts s) (fun _ => HY.out H0.out) (name := []) rfl (l := q.1) (fun e => by rw [HQ1.out, HX5.out (HE.out e)]) HN2.out).mono ?_
      rintro e w7 ⟨x7, rfl, hx7, h7⟩
      have S7 := hid h7
      have HX7 := hid hx7
      clear h7 hx7
      go_wp2_with fail
      go_ret
      exact ⟨x7, rfl, fun e => HX7.out e, S7.out.more (by show 0 + 10 * n ≤ 10 * (n + 1); omega)⟩
    · rw [if_neg i2] at hr
      have I2 := hid (show pIs ts [110, 101, 119] s = false by simpa using i2)
      clear i2
      obtain ⟨M, hM⟩ : ∃ M, M = (if s.e = 0 then 10 * (n + 1) else N.n + 2) := ⟨_, rfl⟩
      rw [← hM]
      by_cases i3 : pCalls ts s = true
      · rw [if_pos i3] at hr
        have h0 : s.e = 0 := by
          unfold pCalls at i3
          simp only [Bool.and_eq_true] at i3
          exact (pKind_kind i3.1).1
        have HM := hid (show 10 * n ≤ M by rw [hM, if_pos h0]; omega)
        have H0 := hid h0
        have I3 := hid i3
        have HR := hid hr
        have HN := hid (show r.2.nodes.length + 10 * n + 10 ≤ 1000000 by omega)
        clear h hn hr i3 h0 hM
        go_enter Tryz.func185, Tryz.ntmps185
        go_wp2_with fail
        refine S0.out.line.mono ?_
        rintro e w1 ⟨y, rfl, hy, h1⟩
        have S1 := hid h1
        have HY := hid hy
        clear h1 hy
        go_wp2_with fail
        refine (S1.out.has ⟨#[105, 110, 112, 117, 116]⟩ (b := false) I1.out).mono ?_
        rintro e w2 ⟨rfl, h2⟩
        rw [if_neg (by decide)] at h2
        have S2 := hid h2
        clear h2
        go_wp2_with fail
        refine (S2.out.has ⟨#[110, 101, 119]⟩ (b := false) I2.out).mono ?_
        rintro e w3 ⟨rfl, h3⟩
        rw [if_neg (by decide)] at h3
        have S3 := hid h3
        clear h3
        go_wp2_with fail
        refine (S3.out.calls (b := true) I3.out).mono ?_
        rintro e w4 ⟨rfl, h4⟩
        have S4 := hid h4
        clear h4
        go_wp2_with fail
        refine (EC.out.at S4.out H0.out HR.out HN.out).mono ?_
        rintro e w5 ⟨x5, rfl, hx5, h5⟩
        have S5 := hid h5
        have HX5 := hid hx5
        clear h5 hx5
        go_wp2_with fail
        go_ret
        exact ⟨x5, rfl, HX5.out, S5.out.more HM.out⟩
      · rw [if_neg i3] at hr
        have I3 := hid (show pCalls ts s = false by simpa using i3)
        have HR := hid hr
        have HN := hid (show r.2.nodes.length + N.n + 10 * n + 10 ≤ 1000000 by omega)
        have HX := hid (show ∀ wx, QS src tb tc ts g R w0 wx s N → Calls Tryz.prog 162 #[.pointer (some ⟨g, 0, none⟩)] wx fun e w' => ∃ x : Nat, e = .returned (.int .i64 x) ∧ (r.2.e = 0 → x = oneOf r.1) ∧ QS src tb tc ts g R w0 w' r.2 ⟨M, N.d⟩ from fun wx hx => by
          refine (EX.out.expr R w0 wx s r N hx HR.out HN.out).mono ?_
          rintro e w' ⟨x, he, hxx, hs⟩
          exact ⟨x, he, hxx, hs.more (by show (if s.e = 0 then 10 * n else N.n + 2) ≤ M; rw [hM]; split <;> omega)⟩)
        clear h hn hr i3 hM
        go_enter Tryz.func185, Tryz.ntmps185
        go_wp2_with fail
        refine S0.out.line.mono ?_
        rintro e w1 ⟨y, rfl, hy, h1⟩
        have S1 := hid h1
        have HY := hid hy
        clear h1 hy
        go_wp2_with fail
        refine (S1.out.has ⟨#[105, 110, 112, 117, 116]⟩ (b := false) I1.out).mono ?_
        rintro e w2 ⟨rfl, h2⟩
        rw [if_neg (by decide)] at h2
        have S2 := hid h2
        clear h2
        go_wp2_with fail
        refine (S2.out.has ⟨#[110, 101, 119]⟩ (b := false) I2.out).mono ?_
        rintro e w3 ⟨rfl, h3⟩
        rw [if_neg (by decide)] at h3
        have S3 := hid h3
        clear h3
        go_wp2_with fail
        refine (S3.out.calls (b := false) I3.out).mono ?_
        rintro e w4 ⟨rfl, h4⟩
        have S4 := hid h4
        clear h4
        go_wp2_with fail
        refine (HX.out _ S4.out).mono ?_
        rintro e w5 ⟨x5, rfl, hx5, h5⟩
        have S5 := hid h5
        have HX5 := hid hx5
        clear h5 hx5
        go_wp2_with fail
        go_ret
        exact ⟨x5, rfl, HX5.out, S5.out⟩
theorem qright_all (src : ByteArray) (tb tc : Nat) (ts : List Tok) (g n : Nat) : QDoes src tb tc ts g n .right 185 #[.pointer (some ⟨g, 0, none⟩)] := by
  cases n with
  | zero => exact QDoes.zero _ _ _
  | succ n => exact qright_good src tb tc ts g n
set_option maxHeartbeats 3200000 in
set_option maxRecDepth 100000 in
theorem qsets_any (h : QS src tb tc ts g R w0 w s N) (k : Nat) {kv : Int} (hkv : ((k : Nat) : Int) = kv) (y line : Nat) (hy : s.e = 0 → y = line) {name : List UInt8} {X : ByteArray} (hX : bs name = X)
    (hr : run src.data.toList ts n .right (pMust ts [61] s) = some r) (hn : r.2.nodes.length + N.n + 10 * n + 20 ≤ 1000000) :
    Calls Tryz.prog 161 #[.pointer (some ⟨g, 0, none⟩), .int .i64 kv, .int .i64 y, .string X] w fun e w' => ∃ x : Nat, e = .returned (.int .i64 x) ∧ ((pMust ts [59] r.2).e = 0 → x = (pMust ts [59] r.2).nodes.length) ∧ QS src tb tc ts g R w0 w' (pPut k line 0 name r.1 (pMust ts [59] r.2)).2 ⟨N.n + 10 * n, N.d⟩ := by
  have S0 := hid h
  have HK := hid hkv
  have HX := hid hX
  have HR := hid hr
  have HQ1 := hid (run_one _ _ _ _ hr trivial)
  have HE := hid (show (pMust ts [59] r.2).e = 0 → r.2.e = 0 from ((Ext.refl r.2).must (ts := ts) [59]).e0)
  have HY := hid (show (pMust ts [59] r.2).e = 0 → y = line from fun e => hy (((Ext.refl s).must (ts := ts) [61]).e0 ((run_ext _ _ _ _ hr).e0 (HE.out e))))
  have hnm := nodes_must (ts := ts) [59] r.2
  have HN := hid (show r.2.nodes.length + N.n + 10 * n + 10 ≤ 1000000 by omega)
  have HN2 := hid (show (pMust ts [59] r.2).nodes.length + (N.n + 10 * n) ≤ 1000000 by omega)
  have ER := hid (qright_all src tb tc ts g n)
  clear h hkv hX hr hn hy hnm
  go_enter Tryz.func161, Tryz.ntmps161
  go_wp2_with fail
  refine (S0.out.must ⟨#[61]⟩).mono ?_
  rintro e w1 ⟨rfl, h1⟩
  have S1 := hid h1
  clear h1
  go_wp2_with fail
  refine (ER.out.at S1.out HR.out HN.out).mono ?_
  rintro e w2 ⟨x2, rfl, hx2, h2⟩
  have S2 := hid h2
  have HX2 := hid hx2
  clear h2 hx2
  go_wp2_with fail
  refine (S2.out.must ⟨#[59]⟩).mono ?_
  rintro e w3 ⟨rfl, h3⟩
  have S3 := hid h3
  clear h3
  go_wp2_with fail
  refine (S3.out.put1 x2 rfl k HK.out y line HY.out HX.out (l := r.1) (fun e => by rw [HQ1.out, HX2.out (HE.out e)]) HN2.out).mono ?_
  rintro e w4 ⟨x4, rfl, hx4, h4⟩
  have S4 := hid h4
  have HX4 := hid hx4
  clear h4 hx4
  go_wp2_with fail
  go_ret
  exact ⟨x4, rfl, HX4.out, S4.out⟩
set_option maxHeartbeats 3200000 in
set_option maxRecDepth 100000 in
theorem qnamed_good (src : ByteArray) (tb tc : Nat) (ts : List Tok) (g n : Nat) {R : Nat → Prop} {w0 w : World} {s : PS} {r : List Nat × PS} {N : Lim} (h : QS src tb tc ts g R w0 w s N) (h0 : s.e = 0) (y : Nat) (hr : run src.data.toList ts (n + 1) (.named y) s = some r) (hn : r.2.nodes.length + 20 * (n + 1) + 20 ≤ 1000000) :
    Calls Tryz.prog 164 #[.pointer (some ⟨g, 0, none⟩), .int .i64 y] w fun e w' => ∃ x : Nat, e = .returned (.int .i64 x) ∧ (r.2.e = 0 → x = oneOf r.1) ∧ QS src tb tc ts g R w0 w' r.2 ⟨10 * n + 2, N.d⟩ := by
  have Z0 := hid (h.zero h0 0)
  have H0 := hid h0
  have EX := hid (qex_all src tb tc ts g n)
  have EC := hid (qcall_all src tb tc ts g n)
  simp only [run] at hr
  by_cases i1 : pCalls ts s = true
  · rw [if_pos i1] at hr
    simp only [Option.map_eq_some_iff] at hr
    obtain ⟨q, hq, rfl⟩ := hr
    have I1 := hid i1
    have HQ := hid hq
    have HQ1 := hid (run_one _ _ _ _ hq trivial)
    have HE := hid (show (pMust ts [59] q.2).e = 0 → q.2.e = 0 from ((Ext.refl q.2).must (ts := ts) [59]).e0)
    have hn2 : (pMust ts [59] q.2).nodes.length + 1 + 20 * (n + 1) + 20 ≤ 1000000 := by simpa [pPut] using hn
    have hnm := nodes_must (ts := ts) [59] q.2
    have HN := hid (show q.2.nodes.length + 10 * n + 10 ≤ 1000000 by omega)
    have HN2 := hid (show (pMust ts [59] q.2).nodes.length + 10 * n ≤ 1000000 by omega)
    clear h h0 hq hn hn2 hnm i1
    go_enter Tryz.func164, Tryz.ntmps164
    go_wp2_with fail
    refine (Z0.out.calls (b := true) I1.out).mono ?_
    rintro e w1 ⟨rfl, h1⟩
    have S1 := hid h1
    clear h1
    go_wp2_with fail
    refine (EC.out.at S1.out H0.out HQ.out HN.out).mono ?_
    rintro e w2 ⟨x2, rfl, hx2, h2⟩
    have S2 := hid h2
    have HX2 := hid hx2
    clear h2 hx2
    go_wp2_with fail
    refine (S2.out.must ⟨#[59]⟩).mono ?_
    rintro e w3 ⟨rfl, h3⟩
    have S3 := hid h3
    clear h3
    go_wp2_with fail
    refine (S3.out.put1 x2 rfl 13 rfl y y (fun _ => rfl) (name := []) rfl (l := q.1) (fun e => by rw [HQ1.out, HX2.out (HE.out e)]) HN2.out).mono ?_
    rintro e w4 ⟨x4, rfl, hx4, h4⟩
    have S4 := hid h4
    have HX4 := hid hx4
    clear h4 hx4
    go_wp2_with fail
    go_ret
    exact ⟨x4, rfl, fun e => HX4.out e, S4.out.more (by show 10 * n ≤ 10 * n + 2; omega)⟩
  · rw [if_neg i1] at hr
    have I1 := hid (show pCalls ts s = false by simpa using i1)
    obtain ⟨NM, hname⟩ : ∃ NM, bs (pName ts s) = NM := ⟨_, rfl⟩
    have HNM := hid hname
    clear i1
    by_cases i2 : pIs ts [91] (pNamed ts s) = true
    · rw [if_pos i2] at hr
      simp only [Option.bind_eq_some_iff, Option.map_eq_some_iff] at hr
      obtain ⟨q, hq, u, hu, rfl⟩ := hr
      have I2 := hid i2
      have HQ := hid hq
      have HU := hid hu
      have HQ1 := hid (run_one _ _ _ _ hq trivial)
      have HU1 := hid (run_one _ _ _ _ hu trivial)
      have HE := hid (show (pMust ts [59] u.2).e = 0 → u.2.e = 0 from ((Ext.refl u.2).must (ts := ts) [59]).e0)
      have HE2 := hid (show u.2.e = 0 → (pUp (pMust ts [93] q.2)).e = 0 from fun e => ((Ext.refl _).must (ts := ts) [61]).e0 ((run_ext _ _ _ _ hu).e0 e))
      have hn2 : (pMust ts [59] u.2).nodes.length + 1 + 20 * (n + 1) + 20 ≤ 1000000 := by simpa [pPut] using hn
      have hnm := nodes_must (ts := ts) [59] u.2
      have hqu : q.2.nodes.length ≤ u.2.nodes.length := by
        have h1 := nodes_le (run_ext _ _ _ _ hu)
        rw [nodes_must, nodes_up_must] at h1
        exact h1
      have HN := hid (show q.2.nodes.length + 0 + 10 * n + 10 ≤ 1000000 by omega)
      have hn1 := run_pos hq
      have HXP := hid (show ∀ wx, QS src tb tc ts g R w0 wx (pMust ts [61] (pUp (pMust ts [93] q.2))) ⟨0 + 10 * n, N.d⟩ → Calls Tryz.prog 162 #[.pointer (some ⟨g, 0, none⟩)] wx fun e w' => ∃ x : Nat, e = .returned (.int .i64 x) ∧ (u.2.e = 0 → x = oneOf u.1) ∧ QS src tb tc ts g R w0 w' u.2 ⟨10 * n + 2, N.d⟩ from fun wx hx => by
        by_cases he : (pMust ts [61] (pUp (pMust ts [93] q.2))).e = 0
        · refine (EX.out.expr R w0 wx _ u ⟨0, N.d⟩ (hx.zero he 0) HU.out (by show u.2.nodes.length + 0 + 10 * n + 10 ≤ 1000000; omega)).mono ?_
          rintro e w' ⟨x, h1, h2, h3⟩
          rw [if_pos he] at h3
          exact ⟨x, h1, h2, h3.more (by show 10 * n ≤ 10 * n + 2; omega)⟩
        · have hb := QDoesBad EX.out.expr hx he HU.out
          exact hb (by show u.2.nodes.length + (0 + 10 * n) + 10 * n + 10 ≤ 1000000; have := hn2; omega))
      have HN2 := hid (show (pMust ts [59] u.2).nodes.length + (10 * n + 2) ≤ 1000000 by omega)
      clear h h0 hq hu hn hn2 hnm hqu i2 hn1
      go_enter Tryz.func164, Tryz.ntmps164
      go_wp2_with fail
      refine (Z0.out.calls (b := false) I1.out).mono ?_
      rintro e w1 ⟨rfl, h1⟩
      have S1 := hid h1
      clear h1
      go_wp2_with fail
      refine (S1.out.name HNM.out).mono ?_
      rintro e w2 ⟨rfl, h2⟩
      have S2 := hid h2
      clear h2
      go_wp2_with fail
      have A3 := hid (show Fr nob w2 (w2.alloc (.cells #[.string ⟨#[91]⟩] 9)) from (Fr.refl nob w2).alloc _)
      refine ((S2.out.no A3.out).is1 ⟨#[91]⟩ (Blk.new w2 _ _) (z := true) I2.out).mono ?_
      rintro e w3 ⟨rfl, h3⟩
      have S3 := hid (S2.out.no (A3.out.tr h3))
      clear h3
      go_wp2_with fail
      refine (S3.out.inner EX.out.expr ⟨#[91]⟩ ⟨#[93]⟩ (fun _ => HQ.out) (fun _ => HN.out)).mono ?_
      rintro e w4 ⟨x4, rfl, _, hB⟩
      obtain ⟨hv, h4⟩ := hB I2.out
      have HX4 := hid hv
      have S4 := hid h4
      clear h4 hv hB
      go_wp2_with fail
      refine (S4.out.must ⟨#[61]⟩).mono ?_
      rintro e w5 ⟨rfl, h5⟩
      have S5 := hid h5
      clear h5
      go_wp2_with fail
      refine (HXP.out _ S5.out).mono ?_
      rintro e w6 ⟨x6, rfl, hx6, h6⟩
      have S6 := hid h6
      have HX6 := hid hx6
      clear h6 hx6
      go_wp2_with fail
      refine (S6.out.must ⟨#[59]⟩).mono ?_
      rintro e w7 ⟨rfl, h7⟩
      have S7 := hid h7
      clear h7
      go_wp2_with fail
      refine (S7.out.put2 x4 x6 rfl 12 rfl y y (fun _ => rfl) (name := pName ts s) HNM.out (l := q.1 ++ u.1) (fun e => by rw [HQ1.out, HU1.out, HX4.out (HE2.out (HE.out e)), HX6.out (HE.out e)]; rfl) HN2.out).mono ?_
      rintro e w8 ⟨x8, rfl, hx8, h8⟩
      have S8 := hid h8
      have HX8 := hid hx8
      clear h8 hx8
      go_wp2_with fail
      go_ret
      exact ⟨x8, rfl, fun e => HX8.out e, S8.out⟩
    · rw [if_neg i2] at hr
      have I2 := hid (show pIs ts [91] (pNamed ts s) = false by simpa using i2)
      simp only [Option.map_eq_some_iff] at hr
      obtain ⟨q, hq, rfl⟩ := hr
      have HQ := hid hq
      have hn2 : (pMust ts [59] q.2).nodes.length + 1 + 20 * (n + 1) + 20 ≤ 1000000 := by simpa [pPut] using hn
      have hnm := nodes_must (ts := ts) [59] q.2
      have HN := hid (show q.2.nodes.length + 0 + 10 * n + 20 ≤ 1000000 by omega)
      clear h h0 hq hn hn2 hnm i2
      go_enter Tryz.func164, Tryz.ntmps164
      go_wp2_with fail
      refine (Z0.out.calls (b := false) I1.out).mono ?_
      rintro e w1 ⟨rfl, h1⟩
      have S1 := hid h1
      clear h1
      go_wp2_with fail
      refine (S1.out.name HNM.out).mono ?_
      rintro e w2 ⟨rfl, h2⟩
      have S2 := hid h2
      clear h2
      go_wp2_with fail
      have A3 := hid (show Fr nob w2 (w2.alloc (.cells #[.string ⟨#[91]⟩] 9)) from (Fr.refl nob w2).alloc _)
      refine ((S2.out.no A3.out).is1 ⟨#[91]⟩ (Blk.new w2 _ _) (z := false) I2.out).mono ?_
      rintro e w3 ⟨rfl, h3⟩
      have S3 := hid (S2.out.no (A3.out.tr h3))
      clear h3
      go_wp2_with fail
      refine (qsets_any S3.out 11 rfl y y (fun _ => rfl) (name := pName ts s) HNM.out HQ.out HN.out).mono ?_
      rintro e w4 ⟨x4, rfl, hx4, h4⟩
      have S4 := hid h4
      have HX4 := hid hx4
      clear h4 hx4
      go_wp2_with fail
      go_ret
      exact ⟨x4, rfl, fun e => HX4.out e, S4.out.more (by show 0 + 10 * n ≤ 10 * n + 2; omega)⟩
end
end Go.Proofs.YtlbjicjinnnboaaGreatDoor
/- The program's own parser: a block's closure. -/
namespace Go.Proofs.YtlbjicjinnnboaaGreatDoor
open Go.RowKit
set_option linter.unusedVariables false
set_option linter.unusedSimpArgs false
section
variable (src : ByteArray) (tb tc : Nat) (ts : List Tok) (g : Nat)
/-- What a statement comes to. -/
def QDoesS (n : Nat) : Prop :=
  ∀ (R : Nat → Prop) (w0 w : World) (s : PS) (r : List Nat × PS) (N : Lim), QS src tb tc ts g R w0 w s N → s.e = 0 → run src.data.toList ts n .stmt s = some r → r.2.nodes.length + 20 * n + 40 ≤ 1000000 →
    Calls Tryz.prog 125 #[.pointer (some ⟨g, 0, none⟩)] w fun e w' => ∃ x : Nat, e = .returned (.int .i64 x) ∧ (r.2.e = 0 → x = oneOf r.1) ∧ QS src tb tc ts g R w0 w' r.2 ⟨10 * n, N.d⟩
/-- What a block comes to. -/
def QDoesB (n : Nat) : Prop :=
  ∀ (R : Nat → Prop) (w0 w : World) (s : PS) (r : List Nat × PS) (N : Lim), QS src tb tc ts g R w0 w s N → run src.data.toList ts n .block s = some r → r.2.nodes.length + N.n + 40 ≤ 1000000 → (s.e = 0 → r.2.nodes.length + 20 * n + 40 ≤ 1000000) →
    Calls Tryz.prog 84 #[.pointer (some ⟨g, 0, none⟩)] w fun e w' => ∃ x : Nat, e = .returned (.int .i64 x) ∧ (r.2.e = 0 → x = oneOf r.1) ∧ QS src tb tc ts g R w0 w' r.2 ⟨if s.e = 0 then 10 * n else N.n + 1, N.d⟩
end
/-- What is neither the parser's, nor a row of numbers, nor a variable for one, stays. -/
def Other (w w' : World) : Prop := ∀ b t cs, Blk w b t cs → t ≠ 82 → t ≠ 50 → t ≠ 3 → t ≠ 27 → Blk w' b t cs
theorem Other.refl (w : World) : Other w w := fun _ _ _ h _ _ _ _ => h
theorem Other.trans {w w1 w2 : World} (h : Other w w1) (h2 : Other w1 w2) : Other w w2 := fun b t cs hb a c d e => h2 b t cs (h b t cs hb a c d e) a c d e
theorem Other.frR {w w' : World} {g : Nat} {cs : Array Value} (hg : Blk w g 82 cs) (f : FrR g w w') : Other w w' := fun b t cs hb a c d e => f.blk hb (hb.ne hg a) c
theorem Other.app {src : ByteArray} {tb tc : Nat} {ts : List Tok} {g : Nat} {R : Nat → Prop} {bl : Nat} {wa w0 w w3 : World} {s : PS} {N : Lim} {v : Value} {l : List Nat} (ho : Other wa w) (h : QRw src tb tc ts g R bl w0 w s N v l) (o : Obj) (hf : Fr (obl (blk v)) (w.alloc o) w3) (v' : Value) : Other wa (w3.setCell ⟨bl, 0, none⟩ v') := fun b t cs hb a c d e => by
  have h1 := (ho b t cs hb a c d e).alloc o
  have h2 := h1.fr hf (fun hm => (h.own.alloc o).blk_ne h1 (Ne.symm d) hm)
  have h3 : Blk w3 bl 27 #[v] := (h.cell.alloc o).fr hf (fun hm => (h.own.alloc o).blk_ne (h.cell.alloc o) (by decide) hm)
  exact h2.far (p := ⟨bl, 0, none⟩) (fun e2 => h2.ne h3 e e2) _
theorem enters_block1 : Enters Tryz.prog 124 := enters_of Tryz.func124 (by kernel_rfl) rfl
set_option maxHeartbeats 3200000 in
set_option maxRecDepth 100000 in
theorem block1_any {src : ByteArray} {tb tc : Nat} {ts : List Tok} {g n : Nat} {N : Lim} {R : Nat → Prop} {w0 w : World} {s : PS} {v : Value} {l : List Nat} {bl b0 : Nat} {r : List Nat × PS} (ih : ∀ m, m < n → QDoesS src tb tc ts g m)
    (h : QRw src tb tc ts g R bl w0 w s ⟨10 * n, N.d⟩ v l) (h0 : s.e = 0) (hb0 : Blk w b0 78 #[.pointer (some ⟨g, 0, none⟩)]) (hr : run src.data.toList ts n (.stmts l) s = some r) (hl : l.length ≤ s.nodes.length) (hn : r.2.nodes.length + 20 * n + 40 ≤ 1000000) :
    Calls Tryz.prog 124 #[.pointer (some ⟨b0, 0, none⟩), .pointer (some ⟨bl, 0, none⟩)] w fun e w' => e = .returned (.tuple #[]) ∧ ∃ (v' : Value) (l' : List Nat), QRw src tb tc ts g R bl w0 w' r.2 ⟨10 * n, N.d⟩ v' l' ∧ (r.2.e = 0 → l' = r.1) ∧ Other w w' := by
  have H := hid h
  have HB := hid hb0
  have HL := hid hl
  have HN := hid hn
  have HI := hid ih
  have HR0 := hid hr
  have CK := hid (show ∀ wx : World, ∀ v : Value, Blk wx bl 27 #[v] → Blk wx b0 78 #[.pointer (some ⟨g, 0, none⟩)] → wx.cell? ⟨bl, 0, none⟩ = some v ∧ wx.cell? ⟨b0, 0, none⟩ = some (.pointer (some ⟨g, 0, none⟩)) from fun wx v h1 h2 => ⟨by rw [h1.cell 0]; rfl, by rw [h2.cell 0]; rfl⟩)
  clear h h0 hb0 hr hl hn ih
  go_enter Tryz.func124, Tryz.ntmps124
  go_wp2_with fail
  go_loopg [] n (fun k wr => ∃ (v : Value) (l' lm : List Nat) (s' : PS), Hid (k ≤ n) ∧ Hid (QRw src tb tc ts g R bl w0 wr s' ⟨10 * n, N.d⟩ v l') ∧ Hid (Other w wr) ∧ Hid (run src.data.toList ts k (.stmts lm) s' = some r) ∧ Hid (l'.length ≤ s'.nodes.length) ∧ Hid (s'.e = 0 → l' = lm))
  case atStart => exact ⟨v, l, l, s, hid (Nat.le_refl n), H, hid (Other.refl w), HR0, HL, hid (fun _ => rfl)⟩
  case round =>
    obtain ⟨v, l', lm, s', HK, HQ, HO, HR, HLL, HE⟩ := hrel
    clear H HL HR0
    have hr := HR.out
    cases gk with
    | zero => simp [run] at hr
    | succ k =>
      simp only [run] at hr
      have B0 := hid (HO.out _ _ _ HB.out (by decide) (by decide) (by decide) (by decide))
      obtain ⟨_, x0⟩ := CK.out _ _ HQ.out.cell B0.out
      obtain ⟨hg, _, _, _, c3⟩ := HQ.out.q.deepC
      obtain ⟨cg, hcg⟩ := HQ.out.q.blkg
      have HG := hid hcg
      have NB := hid (show b0 ≠ g from B0.out.ne hcg (by decide))
      clear hcg
      by_cases h0 : s'.e = 0
      case neg =>
        rw [if_pos h0] at hr
        simp only [Option.some.injEq] at hr
        subst hr
        have heb : ((s'.e : Int) == 0) = false := beq_eq_false_iff_ne.2 (by omega)
        have H0 := hid h0
        clear h0
        go_wp2_with fail
        refine bodyPost_end (results_none rfl _ _ _) rfl ⟨rfl, v, l', HQ.out, fun e => absurd e H0.out, HO.out⟩
      case pos =>
        rw [if_neg (by omega)] at hr
        have heb : ((s'.e : Int) == 0) = true := by rw [h0]; rfl
        by_cases hm : pIs ts [125] s' = true
        · rw [if_pos hm] at hr
          simp only [Option.some.injEq] at hr
          subst hr
          have A1 := hid (show Fr nob wr (wr.alloc (.cells #[.string ⟨#[125]⟩] 9)) from (Fr.refl nob wr).alloc _)
          have HI1 := hid ((HQ.out.q.no A1.out).is1 ⟨#[125]⟩ (Blk.new wr _ _) (z := true) hm)
          have H0 := hid h0
          clear h0 hm
          go_wp2_with fail
          refine HI1.out.mono ?_
          rintro e w4 ⟨rfl, h4⟩
          have F4 := hid (A1.out.tr h4)
          clear h4
          go_wp2_with fail
          refine bodyPost_end (results_none rfl _ _ _) rfl ⟨rfl, v, l', HQ.out.to (HQ.out.q.here.no F4.out), fun e => HE.out H0.out, HO.out.trans (Other.frR HG.out (FrR.no F4.out))⟩
        · rw [if_neg hm] at hr
          simp only [Option.bind_eq_some_iff] at hr
          obtain ⟨u, hu, hr⟩ := hr
          have A1 := hid (show Fr nob wr (wr.alloc (.cells #[.string ⟨#[125]⟩] 9)) from (Fr.refl nob wr).alloc _)
          have HI1 := hid ((HQ.out.q.no A1.out).is1 ⟨#[125]⟩ (Blk.new wr _ _) (z := false) (by simpa using hm))
          have hu1 := run_one _ _ _ _ hu trivial
          have hp := stmt_puts hu
          have hle := nodes_le (run_ext _ _ _ _ hr)
          have HR2 := hid hr
          have HB2 := hid (show l'.length ≤ 1000000 by have := HLL.out; have := HN.out; omega)
          have HB3 := hid (show l'.length + 1 ≤ u.2.nodes.length by have := HLL.out; omega)
          have HS := hid (show ∀ wx wy, QS src tb tc ts g (RV R v) wx wy s' ⟨10 * n, N.d⟩ → Calls Tryz.prog 125 #[.pointer (some ⟨g, 0, none⟩)] wy fun e w' => ∃ x : Nat, e = .returned (.int .i64 x) ∧ (u.2.e = 0 → l' ++ [x] = lm ++ u.1) ∧ QS src tb tc ts g (RV R v) wx w' u.2 ⟨10 * n, N.d⟩ from fun wx wy hq => by
            refine (HI.out k (by have := HK.out; omega) (RV R v) wx wy s' u ⟨0, N.d⟩ (hq.zero h0 0) h0 hu (by have := HK.out; have := HN.out; omega)).mono ?_
            rintro e w' ⟨x, he, hx, hs⟩
            exact ⟨x, he, fun e => by rw [HE.out h0, hx e]; exact congrArg (lm ++ ·) hu1.symm, hs.more (by show 10 * k ≤ 10 * n; have := HK.out; omega)⟩)
          obtain ⟨A, c1, hv, hc1, hc2⟩ := HQ.out.own.cap
          generalize hm5 : l'.length = m at *
          subst hv
          have HMM := hid hm5
          clear h0 hm hu hr hu1 hp hle hc1 hc2 hm5 HR HE HLL
          go_wp2_with fail
          refine HI1.out.mono ?_
          rintro e w4 ⟨rfl, h4⟩
          have F4 := hid (A1.out.tr h4)
          have S4 := hid (HQ.out.to (HQ.out.q.here.no F4.out))
          have B4 := hid (B0.out.fr F4.out (fun x => x))
          obtain ⟨k0, k1⟩ := CK.out _ _ S4.out.cell B4.out
          have HX := hid (HS.out w4 w4.drew (S4.out.q.here.no (Fr.refl nob w4).drew))
          have G4 := hid (HG.out.fr F4.out (fun x => x))
          have O4 := hid (HO.out.trans (Other.frR HG.out (FrR.no F4.out)))
          clear h4 x0 c3 hg heb HI1 A1 HS
          go_wp2_with fail
          go_region_law (first
              | (go_simp; go_at_call 125; go_loud (refine HX.out.mono ?_); go_loud (rintro e w5 ⟨x, rfl, hx, h5⟩); go_loud (have HE5 := hid hx); go_loud (have S5 := hid (S4.out.to h5)); go_loud (have B5 := hid (h5.fr.blk B4.out NB.out (by decide))); go_loud (have O5 := hid (O4.out.trans (Other.frR G4.out h5.fr))); go_loud (have K5 := hid (CK.out _ _ S5.out.cell B5.out)); go_loud (have K6 := hid (CK.out _ _ (S5.out.cell.alloc (.cells #[.int .i64 (x : Int)] 3)) (B5.out.alloc (.cells #[.int .i64 (x : Int)] 3)))); have k2 := K5.out.1; have k3 := K6.out.1; have k4 := K5.out.2; clear hx h5)
              | (refine step_append (v := .slice A m c1) (n := m) (m := 1) (xs := ints l') (news := [.int .i64 (x : Nat)]) (by rfl) _ _ (by rfl) TyInts (by rfl) (by rfl) (by have h9 := S5.out.own; rw [HMM.out] at h9; exact h9.alloc _) (Rd.ofBlk (n := 1) (cs := [.int .i64 (x : Nat)]) (Blk.new _ _ _) rfl (by decide)) (by simp [Value.oneCell']) (by have h9 := HB2.out; first | omega | (unfold maxLen; omega)) (by have h9 := HB2.out; first | omega | (unfold maxLen; omega)) ?_; intro A6 c6 w6 ho6 hf6 hv6; go_loud (have HQ6 := hid (S5.out.app (o := .cells #[.int .i64 (x : Int)] 3) (own_snoc (x := x) (l := l') (by rw [HMM.out]; exact ho6)) hf6 hv6)); go_loud (have O6 := hid (O5.out.app S5.out (.cells #[.int .i64 (x : Int)] 3) hf6 (.slice A6 (m + 1) c6))); go_loud (have D6 := hid ((S5.out.cell.alloc (.cells #[.int .i64 (x : Int)] 3)).fr hf6 (fun hm => (S5.out.own.alloc (.cells #[.int .i64 (x : Int)] 3)).blk_ne (S5.out.cell.alloc (.cells #[.int .i64 (x : Int)] 3)) (by decide) hm))); have z0 : w6.cell? ⟨bl, 0, none⟩ = some (.slice A m c1) := (by rw [D6.out.cell 0]; rfl); have z1 := D6.out.frozen 0; clear ho6 hf6 hv6))
          all_goals
            go_wp2_with fail
            go_roundg k
            case measure => omega
            case rel => exact ⟨_, l' ++ [x], lm ++ u.1, u.2, hid (by have := HK.out; omega), HQ6, O6, HR2, hid (by have h9 := HB3.out; rw [List.length_append, HMM.out]; exact h9), HE5⟩
end Go.Proofs.YtlbjicjinnnboaaGreatDoor
/- The program's own parser: a block. -/
namespace Go.Proofs.YtlbjicjinnnboaaGreatDoor
open Go.RowKit
set_option linter.unusedVariables false
set_option linter.unusedSimpArgs false
theorem between_state {src : List UInt8} {ts : List Tok} {n : Nat} {t : Task} {s : PS} {op X : List UInt8} {r : List Nat × PS} (hp : pIs ts op s = true) (hr : run src ts n t (pMust ts op (pDown ts s)) = some r) :
    (s.deep < 16 → run src ts n t (pGo { s with deep := s.deep + 1 }) = some r) ∧
      (16 ≤ s.deep → (pUp (pMust ts X r.2)).e = (pFail ts 21 s).e ∧ (pFail ts 21 s).e ≠ 0 ∧ (pUp (pMust ts X r.2)).place = (pFail ts 21 s).place ∧ (pFail ts 21 s).nodes.length ≤ (pUp (pMust ts X r.2)).nodes.length) := by
  have h0 := (pIs_kind hp).1
  constructor
  · intro hd
    have e1 : pDown ts s = { s with deep := s.deep + 1 } := by
      unfold pDown
      rw [if_neg (by omega)]
    have e2 : pMust ts op (pDown ts s) = pGo { s with deep := s.deep + 1 } := by
      rw [e1]
      unfold pMust
      rw [if_pos (by simpa [pIs, pTok] using hp)]
    rw [← e2]
    exact hr
  · intro hd
    have e1 : pDown ts s = { pFail ts 21 s with deep := s.deep + 1 } := by
      unfold pDown
      rw [if_pos hd]
      simp only [deep_fail]
    have f0 : (pFail ts 21 s).e ≠ 0 := by
      unfold pFail
      rw [if_pos h0]
      exact (by decide : (21 : Nat) ≠ 0)
    have d0 : (pDown ts s).e ≠ 0 := by rw [e1]; exact f0
    have x1 : Ext (pDown ts s) (pMust ts op (pDown ts s)) := (Ext.refl _).must _
    have x2 := x1.trans (run_ext _ _ _ _ hr)
    have x3 : Ext (pDown ts s) (pUp (pMust ts X r.2)) := (x2.must (ts := ts) X).up
    have x4 := x3.err d0
    obtain ⟨x, hx⟩ := x3.nodes
    rw [e1] at x4 hx
    exact ⟨x4.1, f0, x4.2, by rw [hx]; simp⟩
/-- A block's row, as it is found behind its closure. -/
def BlockK (g : Nat) (R : Nat → Prop) (bl b0 : Nat) (s : PS) (l : List Nat) (w : World) : Prop :=
  ∃ A m c l', Blk w bl 27 #[.slice A m c] ∧ Own w 3 1 (.slice A m c) l'.length (ints l') ∧ (s.e = 0 → l' = l) ∧ (∀ k, blk (.slice A m c) = some k → ¬ R k ∧ k ≠ g) ∧ Blk w b0 78 #[.pointer (some ⟨g, 0, none⟩)]
theorem BlockK.frR {g : Nat} {R : Nat → Prop} {bl b0 : Nat} {s : PS} {l : List Nat} {w w' : World} (h : BlockK g R bl b0 s l w) (hbl : bl ≠ g) (hb0 : b0 ≠ g) (f : FrR g w w') : BlockK g R bl b0 s l w' := by
  obtain ⟨A, m, c, l', h1, h2, h3, h4, h5⟩ := h
  refine ⟨A, m, c, l', f.blk h1 hbl (by decide), h2.fr f (fun k hk hm => ?_), h3, h4, f.blk h5 hb0 (by decide)⟩
  rcases hm with e | ⟨_, cs, fz, hc⟩
  · exact (h4 k hk).2 e
  · obtain ⟨cs2, hb⟩ := h2.ty hk
    unfold Blk at hb
    rw [hb] at hc
    injection hc with hc
    injection hc with _ ht
    exact absurd ht (by decide)
set_option maxHeartbeats 3200000 in
set_option maxRecDepth 100000 in
theorem qblock_good {src : ByteArray} {tb tc : Nat} {ts : List Tok} {g n : Nat} (ih : ∀ m, m < n → QDoesS src tb tc ts g m) : QDoesB src tb tc ts g (n + 1) := by
  intro R w0 w s r N h hr hn hnz
  have S0 := hid h
  obtain ⟨cg, hcg⟩ := h.blkg
  have hgl : g < w.heap.size := hcg.lt
  have GL := hid hgl
  have A0 := hid (show Fr nob w (w.alloc (.cells #[.pointer (some ⟨g, 0, none⟩)] 78)) from (Fr.refl nob w).alloc _)
  have B0 := hid (Blk.new w 78 #[.pointer (some ⟨g, 0, none⟩)])
  obtain ⟨W1, hW1⟩ : ∃ W1, W1 = w.alloc (.cells #[.pointer (some ⟨g, 0, none⟩)] 78) := ⟨_, rfl⟩
  rw [← hW1] at A0 B0
  have hsz : W1.heap.size = w.heap.size + 1 := by rw [hW1]; simp
  have HSZ := hid hsz
  have x0 : W1.cell? ⟨w.heap.size, 0, none⟩ = some (.pointer (some ⟨g, 0, none⟩)) := by rw [B0.out.cell 0]; rfl
  have HW := hid hW1
  have hmf : ∀ (fn : Fn) (first cap : Array Value) (w : World), (Instr.makeFunc fn first cap).run Tryz.prog w = .ok (.func fn first cap) w := fun _ _ _ _ => rfl
  have NE := hid (show ∀ k, w.heap.size ≤ k → k ≠ g from fun k hk e => by omega)
  simp only [run] at hr
  by_cases hp : pIs ts [123] s = true
  · rw [if_pos hp] at hr
    simp only [Option.map_eq_some_iff] at hr
    obtain ⟨q, hq, rfl⟩ := hr
    have h0 := (pIs_kind hp).1
    rw [if_pos h0]
    have S1 := hid ((S0.out.no A0.out).here.zero h0 (10 * n))
    have hn2 : (pUp (pMust ts [125] q.2)).nodes.length + 1 + 20 * (n + 1) + 40 ≤ 1000000 := by simpa [pPut] using hnz h0
    have hnm := nodes_up_must (ts := ts) [125] q.2
    have HN := hid (show q.2.nodes.length + 20 * n + 40 ≤ 1000000 by omega)
    have HN2 := hid (show (pUp (pMust ts [125] q.2)).nodes.length + 10 * n ≤ 1000000 by omega)
    have HQ := hid hq
    have HP := hid hp
    have HI := hid ih
    have HUP := hid (show PSOk ts (pUp (pMust ts [125] q.2)) from ((run_ok h.toks _ _ _ _ hq ((h.ok.down h.toks h0).must h.toks _)).must h.toks _).up)
    have HDP := hid (show q.2.e = 0 → q.2.deep = s.deep + 1 from fun _ => by
      have := run_deep _ _ _ _ hq
      rw [deep_must, deep_down] at this
      exact this)
    have H0 := hid h0
    clear h hcg hgl hsz hq hn hnz hn2 hnm h0 hp ih hW1
    go_enter Tryz.func84, Tryz.ntmps84
    go_wp2_with fail
    rw [← HW.out]
    refine S1.out.line.mono ?_
    rintro e w2 ⟨y, rfl, hy, h2⟩
    have S2 := hid h2
    have HY := hid (hy H0.out)
    have L2 := hid S2.out.fr.size
    have B2 := hid (S2.out.fr.blk B0.out (NE.out _ (Nat.le_refl _)) (by decide))
    clear hy h2 x0
    have x2 : w2.cell? ⟨w.heap.size, 0, none⟩ = some (.pointer (some ⟨g, 0, none⟩)) := by rw [B2.out.cell 0]; rfl
    have S3 := hid (S2.out.alloc (.cells #[.slice none 0 0] 27))
    have B3 := hid (B2.out.alloc (.cells #[.slice none 0 0] 27))
    have C3 := hid (Blk.new w2 27 #[.slice none 0 0])
    have x3 : (w2.alloc (.cells #[.slice none 0 0] 27)).cell? ⟨w.heap.size, 0, none⟩ = some (.pointer (some ⟨g, 0, none⟩)) := by rw [B3.out.cell 0]; rfl
    have NL := hid (show w2.heap.size ≠ g from NE.out _ (by have := L2.out; have := HSZ.out; omega))
    have HWI := hid (S3.out.within ⟨#[123]⟩ ⟨#[125]⟩ 124 #[.pointer (some ⟨w.heap.size, 0, none⟩), .pointer (some ⟨w2.heap.size, 0, none⟩)] (s2 := q.2) (n2 := 10 * n) (K := BlockK g R w2.heap.size w.heap.size q.2 q.1)
      (fun _ hd w3 hw3 hf => by
        have hrr := (between_state (X := [125]) HP.out HQ.out).1 hd
        have hb3 := hf.blk B3.out (NE.out _ (Nat.le_refl _)) (by decide)
        have hc3 := hf.blk C3.out NL.out (by decide)
        refine (block1_any (N := ⟨10 * n, N.d + 1⟩) HI.out (QRw.start hw3 hc3 L2.out) (show (pGo { s with deep := s.deep + 1 }).e = 0 from H0.out) hb3 hrr (Nat.zero_le _) HN.out).mono ?_
        rintro e w' ⟨rfl, v', l', hq', he', ho'⟩
        obtain ⟨A, c, hv, _, _⟩ := hq'.own.cap
        obtain ⟨cg', hcg'⟩ := hq'.q.blkg
        refine ⟨rfl, hq'.q.drop (fun k hk => Or.inl hk), fun b t cs hb ht => ho' b t cs hb ?_ ?_ ?_ ?_, A, l'.length, c, l', by rw [← hv]; exact hq'.cell, by rw [← hv]; exact hq'.own, he', fun k hk => ⟨hq'.nr k (by rw [hv]; exact hk), fun e => hq'.own.blk_ne hcg' (by decide) (by rw [hv, hk, e])⟩, ho' _ _ _ hb3 (by decide) (by decide) (by decide) (by decide)⟩
        all_goals rcases ht with rfl | rfl <;> decide)
      (fun w' w'' hf hk => hk.frR NL.out (NE.out _ (Nat.le_refl _)) hf) enters_block1 HDP.out (fun _ => HUP.out))
    go_wp2_with fail
    refine HWI.out.mono ?_
    rintro e w4 ⟨rfl, _, hB, hC⟩
    have Q4 := hid (show QS src tb tc ts g R W1 w4 (pUp (pMust ts [125] q.2)) ⟨10 * n, N.d⟩ ∧ BlockK g R w2.heap.size w.heap.size (pUp (pMust ts [125] q.2)) q.1 w4 from by
      by_cases hd : 16 ≤ s.deep
      · obtain ⟨hqs, hf⟩ := hB HP.out hd
        obtain ⟨e1, e2, e3, e4⟩ := (between_state (X := [125]) HP.out HQ.out).2 hd
        exact ⟨hqs.bad e2 e1 e3 e4 HUP.out, none, 0, 0, [], hf.blk C3.out NL.out (by decide), Own.nil _ _ _, fun e => absurd e (by rw [e1]; exact e2), fun k hk => by simp [blk] at hk, hf.blk B3.out (NE.out _ (Nat.le_refl _)) (by decide)⟩
      · obtain ⟨hqs, A, m, c, l', h1, h2, h3, h4, h5⟩ := hC HP.out (by omega)
        exact ⟨hqs, A, m, c, l', h1, h2, fun e => h3 (((Ext.refl q.2).must (ts := ts) [125]).up.e0 e), h4, h5⟩)
    clear hB hC x2 x3
    obtain ⟨S4, A, m, c, l', h1, h2, h3, h4, h5⟩ := Q4.out
    have S4 := hid S4
    have y4 : w4.cell? ⟨w2.heap.size, 0, none⟩ = some (.slice A m c) := by rw [h1.cell 0]; rfl
    have x4 : w4.cell? ⟨w.heap.size, 0, none⟩ = some (.pointer (some ⟨g, 0, none⟩)) := by rw [h5.cell 0]; rfl
    have HP4 := hid (S4.out.put 18 rfl y (pLine src.data.toList ts s) (fun _ => HY.out) (name := []) rfl (A1 := A) (M := m) (c1 := c) (l := q.1) (fun e => by have h6 := h3 e; subst h6; exact h2) (fun k hk => (h4 k hk).1) HN2.out)
    clear h1 h2 h3 h4 h5
    go_wp2_with fail
    refine HP4.out.mono ?_
    rintro e w5 ⟨x5, rfl, hx, h6⟩
    have S5 := hid h6
    have HX := hid hx
    clear hx h6
    go_wp2_with fail
    go_ret
    exact ⟨x5, rfl, fun e => HX.out e, (S0.out.no A0.out).back (S5.out.more (by show 10 * n ≤ 10 * (n + 1); omega))⟩
  · rw [if_neg hp] at hr
    simp only [Option.some.injEq] at hr
    subst hr
    obtain ⟨M, hM⟩ : ∃ M, M = (if s.e = 0 then 10 * (n + 1) else N.n + 1) := ⟨_, rfl⟩
    rw [← hM]
    have hl : (pFail ts 20 s).nodes.length = s.nodes.length := by unfold pFail; split <;> rfl
    have hn2 : (pFail ts 20 s).nodes.length + N.n + 40 ≤ 1000000 := hn
    have hn3 : s.e = 0 → (pFail ts 20 s).nodes.length + 20 * (n + 1) + 40 ≤ 1000000 := hnz
    have S1 := hid (show QS src tb tc ts g R W1 W1 s ⟨M - 1, N.d⟩ from by
      by_cases h0 : s.e = 0
      · exact (S0.out.no A0.out).here.zero h0 _
      · exact (S0.out.no A0.out).here.more (by rw [hM, if_neg h0]; show N.n ≤ N.n + 1 - 1; omega))
    have HM := hid (show 1 ≤ M by rw [hM]; split <;> omega)
    have HN := hid (show (pFail ts 20 s).nodes.length + (M - 1) ≤ 1000000 by
      by_cases h0 : s.e = 0
      · have := hn3 h0
        rw [hM, if_pos h0]; omega
      · rw [hM, if_neg h0]; omega)
    have HP := hid (show pIs ts [123] s = false by simpa using hp)
    have HOK := hid h.ok
    have HTK := hid h.toks
    clear h hcg hgl hsz hn hnz hn2 hn3 hl hp ih hW1 hM
    go_enter Tryz.func84, Tryz.ntmps84
    go_wp2_with fail
    rw [← HW.out]
    refine S1.out.line.mono ?_
    rintro e w2 ⟨y, rfl, hy, h2⟩
    have S2 := hid h2
    have L2 := hid S2.out.fr.size
    have B2 := hid (S2.out.fr.blk B0.out (NE.out _ (Nat.le_refl _)) (by decide))
    clear hy h2 x0
    have x2 : w2.cell? ⟨w.heap.size, 0, none⟩ = some (.pointer (some ⟨g, 0, none⟩)) := by rw [B2.out.cell 0]; rfl
    have S3 := hid (S2.out.alloc (.cells #[.slice none 0 0] 27))
    have B3 := hid (B2.out.alloc (.cells #[.slice none 0 0] 27))
    have C3 := hid (Blk.new w2 27 #[.slice none 0 0])
    have x3 : (w2.alloc (.cells #[.slice none 0 0] 27)).cell? ⟨w.heap.size, 0, none⟩ = some (.pointer (some ⟨g, 0, none⟩)) := by rw [B3.out.cell 0]; rfl
    have NL := hid (show w2.heap.size ≠ g from NE.out _ (by have := L2.out; have := HSZ.out; omega))
    have HWI := hid (S3.out.within ⟨#[123]⟩ ⟨#[125]⟩ 124 #[.pointer (some ⟨w.heap.size, 0, none⟩), .pointer (some ⟨w2.heap.size, 0, none⟩)] (s2 := { s with deep := s.deep + 1 }) (n2 := 0) (K := fun _ => True)
      (fun hp => absurd (HP.out.symm.trans hp) (by decide)) (fun _ _ _ _ => trivial) enters_block1 (fun _ => rfl) (fun hd => by
        have k : PSOk ts { s with deep := s.deep + 1 } := ⟨HOK.out.room, by show s.deep + 1 ≤ 17; omega, fun e => by show s.deep + 1 ≤ 16; omega, HOK.out.err, HOK.out.place⟩
        exact (k.must HTK.out _).up))
    go_wp2_with fail
    refine HWI.out.mono ?_
    rintro e w4 ⟨rfl, hA, _, _⟩
    obtain ⟨hq, hf⟩ := hA HP.out
    have S4 := hid hq
    have x4 : w4.cell? ⟨w.heap.size, 0, none⟩ = some (.pointer (some ⟨g, 0, none⟩)) := by rw [(hf.blk B3.out (NE.out _ (Nat.le_refl _)) (by decide)).cell 0]; rfl
    have y4 : w4.cell? ⟨w2.heap.size, 0, none⟩ = some (.slice none 0 0) := by rw [(hf.blk C3.out NL.out (by decide)).cell 0]; rfl
    have HP4 := hid (S4.out.putBad pFail_ne 18 rfl y (name := []) rfl (A1 := none) (M := 0) (c1 := 0) HN.out)
    clear hA hq hf x2 x3
    go_wp2_with fail
    refine HP4.out.mono ?_
    rintro e w5 ⟨x5, rfl, h6⟩
    have S5 := hid h6
    clear h6
    go_wp2_with fail
    go_ret
    exact ⟨x5, rfl, fun e => absurd e pFail_ne, (S0.out.no A0.out).back (S5.out.more (by show M - 1 + 1 ≤ M; have := HM.out; omega))⟩
end Go.Proofs.YtlbjicjinnnboaaGreatDoor
