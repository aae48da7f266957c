/- MK: BkL, BkR, BkN, BkE, BkX, BkY, BkS, BkT, BkU, BkV. -/
import Derived.Test.YtahhgnbiahomiaaDoorMF
/- Back: a text made of pieces is read as these. -/
namespace Go.Proofs.YtahhgnbiahomiaaDoor
open Go.RowKit
set_option linter.unusedVariables false
set_option linter.unusedSimpArgs false
/-- A token's kind, its text, and the blank behind it. -/
structure Pc where
  kind : Nat
  text : List UInt8
  gap : List UInt8
def Pc.lexeme (p : Pc) : List UInt8 := if p.kind = 2 then 34 :: (p.text ++ [34]) else p.text
def Pc.show (p : Pc) : List UInt8 := p.lexeme ++ p.gap
def Pc.fb (p : Pc) : UInt8 := p.lexeme.headD 0
def rend (l : List Pc) : List UInt8 := l.flatMap Pc.show
structure Pc.Val (p : Pc) : Prop where
  num : p.kind = 1 → p.text ≠ [] ∧ allDigits p.text ∧ numOk p.text = true
  text : p.kind = 2 → TextOk p.text
  name : p.kind = 3 → NameOk p.text
  word : p.kind = 4 → wordB p.text = true
  sign : p.kind = 5 → twoB p.text = true ∨ ∃ c, p.text = [c] ∧ oneB c.toNat = true
  gap : p.gap = [] ∨ p.gap = [32] ∨ p.gap = [10]
  kind : 1 ≤ p.kind ∧ p.kind ≤ 5
/-- What may stand behind a piece. -/
def Pc.next (p : Pc) (c : UInt8) : Prop := p.gap ≠ [] ∨
  ((p.kind = 1 → digitI c.toNat = false) ∧ (p.kind = 3 ∨ p.kind = 4 → withinI c.toNat = false) ∧ (p.kind = 5 → p.text.length = 2 ∨ (twoB [p.text.headD 0, c] = false ∧ ¬ (p.text = [47] ∧ c = 47))))
def lexes : List Pc → Prop
  | [] => True
  | p :: l => p.Val ∧ (∀ q ∈ l.head?, p.next q.fb) ∧ lexes l
theorem lexes_append : ∀ {a b : List Pc}, lexes a → lexes b → (∀ p ∈ a.getLast?, ∀ q ∈ b.head?, p.next q.fb) → lexes (a ++ b)
  | [], b, _, hb, _ => hb
  | [p], b, ha, hb, h => ⟨ha.1, fun q hq => h p rfl q hq, hb⟩
  | p :: p2 :: a, b, ha, hb, h => ⟨ha.1, ha.2.1, lexes_append (a := p2 :: a) ha.2.2 hb (fun x hx => h x (by simpa using hx))⟩
theorem lexes_one {p : Pc} (h : p.Val) : lexes [p] := ⟨h, fun q hq => (by cases hq), trivial⟩
theorem lexes_cons {p : Pc} {l : List Pc} (h : p.Val) (hl : lexes l) (hn : ∀ q ∈ l.head?, p.next q.fb) : lexes (p :: l) := ⟨h, hn, hl⟩
def toksP : List Pc → Nat → List Tok
  | [], n => [⟨0, [], n⟩]
  | p :: l, n => ⟨p.kind, p.text, n⟩ :: toksP l (n + p.show.length)
theorem word_shape {t : List UInt8} (h : wordB t = true) : t ≠ [] ∧ (∀ b ∈ t, withinI b.toNat = true) ∧ letterI (t.headD 0).toNat = true := by
  have h2 : t ∈ wordsS.map fun b => b.data.toList := of_decide_eq_true h
  have key : ∀ y ∈ (wordsS.map fun b => b.data.toList), y ≠ [] ∧ (y.all fun b => withinI b.toNat) = true ∧ letterI (y.headD 0).toNat = true := by decide
  obtain ⟨a, b, c⟩ := key t h2
  exact ⟨a, fun x hx => List.all_eq_true.1 b x hx, c⟩
theorem two_shape {t : List UInt8} (h : twoB t = true) : t.length = 2 ∧ (33 ≤ (t.headD 0).toNat) ∧ t.headD 0 ≠ 47 ∧ t.headD 0 ≠ 34 ∧ digitI (t.headD 0).toNat = false ∧ letterI (t.headD 0).toNat = false := by
  have h2 : t ∈ twosS.map fun b => b.data.toList := of_decide_eq_true h
  exact (by decide : ∀ t ∈ (twosS.map fun b => b.data.toList), t.length = 2 ∧ (33 ≤ (t.headD 0).toNat) ∧ t.headD 0 ≠ 47 ∧ t.headD 0 ≠ 34 ∧ digitI (t.headD 0).toNat = false ∧ letterI (t.headD 0).toNat = false) t h2
theorem one_shape {c : UInt8} (h : oneB c.toNat = true) : 33 ≤ c.toNat ∧ c ≠ 34 ∧ digitI c.toNat = false ∧ letterI c.toNat = false := by
  have hm : c ∈ onesS.data.toList := by
    unfold oneB at h
    have h2 := of_decide_eq_true h
    have : ((c.toNat : Int)).toNat.toUInt8 = c := by simp
    rw [this] at h2
    exact (idx_mem _ _).1 h2
  exact (by decide : ∀ c ∈ onesS.data.toList, 33 ≤ c.toNat ∧ c ≠ 34 ∧ digitI c.toNat = false ∧ letterI c.toNat = false) c hm
theorem run_exact {q : Int → Bool} {a r : List UInt8} (ha : ∀ b ∈ a, q b.toNat = true) (hr : ∀ c ∈ r.head?, q c.toNat = false) : runN q (a ++ r) = a.length := by
  rw [runN_append q a r ha]
  cases r with
  | nil => rfl
  | cons c r => rw [runN_zero q c r (hr c rfl)]; rfl
theorem byteAt_head {l : List UInt8} : byteAt l 0 = ((l.headD 0).toNat : Int) := by cases l <;> rfl
/-- A piece is the first token. -/
theorem first_piece {p : Pc} (hv : p.Val) {r : List UInt8} (hr : ∀ c ∈ r.head?, Pc.next ⟨p.kind, p.text, []⟩ c) :
    blankI (byteAt (p.lexeme ++ r) 0) = false ∧ remarkB (p.lexeme ++ r) = false ∧ ∃ o m, firstM (p.lexeme ++ r) = .ok p.kind o m p.lexeme.length ∧ ((p.lexeme ++ r).drop o).take m = p.text ∧ p.lexeme ≠ [] := by
  obtain ⟨k, t, g⟩ := p
  have hk := hv.kind
  have hn : ∀ c ∈ r.head?, (k = 1 → digitI c.toNat = false) ∧ (k = 3 ∨ k = 4 → withinI c.toNat = false) ∧ (k = 5 → t.length = 2 ∨ (twoB [t.headD 0, c] = false ∧ ¬ (t = [47] ∧ c = 47))) := fun c hc => by
    rcases hr c hc with h | h
    · exact absurd rfl h
    · exact h
  simp only [Pc.lexeme]
  dsimp only at hk
  rcases (by omega : k = 1 ∨ k = 2 ∨ k = 3 ∨ k = 4 ∨ k = 5) with rfl | rfl | rfl | rfl | rfl
  · rw [if_neg (by decide)]
    obtain ⟨h0, hd, ho⟩ := hv.num rfl
    have hd : ∀ b ∈ t, digitI b.toNat = true := fun b hb => by have := hd b hb; unfold digitI; simp; omega
    have hrun := run_exact hd (fun c hc => (hn c hc).1 rfl)
    cases t with
    | nil => exact absurd rfl h0
    | cons a t =>
      have ha := hd a List.mem_cons_self
      have ha2 : 48 ≤ a.toNat ∧ a.toNat ≤ 57 := by unfold digitI at ha; simp at ha; omega
      refine ⟨by show blankI (a.toNat : Int) = false; exact blank_not (by omega), remark_not (c := a) (r := t ++ r) (by omega), 0, (a :: t).length, ?_, by simp, h0⟩
      unfold firstM
      rw [if_pos (show digitI (byteAt (a :: t ++ r) 0) = true from ha)]
      unfold numberM
      rw [hrun, List.take_left, if_pos ho]
  · rw [if_pos rfl]
    obtain ⟨hp, hs⟩ := hv.text rfl
    have e : (34 : UInt8) :: (t ++ [34]) ++ r = 34 :: (t ++ 34 :: r) := by simp
    rw [e]
    obtain ⟨a, b, c⟩ := first_quote (t ++ 34 :: r)
    have hq : NoQ t := fun b hb => by
      have h1 : plainI b.toNat = true := hp b hb
      unfold plainI at h1
      simp at h1
      omega
    have hf : fineB t = true := by
      unfold fineB
      rw [List.all_eq_true]
      intro b hb
      have h1 : plainI b.toNat = true := hp b hb
      unfold plainI at h1
      simp at h1 ⊢
      omega
    have h12 : t.length ≤ 12 := hs
    refine ⟨a, b, 1, t.length, ?_, by simp, by simp⟩
    rw [c, textM_good hq hf, if_neg (by omega)]
    simp
  · rw [if_neg (by decide)]
    have hno := hv.name rfl
    have h0 : t ≠ [] := hno.some
    have hw : ∀ b ∈ t, withinI b.toNat = true := hno.name.all
    have hrun := run_exact hw (fun c hc => (hn c hc).2.1 (.inl rfl))
    have hpos : 0 < t.length := List.length_pos_iff.2 h0
    have hl : letterI (byteAt (t ++ r) 0) = true := by
      have := hno.name.first hpos
      rw [byteAt_head] at this ⊢
      cases t with
      | nil => exact absurd rfl h0
      | cons a t => exact this
    obtain ⟨a, b, c⟩ := first_name (l := t ++ r) (by rw [List.length_append]; omega) hl
    refine ⟨a, b, 0, t.length, ?_, by simp, h0⟩
    rw [c]
    unfold nameM
    rw [hrun, List.take_left]
    have h8 : t.length ≤ 8 := hno.short
    have hwd : wordB t = false := hno.word
    rw [hwd, if_neg (by decide), if_neg (by omega)]
  · rw [if_neg (by decide)]
    have hwd : wordB t = true := hv.word rfl
    obtain ⟨h0, hw, hl0⟩ := word_shape hwd
    have hrun := run_exact hw (fun c hc => (hn c hc).2.1 (.inr rfl))
    have hpos : 0 < t.length := List.length_pos_iff.2 h0
    have hl : letterI (byteAt (t ++ r) 0) = true := by
      rw [byteAt_head]
      cases t with
      | nil => exact absurd rfl h0
      | cons a t => exact hl0
    obtain ⟨a, b, c⟩ := first_name (l := t ++ r) (by rw [List.length_append]; omega) hl
    refine ⟨a, b, 0, t.length, ?_, by simp, h0⟩
    rw [c]
    unfold nameM
    rw [hrun, List.take_left, hwd, if_pos rfl]
  · rw [if_neg (by decide)]
    have sgn : ∀ (u : List UInt8), 33 ≤ (u.headD 0).toNat → u.headD 0 ≠ 34 → digitI (u.headD 0).toNat = false → letterI (u.headD 0).toNat = false → blankI (byteAt u 0) = false ∧ firstM u = signM u := fun u h1 h2 h3 h4 => by
      refine ⟨by rw [byteAt_head]; exact blank_not h1, ?_⟩
      have h5 : ¬ (byteAt u 0 == 34) = true := by
        rw [byteAt_head]
        intro e
        have e2 := beq_iff_eq.1 e
        exact h2 (UInt8.toNat_inj.1 (by (have : (34 : UInt8).toNat = 34 := rfl); omega))
      unfold firstM
      rw [byteAt_head] at h5 ⊢
      rw [h3, h4, if_neg (by decide), if_neg (by decide), if_neg h5]
    rcases hv.sign rfl with h2 | ⟨c, hc, ho⟩
    · have h2 : twoB t = true := h2
      obtain ⟨e2, a1, a2, a3, a4, a5⟩ := two_shape h2
      have hh : (t ++ r).headD 0 = t.headD 0 := by
        cases t with
        | nil => simp at e2
        | cons a t => rfl
      obtain ⟨b1, b2⟩ := sgn (t ++ r) (by rw [hh]; exact a1) (by rw [hh]; exact a3) (by rw [hh]; exact a4) (by rw [hh]; exact a5)
      have hrm : remarkB (t ++ r) = false := by
        cases t with
        | nil => simp at e2
        | cons a t => exact remark_not (c := a) (r := t ++ r) (fun e => a2 (UInt8.toNat_inj.1 e))
      refine ⟨b1, hrm, 0, 2, ?_, by rw [List.drop_zero, ← e2, List.take_left], by intro e; rw [e] at e2; simp at e2⟩
      rw [b2]
      unfold signM
      have ht : (t ++ r).take 2 = t := by rw [← e2, List.take_left]
      rw [if_pos ⟨by rw [List.length_append]; omega, by rw [ht]; exact h2⟩, e2]
    · have hc : t = [c] := hc
      subst hc
      obtain ⟨a1, a3, a4, a5⟩ := one_shape ho
      obtain ⟨b1, b2⟩ := sgn ([c] ++ r) a1 a3 a4 a5
      have hrm : remarkB ([c] ++ r) = false := by
        by_cases h47 : c = 47
        · subst h47
          cases r with
          | nil => rfl
          | cons d r =>
            have h3 := (hn d rfl).2.2 rfl
            rcases h3 with h3 | ⟨_, h3⟩
            · simp at h3
            · have hd : d ≠ 47 := fun e => h3 ⟨rfl, e⟩
              show Lib.hasPrefix (47 :: d :: r) [47, 47] = false
              unfold Lib.hasPrefix
              rw [List.isPrefixOf, List.isPrefixOf, show ((47 : UInt8) == d) = false from beq_eq_false_iff_ne.2 (fun e => hd e.symm)]
              rfl
        · exact remark_not (c := c) (r := r) (fun e => h47 (UInt8.toNat_inj.1 e))
      refine ⟨b1, hrm, 0, 1, ?_, by simp, by simp⟩
      rw [b2]
      unfold signM
      have hnt : ¬ (1 < ([c] ++ r).length ∧ twoB (([c] ++ r).take 2) = true) := by
        rintro ⟨h1, h2⟩
        cases r with
        | nil => simp at h1
        | cons d r =>
          rcases (hn d rfl).2.2 rfl with h3 | ⟨h3, _⟩
          · simp at h3
          · have h4 : twoB [c, d] = false := h3
            have h5 : twoB [c, d] = true := h2
            rw [h4] at h5; cases h5
      rw [if_neg hnt, if_pos (show oneB (byteAt ([c] ++ r) 0) = true from ho)]
      rfl
theorem lex_gap1 {g r : List UInt8} {n : Nat} (h : g = [] ∨ g = [32] ∨ g = [10]) : lexFrom (g ++ r) n = lexFrom r (n + g.length) := by
  rcases h with rfl | rfl | rfl
  · rfl
  · exact lex_blank (l := 32 :: r) (by simp) (show blankI ((32 : UInt8).toNat : Int) = true by decide)
  · exact lex_blank (l := 10 :: r) (by simp) (show blankI ((10 : UInt8).toNat : Int) = true by decide)
theorem rend_cons (p : Pc) (l : List Pc) : rend (p :: l) = p.show ++ rend l := by unfold rend; rw [List.flatMap_cons]
/-- A text of pieces has the tokens. -/
theorem lex_pieces : ∀ (l : List Pc) (n : Nat), lexes l → lexFrom (rend l) n = .good (toksP l n)
  | [], n, _ => by show lexFrom [] n = _; rw [lex_nil]; rfl
  | p :: l, n, h => by
    obtain ⟨hv, hn, hl⟩ := h
    have ih := lex_pieces l (n + p.show.length) hl
    have e : rend (p :: l) = p.lexeme ++ (p.gap ++ rend l) := by rw [rend_cons]; unfold Pc.show; rw [List.append_assoc]
    have hr : ∀ c ∈ (p.gap ++ rend l).head?, Pc.next ⟨p.kind, p.text, []⟩ c := fun c hc => by
      right
      rcases hv.gap with hg | hg | hg
      · rw [hg] at hc
        cases l with
        | nil => cases hc
        | cons q l =>
          have hq := hn q rfl
          rw [List.nil_append, rend_cons] at hc
          have hne : q.lexeme ≠ [] := (first_piece (r := []) hl.1 (fun c hc => by cases hc)).2.2.choose_spec.choose_spec.2.2
          have hfb : c = q.fb := by
            unfold Pc.fb
            unfold Pc.show at hc
            cases hx : q.lexeme with
            | nil => exact absurd hx hne
            | cons a t => rw [hx] at hc; simp at hc; exact hc.symm
          subst hfb
          rcases hq with hq | hq
          · exact absurd hg hq
          · exact hq
      · rw [hg] at hc
        simp at hc
        subst hc
        refine ⟨fun _ => by decide, fun _ => by decide, fun h5 => ?_⟩
        rcases hv.sign h5 with h2 | ⟨d, hd, _⟩
        · exact .inl (two_shape h2).1
        · right
          dsimp only
          rw [hd]
          exact ⟨(by
            show isIn twosS [d, 32] = false
            unfold isIn
            rw [decide_eq_false]
            intro hm
            simp [wordsS, twosS] at hm), fun e => by have := e.2; revert this; decide⟩
      · rw [hg] at hc
        simp at hc
        subst hc
        refine ⟨fun _ => by decide, fun _ => by decide, fun h5 => ?_⟩
        rcases hv.sign h5 with h2 | ⟨d, hd, _⟩
        · exact .inl (two_shape h2).1
        · right
          dsimp only
          rw [hd]
          exact ⟨(by
            show isIn twosS [d, 10] = false
            unfold isIn
            rw [decide_eq_false]
            intro hm
            simp [wordsS, twosS] at hm), fun e => by have := e.2; revert this; decide⟩
    obtain ⟨b1, b2, o, m, b3, b4, b5⟩ := first_piece hv hr
    rw [e, lex_ok (by rw [List.length_append]; have := List.length_pos_iff.2 b5; omega) b1 b2 b3, b4, List.drop_left, lex_gap1 hv.gap, Nat.add_assoc, show p.lexeme.length + p.gap.length = p.show.length by unfold Pc.show; rw [List.length_append], ih]
    rfl
end Go.Proofs.YtahhgnbiahomiaaDoor
/- Back: what the parser comes to, whatever its fuel. -/
namespace Go.Proofs.YtahhgnbiahomiaaDoor
open Go.RowKit
set_option linter.unusedVariables false
set_option linter.unusedSimpArgs false
def LeO {α : Type} (a b : Option α) : Prop := ∀ r, a = some r → b = some r
theorem LeO.refl {α : Type} (a : Option α) : LeO a a := fun _ h => h
theorem LeO.map {α β : Type} {a b : Option α} (h : LeO a b) (f : α → β) : LeO (a.map f) (b.map f) := fun r hr => by
  rw [Option.map_eq_some_iff] at hr ⊢
  obtain ⟨q, hq, e⟩ := hr
  exact ⟨q, h q hq, e⟩
theorem LeO.bind {α β : Type} {a b : Option α} {f g : α → Option β} (h : LeO a b) (hf : ∀ q, LeO (f q) (g q)) : LeO (a.bind f) (b.bind g) := fun r hr => by
  rw [Option.bind_eq_some_iff] at hr ⊢
  obtain ⟨q, hq, e⟩ := hr
  exact ⟨q, h q hq, hf q r e⟩
theorem LeO.ite {α : Type} {c : Prop} [Decidable c] {a b a' b' : Option α} (h : LeO a a') (g : LeO b b') : LeO (if c then a else b) (if c then a' else b') := by
  split
  · exact h
  · exact g
section
variable {src : List UInt8} {ts : List Tok}
theorem run_le {n m : Nat} (ih : ∀ k s, LeO (run src ts n k s) (run src ts m k s)) (k : Task) (s : PS) : LeO (run src ts (n + 1) k s) (run src ts (m + 1) k s) := by
  cases k <;> simp only [run] <;>
    (repeat (first
      | exact ih _ _
      | exact LeO.refl _
      | apply LeO.ite
      | apply LeO.map
      | (apply LeO.bind)
      | intro _))
theorem run_step : ∀ (n : Nat) (k : Task) (s : PS), LeO (run src ts n k s) (run src ts (n + 1) k s)
  | 0, _, _ => fun r h => by simp [run] at h
  | n + 1, k, s => run_le (run_step n) k s
theorem run_mono {n m : Nat} (h : n ≤ m) (k : Task) (s : PS) : LeO (run src ts n k s) (run src ts m k s) := by
  induction h with
  | refl => exact LeO.refl _
  | step _ ih => exact fun r hr => run_step _ _ _ r (ih r hr)
variable (src ts) in
/-- What a task comes to. -/
def Runs (k : Task) (s : PS) (r : List Nat × PS) : Prop := ∃ n, run src ts n k s = some r
variable {s : PS} {q r : List Nat × PS} {k : Task}
theorem Runs.det (h : Runs src ts k s q) (g : Runs src ts k s r) : q = r := by
  obtain ⟨n, hn⟩ := h
  obtain ⟨m, hm⟩ := g
  have a := run_mono (Nat.le_max_left n m) k s _ hn
  have b := run_mono (Nat.le_max_right n m) k s _ hm
  rw [a] at b; exact Option.some.inj b
theorem Runs.total (hk : okTask k) (s : PS) : ∃ r, Runs src ts k s r := by
  obtain ⟨r, hr⟩ := run_some (src := src) (ts := ts) _ k s hk (Nat.le_refl _)
  exact ⟨r, _, hr⟩
theorem Runs.ext (h : Runs src ts k s r) : Ext s r.2 := run_ext _ _ _ _ h.choose_spec
theorem Runs.two {k2 : Task} {s2 : PS} (h : Runs src ts k s q) (g : Runs src ts k2 s2 r) : ∃ n, run src ts n k s = some q ∧ run src ts n k2 s2 = some r := by
  obtain ⟨n, hn⟩ := h
  obtain ⟨m, hm⟩ := g
  exact ⟨max n m, run_mono (Nat.le_max_left n m) k s _ hn, run_mono (Nat.le_max_right n m) k2 s2 _ hm⟩
theorem Runs.three {k2 k3 : Task} {s2 s3 : PS} {u : List Nat × PS} (h : Runs src ts k s q) (g : Runs src ts k2 s2 r) (f : Runs src ts k3 s3 u) : ∃ n, run src ts n k s = some q ∧ run src ts n k2 s2 = some r ∧ run src ts n k3 s3 = some u := by
  obtain ⟨n, hn, hm⟩ := h.two g
  obtain ⟨m, hl⟩ := f
  exact ⟨max n m, run_mono (Nat.le_max_left n m) k s _ hn, run_mono (Nat.le_max_left n m) k2 s2 _ hm, run_mono (Nat.le_max_right n m) k3 s3 _ hl⟩
/-- What is next: kinds and texts. -/
def kt (t : Tok) : Nat × List UInt8 := (t.kind, t.text)
variable (ts) in
def rest (i : Nat) : List (Nat × List UInt8) := (ts.drop i).map kt
theorem rest_hd (s : PS) : ((pTok ts s).kind, (pTok ts s).text) = (rest ts s.i).headD (0, []) := by
  unfold pTok rest
  rw [List.getD]
  by_cases h : s.i < ts.length
  · rw [List.getElem?_eq_getElem h, List.drop_eq_getElem_cons h]; rfl
  · rw [List.getElem?_eq_none (by omega), List.drop_eq_nil_of_le (by omega)]; rfl
theorem rest_go {i : Nat} {a : Nat × List UInt8} {R : List (Nat × List UInt8)} (h : rest ts i = a :: R) : rest ts (i + 1) = R := by
  unfold rest at h ⊢
  have := congrArg List.tail h
  rw [← List.map_tail, List.tail_drop] at this
  exact this
theorem rest_add {i : Nat} : ∀ {K R : List (Nat × List UInt8)}, rest ts i = K ++ R → rest ts (i + K.length) = R := by
  intro K
  induction K generalizing i with
  | nil => intro R h; exact h
  | cons a K ih =>
    intro R h
    have := ih (i := i + 1) (rest_go h)
    rw [List.length_cons, show i + (K.length + 1) = i + 1 + K.length by omega]
    exact this
section
variable {kd : Nat} {x : List UInt8} {R : List (Nat × List UInt8)}
theorem tok_kind (h : rest ts s.i = (kd, x) :: R) : (pTok ts s).kind = kd ∧ (pTok ts s).text = x := by
  have := rest_hd (ts := ts) s
  rw [h] at this
  exact ⟨congrArg Prod.fst this, congrArg Prod.snd this⟩
theorem is_eq (he : s.e = 0) (h : rest ts s.i = (kd, x) :: R) (y : List UInt8) : pIs ts y s = ((decide (kd = 5) || decide (kd = 4)) && decide (x = y)) := by
  obtain ⟨a, b⟩ := tok_kind h
  unfold pIs
  rw [a, b, decide_eq_true he, Bool.true_and]
theorem is_yes (he : s.e = 0) (h : rest ts s.i = (5, x) :: R) : pIs ts x s = true := by rw [is_eq he h]; simp
theorem is_word (he : s.e = 0) (h : rest ts s.i = (4, x) :: R) : pIs ts x s = true := by rw [is_eq he h]; simp
theorem is_no (he : s.e = 0) (h : rest ts s.i = (kd, x) :: R) {y : List UInt8} (hn : x ≠ y) : pIs ts y s = false := by rw [is_eq he h, decide_eq_false hn, Bool.and_false]
theorem is_noK (he : s.e = 0) (h : rest ts s.i = (kd, x) :: R) {y : List UInt8} (hn : kd ≠ 5 ∧ kd ≠ 4) : pIs ts y s = false := by rw [is_eq he h, decide_eq_false hn.1, decide_eq_false hn.2]; rfl
theorem kind_eq (he : s.e = 0) (h : rest ts s.i = (kd, x) :: R) (k : Nat) : pKind ts k s = decide (kd = k) := by
  obtain ⟨a, b⟩ := tok_kind h
  unfold pKind
  rw [a, decide_eq_true he, Bool.true_and]
theorem must_ok (he : s.e = 0) (h : rest ts s.i = (5, x) :: R) : pMust ts x s = pGo s := by unfold pMust; rw [is_yes he h]; rfl
theorem must_okw (he : s.e = 0) (h : rest ts s.i = (4, x) :: R) : pMust ts x s = pGo s := by unfold pMust; rw [is_word he h]; rfl
theorem named_ok (he : s.e = 0) (h : rest ts s.i = (3, x) :: R) : pNamed ts s = pGo s ∧ pName ts s = x := by
  unfold pNamed pName
  rw [kind_eq he h]
  exact ⟨rfl, (tok_kind h).2⟩
theorem word_ok (he : s.e = 0) (h : rest ts s.i = (4, x) :: R) : pWord ts s = x := by
  unfold pWord
  rw [kind_eq he h]
  exact (tok_kind h).2
theorem word_no (he : s.e = 0) (h : rest ts s.i = (kd, x) :: R) (hk : kd ≠ 4) : pWord ts s = [] := by
  unfold pWord
  rw [kind_eq he h, decide_eq_false hk]; rfl
end
theorem down_ok (h : s.deep < 16) : pDown ts s = { s with deep := s.deep + 1 } := by
  unfold pDown
  simp only
  rw [if_neg (by omega)]
theorem down_bad (he : s.e = 0) (h : 16 ≤ s.deep) : (pDown ts s).e = 21 := by
  unfold pDown
  simp only
  rw [if_pos h]
  unfold pFail
  rw [if_pos he]
theorem stuck {t : PS} (h : Ext s t) (he : s.e = 21) : t.e = 21 := by rw [(h.err (by rw [he]; decide)).1, he]
/-- A task that comes to 'too deep'. -/
def Bad (src : List UInt8) (ts : List Tok) (k : Task) (s : PS) : Prop := ∃ r, Runs src ts k s r ∧ r.2.e = 21
theorem Bad.of (hk : okTask k) (he : s.e = 21) : Bad src ts k s := by
  obtain ⟨r, hr⟩ := Runs.total (src := src) (ts := ts) hk s
  exact ⟨r, hr, stuck hr.ext he⟩
/-- Its last step. -/
theorem Bad.map {k2 : Task} {s2 : PS} {f : List Nat × PS → List Nat × PS} (h : Bad src ts k s) (rule : ∀ q, Runs src ts k s q → Runs src ts k2 s2 (f q)) (hf : ∀ q, q.2.e = 21 → (f q).2.e = 21) : Bad src ts k2 s2 := by
  obtain ⟨q, hq, he⟩ := h
  exact ⟨f q, rule q hq, hf q he⟩
theorem Bad.bind {k2 : Task} {s2 : PS} {kf : List Nat × PS → Task} {f : List Nat × PS → PS} (h : Bad src ts k s) (rule : ∀ q r, Runs src ts k s q → Runs src ts (kf q) (f q) r → Runs src ts k2 s2 r) (hk : ∀ q, okTask (kf q)) (hf : ∀ q, q.2.e = 21 → (f q).e = 21) : Bad src ts k2 s2 := by
  obtain ⟨q, hq, he⟩ := h
  obtain ⟨r, hr, e2⟩ := Bad.of (src := src) (ts := ts) (hk q) (hf q he)
  exact ⟨r, rule q r hq hr, e2⟩
theorem must21 {x : List UInt8} (he : s.e = 21) : (pMust ts x s).e = 21 := stuck ((Ext.refl s).must (ts := ts) x) he
end
end Go.Proofs.YtahhgnbiahomiaaDoor
/- Back: a tree's text as pieces. -/
namespace Go.Proofs.YtahhgnbiahomiaaDoor
open Go.RowKit
set_option linter.unusedVariables false
set_option linter.unusedSimpArgs false
def sg (x : List UInt8) : Pc := ⟨5, x, []⟩
def sgn (x : List UInt8) : Pc := ⟨5, x, [10]⟩
def kw (x : List UInt8) : Pc := ⟨4, x, []⟩
def kws (x : List UInt8) : Pc := ⟨4, x, [32]⟩
def nmP (x : List UInt8) : Pc := ⟨3, x, []⟩
def nmS (x : List UInt8) : Pc := ⟨3, x, [32]⟩
def atP (s : List Pc × Nat) (lv : Nat) : List Pc := if s.2 < lv then sg [40] :: (s.1 ++ [sg [41]]) else s.1
def joinP : List (List Pc) → List Pc
  | [] => []
  | x :: xs => x ++ xs.flatMap (sg [44] :: ·)
def pcsN (s : Nat → List Pc × Nat) (nd : NodeM) : List Pc :=
  match nd.kind with
  | 1 => [⟨1, Lib.itoa nd.n, []⟩]
  | 2 => [kw (if nd.n = 1 then [116, 114, 117, 101] else [102, 97, 108, 115, 101])]
  | 3 => [⟨2, nd.name, []⟩]
  | 4 => [nmP nd.name]
  | 5 => nmP nd.name :: sg [91] :: ((s (nd.l.getD 0 0)).1 ++ [sg [93]])
  | 6 => kw [108, 101, 110] :: sg [40] :: ((s (nd.l.getD 0 0)).1 ++ [sg [41]])
  | 7 => sg [45] :: atP (s (nd.l.getD 0 0)) 5
  | 8 => sg [33] :: atP (s (nd.l.getD 0 0)) 5
  | 9 => atP (s (nd.l.getD 0 0)) (leftLv (signLv nd.name)) ++ (sg nd.name :: atP (s (nd.l.getD 1 0)) (signLv nd.name + 1))
  | 10 => kws [108, 101, 116] :: nmP nd.name :: sg [61] :: ((s (nd.l.getD 0 0)).1 ++ [sgn [59]])
  | 11 => nmP nd.name :: sg [61] :: ((s (nd.l.getD 0 0)).1 ++ [sgn [59]])
  | 12 => nmP nd.name :: sg [91] :: ((s (nd.l.getD 0 0)).1 ++ (sg [93] :: sg [61] :: ((s (nd.l.getD 1 0)).1 ++ [sgn [59]])))
  | 13 => (s (nd.l.getD 0 0)).1 ++ [sgn [59]]
  | 14 => kws [112, 114, 105, 110, 116] :: ((s (nd.l.getD 0 0)).1 ++ [sgn [59]])
  | 15 => kws [105, 102] :: ((s (nd.l.getD 0 0)).1 ++ ((s (nd.l.getD 1 0)).1 ++ (nd.l.drop 2).flatMap (fun c => kw [101, 108, 115, 101] :: (s c).1)))
  | 16 => kws [119, 104, 105, 108, 101] :: ((s (nd.l.getD 0 0)).1 ++ (s (nd.l.getD 1 0)).1)
  | 17 => (if nd.l = [] then kw [114, 101, 116, 117, 114, 110] else kws [114, 101, 116, 117, 114, 110]) :: (nd.l.flatMap (fun c => (s c).1) ++ [sgn [59]])
  | 18 => sgn [123] :: (nd.l.flatMap (fun c => (s c).1) ++ [sgn [125]])
  | 19 => [kw [105, 110, 112, 117, 116]]
  | 20 => kw [110, 101, 119] :: sg [40] :: ((s (nd.l.getD 0 0)).1 ++ [sg [41]])
  | 21 => nmP nd.name :: sg [40] :: (joinP (nd.l.map fun c => (s c).1) ++ [sg [41]])
  | _ => []
def pcN (s : Nat → List Pc × Nat) (nd : NodeM) : List Pc × Nat := (pcsN s nd, levN nd)
def pcV (ns : List NodeM) (x : Nat) : List Pc × Nat := valN pcN ([], 0) ns x
section
variable {ns : List NodeM} {x : Nat} {nd : NodeM}
theorem pcV_eq (h : ns[x]? = some nd) : pcV ns x = pcN (fun i => pcV (ns.take x) i) nd := valN_eq _ _ h
theorem pcV_take {i : Nat} (hi : i < x) : pcV (ns.take x) i = pcV ns i := valN_take _ _ hi
theorem pcV_lev (h : ns[x]? = some nd) : (pcV ns x).2 = levN nd := by rw [pcV_eq h]; rfl
theorem rend_append (a b : List Pc) : rend (a ++ b) = rend a ++ rend b := by unfold rend; rw [List.flatMap_append]
theorem rend_nil : rend [] = [] := rfl
theorem rend_sg (x : List UInt8) (l : List Pc) : rend (sg x :: l) = x ++ rend l := by rw [rend_cons]; simp [sg, Pc.show, Pc.lexeme]
theorem rend_sgn (x : List UInt8) (l : List Pc) : rend (sgn x :: l) = x ++ 10 :: rend l := by rw [rend_cons]; simp [sgn, Pc.show, Pc.lexeme]
theorem rend_kw (x : List UInt8) (l : List Pc) : rend (kw x :: l) = x ++ rend l := by rw [rend_cons]; simp [kw, Pc.show, Pc.lexeme]
theorem rend_kws (x : List UInt8) (l : List Pc) : rend (kws x :: l) = x ++ 32 :: rend l := by rw [rend_cons]; simp [kws, Pc.show, Pc.lexeme]
theorem rend_nmP (x : List UInt8) (l : List Pc) : rend (nmP x :: l) = x ++ rend l := by rw [rend_cons]; simp [nmP, Pc.show, Pc.lexeme]
theorem rend_nmS (x : List UInt8) (l : List Pc) : rend (nmS x :: l) = x ++ 32 :: rend l := by rw [rend_cons]; simp [nmS, Pc.show, Pc.lexeme]
theorem rend_atP {s : List Pc × Nat} {t : List UInt8 × Nat} (h : rend s.1 = t.1) (h2 : s.2 = t.2) (lv : Nat) : rend (atP s lv) = atT t lv := by
  unfold atP atT
  rw [h2]
  split
  · rw [rend_sg, rend_append, rend_sg, rend_nil, h]; rfl
  · exact h
theorem rend_flat {f : Nat → List Pc} {g : Nat → List UInt8} : ∀ {l : List Nat}, (∀ a ∈ l, rend (f a) = g a) → rend (l.flatMap f) = l.flatMap g
  | [], _ => rfl
  | a :: l, h => by rw [List.flatMap_cons, rend_append, h a List.mem_cons_self, rend_flat (fun b hb => h b (List.mem_cons_of_mem _ hb)), List.flatMap_cons]
theorem rend_join (ls : List (List Pc)) : rend (joinP ls) = joinC (ls.map rend) := by
  cases ls with
  | nil => rfl
  | cons a ls =>
    rw [joinP, rend_append, List.map_cons, joinC]
    congr 1
    induction ls with
    | nil => rfl
    | cons b ls ih => rw [List.flatMap_cons, rend_append, ih, rend_sg, List.map_cons, List.flatMap_cons]; rfl
/-- The pieces are the text. -/
theorem rend_pcV (hk : NodesOk ns) : ∀ (x : Nat), x < ns.length → rend (pcV ns x).1 = txt ns x := by
  intro x
  induction x using Nat.strongRecOn with
  | _ x ih =>
    intro hx
    obtain ⟨nd, hnd⟩ : ∃ nd, ns[x]? = some nd := ⟨_, List.getElem?_eq_getElem hx⟩
    have hok := hk x nd hnd
    rw [txt_eq hnd, pcV_eq hnd]
    show rend (pcsN (fun i => pcV (ns.take x) i) nd) = _
    have kid : ∀ {cls : Nat → Bool} {a : Nat}, Kid (ns.take x) cls a → rend (pcV (ns.take x) a).1 = (shV (ns.take x) a).1 ∧ (pcV (ns.take x) a).2 = (shV (ns.take x) a).2 := fun h => by
      obtain ⟨h1, h2⟩ := h.take
      have hlt := h2.lt
      obtain ⟨c, hc, _⟩ := h2
      rw [txt_take h1, pcV_take h1, shV_take h1]
      exact ⟨ih _ h1 hlt, by rw [pcV_lev hc, shV_lev hc]⟩
    generalize pcV (ns.take x) = P at *
    generalize shV (ns.take x) = S at *
    cases hok with
    | int line n h => simp [pcsN, textN, rend, Pc.show, Pc.lexeme]
    | bool line n h => simp only [pcsN, textN]; rw [rend_kw, rend_nil]; simp
    | text line y => simp [pcsN, textN, rend, Pc.show, Pc.lexeme]
    | var line y => simp only [pcsN, textN]; rw [rend_nmP, rend_nil]; simp
    | index line y a h =>
      show rend (nmP y :: sg [91] :: ((P a).1 ++ [sg [93]])) = y ++ [91] ++ (S a).1 ++ [93]
      rw [rend_nmP, rend_sg, rend_append, rend_sg, rend_nil, (kid h).1]; simp
    | len line a h =>
      show rend (kw [108, 101, 110] :: sg [40] :: ((P a).1 ++ [sg [41]])) = [108, 101, 110, 40] ++ (S a).1 ++ [41]
      rw [rend_kw, rend_sg, rend_append, rend_sg, rend_nil, (kid h).1]; simp
    | neg line a h =>
      show rend (sg [45] :: atP (P a) 5) = 45 :: atT (S a) 5
      rw [rend_sg, rend_atP (kid h).1 (kid h).2]; rfl
    | not line a h =>
      show rend (sg [33] :: atP (P a) 5) = 33 :: atT (S a) 5
      rw [rend_sg, rend_atP (kid h).1 (kid h).2]; rfl
    | bin line y a b hy h h2 =>
      show rend (atP (P a) (leftLv (signLv y)) ++ (sg y :: atP (P b) (signLv y + 1))) = atT (S a) (leftLv (signLv y)) ++ y ++ atT (S b) (signLv y + 1)
      rw [rend_append, rend_sg, rend_atP (kid h).1 (kid h).2, rend_atP (kid h2).1 (kid h2).2]; simp
    | let_ line y a h =>
      show rend (kws [108, 101, 116] :: nmP y :: sg [61] :: ((P a).1 ++ [sgn [59]])) = [108, 101, 116, 32] ++ y ++ [61] ++ (S a).1 ++ [59, 10]
      rw [rend_kws, rend_nmP, rend_sg, rend_append, rend_sgn, rend_nil, (kid h).1]; simp
    | set line y a h =>
      show rend (nmP y :: sg [61] :: ((P a).1 ++ [sgn [59]])) = y ++ [61] ++ (S a).1 ++ [59, 10]
      rw [rend_nmP, rend_sg, rend_append, rend_sgn, rend_nil, (kid h).1]; simp
    | put line y a b h h2 =>
      show rend (nmP y :: sg [91] :: ((P a).1 ++ (sg [93] :: sg [61] :: ((P b).1 ++ [sgn [59]])))) = y ++ [91] ++ (S a).1 ++ [93, 61] ++ (S b).1 ++ [59, 10]
      rw [rend_nmP, rend_sg, rend_append, rend_sg, rend_sg, rend_append, rend_sgn, rend_nil, (kid h).1, (kid h2).1]; simp
    | do_ line a h =>
      show rend ((P a).1 ++ [sgn [59]]) = (S a).1 ++ [59, 10]
      rw [rend_append, rend_sgn, rend_nil, (kid h).1]; rfl
    | print line a h =>
      show rend (kws [112, 114, 105, 110, 116] :: ((P a).1 ++ [sgn [59]])) = [112, 114, 105, 110, 116, 32] ++ (S a).1 ++ [59, 10]
      rw [rend_kws, rend_append, rend_sgn, rend_nil, (kid h).1]; simp
    | if2 line a b h h2 =>
      show rend (kws [105, 102] :: ((P a).1 ++ ((P b).1 ++ []))) = [105, 102, 32] ++ (S a).1 ++ (S b).1 ++ []
      rw [rend_kws, rend_append, rend_append, rend_nil, (kid h).1, (kid h2).1]; simp
    | if3 line a b c h h2 h3 =>
      show rend (kws [105, 102] :: ((P a).1 ++ ((P b).1 ++ ((kw [101, 108, 115, 101] :: (P c).1) ++ [])))) = [105, 102, 32] ++ (S a).1 ++ (S b).1 ++ ([101, 108, 115, 101] ++ (S c).1 ++ [])
      rw [rend_kws, rend_append, rend_append, rend_append, rend_kw, rend_nil, (kid h).1, (kid h2).1, (kid h3).1]; simp
    | loop line a b h h2 =>
      show rend (kws [119, 104, 105, 108, 101] :: ((P a).1 ++ (P b).1)) = [119, 104, 105, 108, 101, 32] ++ (S a).1 ++ (S b).1
      rw [rend_kws, rend_append, (kid h).1, (kid h2).1]; simp
    | ret0 line =>
      show rend (kw [114, 101, 116, 117, 114, 110] :: ([] ++ [sgn [59]])) = [114, 101, 116, 117, 114, 110] ++ [] ++ [59, 10]
      rw [rend_kw, List.nil_append, rend_sgn, rend_nil]; rfl
    | ret1 line a h =>
      show rend (kws [114, 101, 116, 117, 114, 110] :: (((P a).1 ++ []) ++ [sgn [59]])) = [114, 101, 116, 117, 114, 110] ++ (32 :: (S a).1 ++ []) ++ [59, 10]
      rw [rend_kws, rend_append, rend_append, rend_sgn, rend_nil, (kid h).1]; simp
    | block line l h =>
      show rend (sgn [123] :: (l.flatMap (fun c => (P c).1) ++ [sgn [125]])) = [123, 10] ++ l.flatMap (fun c => (S c).1) ++ [125, 10]
      rw [rend_sgn, rend_append, rend_flat (fun a ha => (kid (h a ha)).1), rend_sgn, rend_nil]; simp
    | input line =>
      show rend [kw [105, 110, 112, 117, 116]] = [105, 110, 112, 117, 116]
      rw [rend_kw, rend_nil]; rfl
    | new line a h =>
      show rend (kw [110, 101, 119] :: sg [40] :: ((P a).1 ++ [sg [41]])) = [110, 101, 119, 40] ++ (S a).1 ++ [41]
      rw [rend_kw, rend_sg, rend_append, rend_sg, rend_nil, (kid h).1]; simp
    | call line y l h =>
      show rend (nmP y :: sg [40] :: (joinP (l.map fun c => (P c).1) ++ [sg [41]])) = y ++ [40] ++ joinC (l.map fun c => (S c).1) ++ [41]
      rw [rend_nmP, rend_sg, rend_append, rend_join, rend_sg, rend_nil, List.map_map, show (l.map (rend ∘ fun c => (P c).1)) = l.map fun c => (S c).1 from List.map_congr_left fun a ha => (kid (h a ha)).1]; simp
end
/-- Beginnings and ends of expressions. -/
def startB (c : UInt8) : Bool := letterI c.toNat || digitI c.toNat || decide (c ∈ [34, 40, 45, 33])
def Starts (l : List Pc) : Prop := ∃ p r, l = p :: r ∧ startB p.fb = true
def Ends (l : List Pc) : Prop := ∃ p r, l = r ++ [p] ∧ p.gap = [] ∧ (p.kind ≠ 5 ∨ p.text = [41] ∨ p.text = [93])
def EndsG (l : List Pc) : Prop := ∃ p r, l = r ++ [p] ∧ p.gap ≠ []
structure Xp (l : List Pc) : Prop where
  lex : lexes l
  st : Starts l
  en : Ends l
def ourSigns : List (List UInt8) := allSigns ++ [[40], [41], [91], [93], [44], [61], [33], [123], [125], [59]]
theorem sign_val {x : List UInt8} (h : x ∈ ourSigns) {g : List UInt8} (hg : g = [] ∨ g = [32] ∨ g = [10]) : Pc.Val ⟨5, x, g⟩ := by
  refine ⟨fun e => (by cases e), fun e => (by cases e), fun e => (by cases e), fun e => (by cases e), fun _ => ?_, hg, ⟨Nat.le_of_ble_eq_true rfl, Nat.le_of_ble_eq_true rfl⟩⟩
  have := (by decide : ∀ x ∈ ourSigns, twoB x = true ∨ (x = [x.headD 0] ∧ oneB (x.headD 0).toNat = true)) x h
  rcases this with h1 | ⟨h1, h2⟩
  · exact .inl h1
  · exact .inr ⟨_, h1, h2⟩
theorem word_val {x : List UInt8} (h : wordB x = true) {g : List UInt8} (hg : g = [] ∨ g = [32] ∨ g = [10]) : Pc.Val ⟨4, x, g⟩ :=
  ⟨fun e => (by cases e), fun e => (by cases e), fun e => (by cases e), fun _ => h, fun e => (by cases e), hg, ⟨Nat.le_of_ble_eq_true rfl, Nat.le_of_ble_eq_true rfl⟩⟩
theorem name_val {x : List UInt8} (h : NameOk x) {g : List UInt8} (hg : g = [] ∨ g = [32] ∨ g = [10]) : Pc.Val ⟨3, x, g⟩ :=
  ⟨fun e => (by cases e), fun e => (by cases e), fun _ => h, fun e => (by cases e), fun e => (by cases e), hg, ⟨Nat.le_of_ble_eq_true rfl, Nat.le_of_ble_eq_true rfl⟩⟩
theorem text_val {x : List UInt8} (h : TextOk x) : Pc.Val ⟨2, x, []⟩ :=
  ⟨fun e => (by cases e), fun _ => h, fun e => (by cases e), fun e => (by cases e), fun e => (by cases e), .inl rfl, ⟨Nat.le_of_ble_eq_true rfl, Nat.le_of_ble_eq_true rfl⟩⟩
theorem dec_short {n : Nat} (h : n ≤ 9223372036854775807) : numOk (Lib.decDigits n) = true := by
  obtain ⟨a, b, c⟩ := dec_all n
  unfold numOk
  rw [c, decide_eq_true h, Bool.and_true]
  refine decide_eq_true ?_
  have key : ∀ k n, n < 10 ^ (k + 1) → (Lib.decDigits n).length ≤ k + 1 := by
    intro k
    induction k with
    | zero => intro n hn; rw [Lib.decDigits, dif_pos (by omega)]; simp
    | succ k ih =>
      intro n hn
      rw [Lib.decDigits]
      split
      · simp
      · rw [List.length_append]
        have : n / 10 < 10 ^ (k + 1) := by rw [Nat.pow_succ] at hn; omega
        have := ih (n / 10) this
        simp; omega
  exact key 18 n (by omega)
theorem int_val {n : Nat} (h : n ≤ 9223372036854775807) : Pc.Val ⟨1, Lib.itoa n, []⟩ := by
  rw [itoa_dec]
  obtain ⟨a, b, c⟩ := dec_all n
  exact ⟨fun _ => ⟨b, a, dec_short h⟩, fun e => (by cases e), fun e => (by cases e), fun e => (by cases e), fun e => (by cases e), .inl rfl, ⟨Nat.le_of_ble_eq_true rfl, Nat.le_of_ble_eq_true rfl⟩⟩
/-- A sign may stand behind an expression, a name, a word. -/
theorem next_sign' {p : Pc} (hp : p.gap ≠ [] ∨ p.kind ≠ 5 ∨ p.text = [41] ∨ p.text = [93]) {x : List UInt8} (hx : x ∈ ourSigns) {g : List UInt8} : p.next (Pc.fb ⟨5, x, g⟩) := by
  have h1 : digitI (x.headD 0).toNat = false ∧ withinI (x.headD 0).toNat = false := (by decide : ∀ x ∈ ourSigns, digitI (x.headD 0).toNat = false ∧ withinI (x.headD 0).toNat = false) x hx
  have e : Pc.fb ⟨5, x, g⟩ = x.headD 0 := rfl
  rw [e]
  rcases hp with hp | hp
  · exact .inl hp
  · refine .inr ⟨fun _ => h1.1, fun _ => h1.2, fun h5 => .inr ?_⟩
    rcases hp with hp | hp | hp
    · exact absurd h5 hp
    · rw [hp]
      refine ⟨?_, fun e => by have := e.1; revert this; decide⟩
      show isIn twosS [41, x.headD 0] = false
      unfold isIn
      rw [decide_eq_false]
      intro hm
      simp [twosS] at hm
    · rw [hp]
      refine ⟨?_, fun e => by have := e.1; revert this; decide⟩
      show isIn twosS [93, x.headD 0] = false
      unfold isIn
      rw [decide_eq_false]
      intro hm
      simp [twosS] at hm
/-- An expression may stand behind a sign. -/
theorem next_start {x : List UInt8} (hx : x ∈ ourSigns) {g : List UInt8} {c : UInt8} (hc : startB c = true) : Pc.next ⟨5, x, g⟩ c := by
  refine .inr ⟨fun e => (by cases e), fun e => (by rcases e with e | e <;> cases e), fun _ => .inr ⟨?_, fun e => ?_⟩⟩
  · show isIn twosS [x.headD 0, c] = false
    unfold isIn
    rw [decide_eq_false]
    intro hm
    have h2 : c = 124 ∨ c = 38 ∨ c = 61 := by
      simp [twosS] at hm
      rcases hm with h | h | h | h | h <;> simp [h.2]
    rcases h2 with rfl | rfl | rfl <;> revert hc <;> decide
  · have := e.2
    subst this
    revert hc; decide
theorem Xp.one {p : Pc} (hv : p.Val) (hs : startB p.fb = true) (hg : p.gap = []) (hk : p.kind ≠ 5) : Xp [p] := ⟨lexes_one hv, ⟨p, [], rfl, hs⟩, ⟨p, [], rfl, hg, .inl hk⟩⟩
theorem last_of {l : List Pc} (h : Ends l) {p : Pc} (hp : p ∈ l.getLast?) : p.gap = [] ∧ (p.kind ≠ 5 ∨ p.text = [41] ∨ p.text = [93]) := by
  obtain ⟨q, r, rfl, h1, h2⟩ := h
  rw [List.getLast?_append] at hp
  simp at hp
  subst hp
  exact ⟨h1, h2⟩
/-- An expression, and a sign behind it. -/
theorem lex_then {a b : List Pc} {x g : List UInt8} (ha : lexes a) (he : Ends a) (hx : x ∈ ourSigns) (hb : lexes (⟨5, x, g⟩ :: b)) : lexes (a ++ (⟨5, x, g⟩ :: b)) :=
  lexes_append ha hb (fun p hp q hq => by
    simp at hq
    subst hq
    exact next_sign' (.inr (last_of he hp).2) hx)
/-- A sign, and an expression behind it. -/
theorem lex_sign {b : List Pc} {x g : List UInt8} (hx : x ∈ ourSigns) (hg : g = [] ∨ g = [32] ∨ g = [10]) (hb : lexes b) (hs : g = [] → Starts b) : lexes (⟨5, x, g⟩ :: b) :=
  lexes_cons (sign_val hx hg) hb (fun q hq => by
    by_cases h0 : g = []
    · obtain ⟨p, r, rfl, h⟩ := hs h0
      simp at hq
      subst hq
      exact next_start hx h
    · exact .inl h0)
theorem Ends.cons {l : List Pc} (h : Ends l) (p : Pc) : Ends (p :: l) := by
  obtain ⟨q, r, rfl, h1⟩ := h
  exact ⟨q, p :: r, rfl, h1⟩
theorem Ends.app {l : List Pc} (h : Ends l) (a : List Pc) : Ends (a ++ l) := by
  obtain ⟨q, r, rfl, h1⟩ := h
  exact ⟨q, a ++ r, by rw [List.append_assoc], h1⟩
theorem ends_close (a : List Pc) {x : List UInt8} (hx : x = [41] ∨ x = [93]) : Ends (a ++ [sg x]) := ⟨sg x, a, rfl, rfl, .inr hx⟩
theorem Starts.app {l : List Pc} (h : Starts l) (a : List Pc) : Starts (l ++ a) := by
  obtain ⟨p, r, rfl, h1⟩ := h
  exact ⟨p, r ++ a, rfl, h1⟩
theorem lex_close {a : List Pc} (h : Xp a) {x : List UInt8} (hx : x ∈ ourSigns) {g : List UInt8} (hg : g = [] ∨ g = [32] ∨ g = [10]) : lexes (a ++ [⟨5, x, g⟩]) := lex_then h.lex h.en hx (lexes_one (sign_val hx hg))
theorem Xp.par {l : List Pc} (h : Xp l) : Xp (sg [40] :: (l ++ [sg [41]])) :=
  ⟨lex_sign (by decide) (.inl rfl) (lex_close h (by decide) (.inl rfl)) (fun _ => h.st.app _), ⟨_, _, rfl, by decide⟩, (ends_close l (.inl rfl)).cons _⟩
theorem Xp.at {s : List Pc × Nat} (h : Xp s.1) (lv : Nat) : Xp (atP s lv) := by
  unfold atP
  split
  · exact h.par
  · exact h
theorem Xp.pre {l : List Pc} (h : Xp l) {x : List UInt8} (hx : x = [45] ∨ x = [33]) : Xp (sg x :: l) :=
  ⟨lex_sign (by rcases hx with rfl | rfl <;> decide) (.inl rfl) h.lex (fun _ => h.st), ⟨_, _, rfl, by rcases hx with rfl | rfl <;> decide⟩, h.en.cons _⟩
theorem Xp.bin {a b : List Pc} (ha : Xp a) (hb : Xp b) {x : List UInt8} (hx : x ∈ allSigns) : Xp (a ++ (sg x :: b)) :=
  have hx2 : x ∈ ourSigns := List.mem_append_left _ hx
  ⟨lex_then ha.lex ha.en hx2 (lex_sign hx2 (.inl rfl) hb.lex (fun _ => hb.st)), ha.st.app _, (hb.en.cons _).app _⟩
theorem lex_head {p : Pc} (hv : p.Val) (hk : p.gap ≠ [] ∨ p.kind ≠ 5) {x g : List UInt8} {b : List Pc} (hx : x ∈ ourSigns) (hb : lexes (⟨5, x, g⟩ :: b)) : lexes (p :: ⟨5, x, g⟩ :: b) :=
  lexes_cons hv hb (fun q hq => by
    simp at hq
    subst hq
    exact next_sign' (by rcases hk with h | h; exact .inl h; exact .inr (.inl h)) hx)
theorem lex_gapped {p : Pc} (hv : p.Val) (hg : p.gap ≠ []) {b : List Pc} (hb : lexes b) : lexes (p :: b) := lexes_cons hv hb (fun q _ => .inl hg)
theorem Xp.wrap {p : Pc} (hv : p.Val) (hs : startB p.fb = true) (hk : p.kind ≠ 5) {l : List Pc} (h : Xp l) {o c : List UInt8} (ho : o ∈ ourSigns) (hc : c = [41] ∨ c = [93]) : Xp (p :: sg o :: (l ++ [sg c])) :=
  ⟨lex_head hv (.inr hk) ho (lex_sign ho (.inl rfl) (lex_close h (by rcases hc with rfl | rfl <;> decide) (.inl rfl)) (fun _ => h.st.app _)), ⟨_, _, rfl, hs⟩, ((ends_close l hc).cons _).cons _⟩
theorem Xp.join : ∀ {ls : List (List Pc)}, ls ≠ [] → (∀ a ∈ ls, Xp a) → Xp (joinP ls)
  | [], h, _ => absurd rfl h
  | [a], _, h => by
    show Xp (a ++ [])
    rw [List.append_nil]; exact h a List.mem_cons_self
  | a :: b :: ls, _, h => by
    have ih := Xp.join (ls := b :: ls) (by simp) (fun x hx => h x (List.mem_cons_of_mem _ hx))
    have ha := h a List.mem_cons_self
    have e : joinP (a :: b :: ls) = a ++ (sg [44] :: joinP (b :: ls)) := by
      show a ++ (sg [44] :: b ++ ls.flatMap (sg [44] :: ·)) = _
      rfl
    rw [e]
    exact ⟨lex_then ha.lex ha.en (by decide) (lex_sign (by decide) (.inl rfl) ih.lex (fun _ => ih.st)), ha.st.app _, (ih.en.cons _).app _⟩
theorem name_start {x : List UInt8} (h : NameOk x) {g : List UInt8} : startB (Pc.fb ⟨3, x, g⟩) = true := by
  have h1 := h.name.first (List.length_pos_iff.2 h.some)
  rw [byteAt_head] at h1
  have e : Pc.fb ⟨3, x, g⟩ = x.headD 0 := rfl
  rw [e]
  unfold startB
  rw [h1]; rfl
end Go.Proofs.YtahhgnbiahomiaaDoor
/- Back: the parser's steps at pieces; what comes of a node. -/
namespace Go.Proofs.YtahhgnbiahomiaaDoor
open Go.RowKit
set_option linter.unusedVariables false
set_option linter.unusedSimpArgs false
def tks (l : List Pc) : List (Nat × List UInt8) := l.map fun p => (p.kind, p.text)
theorem tks_append (a b : List Pc) : tks (a ++ b) = tks a ++ tks b := List.map_append
theorem tks_len (a : List Pc) : (tks a).length = a.length := List.length_map _
abbrev RNode := Nat × Nat × List UInt8 × Nat
/-- A node but for its line and its places. -/
def strip (nd : NodeM) : RNode := (nd.kind, nd.n, nd.name, nd.l.length)
/-- All nodes below one, and it, in their order. -/
def rL (ns : List NodeM) (x : Nat) : List RNode := valN (fun s nd => nd.l.flatMap s ++ [strip nd]) [] ns x
def maxL (l : List Nat) : Nat := l.foldr max 0
def nAt (s : Nat × Nat) (lv : Nat) : Nat := if s.2 < lv then 1 + s.1 else s.1
/-- How deep a node's text is. -/
def needN (s : Nat → Nat × Nat) (nd : NodeM) : Nat :=
  match nd.kind with
  | 5 => 1 + (s (nd.l.getD 0 0)).1
  | 6 => 1 + (s (nd.l.getD 0 0)).1
  | 7 => 1 + nAt (s (nd.l.getD 0 0)) 5
  | 8 => 1 + nAt (s (nd.l.getD 0 0)) 5
  | 9 => max (nAt (s (nd.l.getD 0 0)) (leftLv (signLv nd.name))) (nAt (s (nd.l.getD 1 0)) (signLv nd.name + 1))
  | 12 => max (1 + (s (nd.l.getD 0 0)).1) (s (nd.l.getD 1 0)).1
  | 18 => 1 + maxL (nd.l.map fun c => (s c).1)
  | _ => maxL (nd.l.map fun c => (s c).1)
def ndG (s : Nat → Nat × Nat) (nd : NodeM) : Nat × Nat := (needN s nd, levN nd)
def ndV (ns : List NodeM) (x : Nat) : Nat × Nat := valN ndG (0, 0) ns x
section
variable {ns : List NodeM} {x : Nat} {nd : NodeM}
theorem rL_eq (hk : NodesOk ns) (h : ns[x]? = some nd) : rL ns x = nd.l.flatMap (rL ns) ++ [strip nd] := by
  have e : rL ns x = nd.l.flatMap (fun i => rL (ns.take x) i) ++ [strip nd] := valN_eq _ _ h
  rw [e]
  congr 1
  rw [List.flatMap_def, List.flatMap_def]
  congr 1
  exact List.map_congr_left fun c hc => valN_take _ _ (kids_lt hk h c hc)
theorem ndV_eq (h : ns[x]? = some nd) : ndV ns x = ndG (fun i => ndV (ns.take x) i) nd := valN_eq _ _ h
theorem ndV_take {i : Nat} (hi : i < x) : ndV (ns.take x) i = ndV ns i := valN_take _ _ hi
theorem ndV_lev (h : ns[x]? = some nd) : (ndV ns x).2 = levN nd := by rw [ndV_eq h]; rfl
theorem flat_map1 {α : Type} (S : Nat → List UInt8 × α) (l : List Nat) : l.flatMap (fun c => (S c).1) = (l.map S).flatMap (·.1) := by rw [List.flatMap_map]
theorem shN_same {nd : NodeM} {S S' : Nat → List UInt8 × Nat} {l' : List Nat} (line' : Nat) (hok : NodeOk ns nd) (h : l'.map S' = nd.l.map S) : shN S' ⟨nd.kind, line', nd.n, nd.name, l'⟩ = shN S nd := by
  have one : ∀ {a : Nat}, l'.map S' = [a].map S → ∃ y, l' = [y] ∧ S' y = S a := fun {a} h => by
    match l', h with
    | [], h => simp at h
    | [y], h => exact ⟨y, rfl, by simpa using h⟩
    | _ :: _ :: _, h => simp at h
  have two : ∀ {a b : Nat}, l'.map S' = [a, b].map S → ∃ y z, l' = [y, z] ∧ S' y = S a ∧ S' z = S b := fun {a b} h => by
    match l', h with
    | [], h => simp at h
    | [_], h => simp at h
    | [y, z], h => exact ⟨y, z, rfl, by simpa using h⟩
    | _ :: _ :: _ :: _, h => simp at h
  have three : ∀ {a b c : Nat}, l'.map S' = [a, b, c].map S → ∃ y z u, l' = [y, z, u] ∧ S' y = S a ∧ S' z = S b ∧ S' u = S c := fun {a b c} h => by
    match l', h with
    | [], h => simp at h
    | [_], h => simp at h
    | [_, _], h => simp at h
    | [y, z, u], h => exact ⟨y, z, u, rfl, by simpa using h⟩
    | _ :: _ :: _ :: _ :: _, h => simp at h
  have nil : l'.map S' = [].map S → l' = [] := fun h => by simpa using h
  cases hok with
  | int line n hn => have := nil h; subst this; rfl
  | bool line n hn => have := nil h; subst this; rfl
  | text line y => have := nil h; subst this; rfl
  | var line y => have := nil h; subst this; rfl
  | index line y a ha => obtain ⟨z, rfl, e⟩ := one h; simp [shN, textN, levN, e]
  | len line a ha => obtain ⟨z, rfl, e⟩ := one h; simp [shN, textN, levN, e]
  | neg line a ha => obtain ⟨z, rfl, e⟩ := one h; simp [shN, textN, levN, e]
  | not line a ha => obtain ⟨z, rfl, e⟩ := one h; simp [shN, textN, levN, e]
  | bin line y a b hy ha hb => obtain ⟨z, u, rfl, e, e2⟩ := two h; simp [shN, textN, levN, e, e2]
  | let_ line y a ha => obtain ⟨z, rfl, e⟩ := one h; simp [shN, textN, levN, e]
  | set line y a ha => obtain ⟨z, rfl, e⟩ := one h; simp [shN, textN, levN, e]
  | put line y a b ha hb => obtain ⟨z, u, rfl, e, e2⟩ := two h; simp [shN, textN, levN, e, e2]
  | do_ line a ha => obtain ⟨z, rfl, e⟩ := one h; simp [shN, textN, levN, e]
  | print line a ha => obtain ⟨z, rfl, e⟩ := one h; simp [shN, textN, levN, e]
  | if2 line a b ha hb => obtain ⟨z, u, rfl, e, e2⟩ := two h; simp [shN, textN, levN, e, e2]
  | if3 line a b c ha hb hc => obtain ⟨z, u, v, rfl, e, e2, e3⟩ := three h; simp [shN, textN, levN, e, e2, e3]
  | loop line a b ha hb => obtain ⟨z, u, rfl, e, e2⟩ := two h; simp [shN, textN, levN, e, e2]
  | ret0 line => have := nil h; subst this; rfl
  | ret1 line a ha => obtain ⟨z, rfl, e⟩ := one h; simp [shN, textN, levN, e]
  | block line l hl =>
    show ([123, 10] ++ l'.flatMap (fun c => (S' c).1) ++ [125, 10], _) = ([123, 10] ++ l.flatMap (fun c => (S c).1) ++ [125, 10], _)
    rw [flat_map1, flat_map1, show l'.map S' = l.map S from h]; rfl
  | input line => have := nil h; subst this; rfl
  | new line a ha => obtain ⟨z, rfl, e⟩ := one h; simp [shN, textN, levN, e]
  | call line y l hl =>
    have e1 : (l'.map fun c => (S' c).1) = (l.map fun c => (S c).1) := by
      have := congrArg (List.map Prod.fst) (show l'.map S' = l.map S from h)
      rw [List.map_map, List.map_map] at this
      exact this
    show (y ++ [40] ++ joinC (l'.map fun c => (S' c).1) ++ [41], _) = (y ++ [40] ++ joinC (l.map fun c => (S c).1) ++ [41], _)
    rw [e1]; rfl
end
/-- What comes of a node's pieces. -/
structure Gd (ns : List NodeM) (x : Nat) (s : PS) (m : Nat) (r : List Nat × PS) : Prop where
  i : r.2.i = s.i + m
  e : r.2.e = 0
  deep : r.2.deep = s.deep
  one : r.1 = [r.2.nodes.length - 1]
  pos : s.nodes.length < r.2.nodes.length
  sg : ∃ g, r.2.nodes = s.nodes ++ g ∧ g.map strip = rL ns x
  sh : shV r.2.nodes (r.2.nodes.length - 1) = shV ns x
section
variable {src : List UInt8} {ts : List Tok} {ns : List NodeM} {x : Nat} {nd : NodeM} {s t : PS} {q r : List Nat × PS}
theorem Gd.put (hk : NodesOk ns) (hx : ns[x]? = some nd) {l' : List Nat} {g : List NodeM} {m : Nat} (line : Nat) (hg : t.nodes = s.nodes ++ g) (hs : g.map strip = nd.l.flatMap (rL ns)) (hl : l'.map (shV t.nodes) = nd.l.map (shV ns)) (e : t.e = 0) (d : t.deep = s.deep) (i : t.i = s.i + m) :
    Gd ns x s m (pPut nd.kind line nd.n nd.name l' t) := by
  have hlen : l'.length = nd.l.length := by have := congrArg List.length hl; simpa using this
  refine ⟨i, e, d, ?_, ?_, ⟨g ++ [⟨nd.kind, line, nd.n, nd.name, l'⟩], ?_, ?_⟩, ?_⟩
  · show [t.nodes.length] = [(t.nodes ++ [_]).length - 1]
    simp
  · show s.nodes.length < (t.nodes ++ [_]).length
    rw [hg]; simp
  · show t.nodes ++ [_] = _
    rw [hg, List.append_assoc]
  · rw [List.map_append, hs, rL_eq hk hx]
    simp [strip, hlen]
  · show shV (t.nodes ++ [⟨nd.kind, line, nd.n, nd.name, l'⟩]) ((t.nodes ++ [_]).length - 1) = _
    rw [List.length_append, List.length_singleton, Nat.add_sub_cancel]
    have e1 : shV (t.nodes ++ [⟨nd.kind, line, nd.n, nd.name, l'⟩]) t.nodes.length = shN (fun i => shV t.nodes i) ⟨nd.kind, line, nd.n, nd.name, l'⟩ := valN_snoc _ _ _ _
    rw [e1, shV_eq hx]
    refine shN_same line (hk x nd hx) (hl.trans ?_)
    exact List.map_congr_left fun c hc => (shV_take (kids_lt hk hx c hc)).symm
theorem Gd.last (h : Gd ns x s 0 r) : r.2.nodes.length - 1 < r.2.nodes.length := by have := h.pos; omega
/-- A leaf. -/
theorem Gd.leaf (hk : NodesOk ns) (hx : ns[x]? = some nd) (h0 : nd.l = []) {m : Nat} (line : Nat) (e : t.e = 0) (d : t.deep = s.deep) (i : t.i = s.i + m) (hn : t.nodes = s.nodes) : Gd ns x s m (pPut nd.kind line nd.n nd.name [] t) :=
  Gd.put hk hx (l' := []) (g := []) line (by rw [hn, List.append_nil]) (by rw [h0]; rfl) (by rw [h0]; rfl) e d i
/-- One below. -/
theorem Gd.put1 (hk : NodesOk ns) (hx : ns[x]? = some nd) {a : Nat} (h0 : nd.l = [a]) {s1 : PS} {m1 m : Nat} (hq : Gd ns a s1 m1 q) (hs1 : s1.nodes = s.nodes) (line : Nat) (ht : t.nodes = q.2.nodes) (e : t.e = 0) (d : t.deep = s.deep) (i : t.i = s.i + m) :
    Gd ns x s m (pPut nd.kind line nd.n nd.name q.1 t) := by
  obtain ⟨g, hg, hgs⟩ := hq.sg
  refine Gd.put hk hx (g := g) line (by rw [ht, hg, hs1]) (by rw [h0, hgs]; simp) ?_ e d i
  rw [hq.one, h0, ht]
  show [shV q.2.nodes (q.2.nodes.length - 1)] = [shV ns a]
  rw [hq.sh]
theorem shV_more {us vs : List NodeM} {y : Nat} (h : y < us.length) : shV (us ++ vs) y = shV us y := valN_append _ _ _ _ h
/-- Two below. -/
theorem Gd.put2 (hk : NodesOk ns) (hx : ns[x]? = some nd) {a b : Nat} (h0 : nd.l = [a, b]) {s1 s2 : PS} {m1 m2 m : Nat} {u : List Nat × PS} (hq : Gd ns a s1 m1 q) (hu : Gd ns b s2 m2 u) (hs1 : s1.nodes = s.nodes) (hs2 : s2.nodes = q.2.nodes) (line : Nat) {l' : List Nat} (hl' : l' = q.1 ++ u.1) (ht : t.nodes = u.2.nodes) (e : t.e = 0) (d : t.deep = s.deep) (i : t.i = s.i + m) :
    Gd ns x s m (pPut nd.kind line nd.n nd.name l' t) := by
  obtain ⟨g, hg, hgs⟩ := hq.sg
  obtain ⟨g2, hg2, hgs2⟩ := hu.sg
  refine Gd.put hk hx (g := g ++ g2) line (by rw [ht, hg2, hs2, hg, hs1, List.append_assoc]) (by rw [h0, List.map_append, hgs, hgs2]; simp) ?_ e d i
  rw [hl', hq.one, hu.one, h0, ht]
  show [shV u.2.nodes (q.2.nodes.length - 1), shV u.2.nodes (u.2.nodes.length - 1)] = [shV ns a, shV ns b]
  rw [hu.sh]
  congr 1
  have hp := hq.pos
  rw [hg2, hs2, shV_more (by omega), hq.sh]
/-! The parser's rules. -/
theorem r_chain {lv : Nat} (hlv : lv ≠ 5) (h1 : Runs src ts (.chain (lv + 1)) s q) (h2 : Runs src ts (.more lv (pLine src ts s) (q.1.headD 0)) q.2 r) : Runs src ts (.chain lv) s r := by
  obtain ⟨n, a, b⟩ := h1.two h2
  exact ⟨n + 1, by simp only [run]; rw [if_neg hlv, a]; exact b⟩
theorem r_chain5 (h : Runs src ts .factor s q) : Runs src ts (.chain 5) s q := by
  obtain ⟨n, a⟩ := h
  exact ⟨n + 1, by simp only [run]; rw [if_pos trivial]; exact a⟩
theorem r_chain5' (h : Runs src ts (.chain 5) s q) : Runs src ts .factor s q := by
  obtain ⟨n, a⟩ := h
  cases n with
  | zero => simp [run] at a
  | succ n => simp only [run] at a; rw [if_pos trivial] at a; exact ⟨n, a⟩
theorem r_more0 {lv line y : Nat} (h : pNext ts lv s = []) : Runs src ts (.more lv line y) s ([y], s) := ⟨1, by simp only [run]; rw [if_pos h]⟩
theorem r_bin {lv line y : Nat} (h0 : lv ≠ 2) (hx : pNext ts lv s ≠ []) (h1 : Runs src ts (.chain (lv + 1)) (pGo s) q) (h2 : Runs src ts (.more lv line ((pPut 9 line 0 (pNext ts lv s) [y, q.1.headD 0] q.2).1.headD 0)) (pPut 9 line 0 (pNext ts lv s) [y, q.1.headD 0] q.2).2 r) :
    Runs src ts (.more lv line y) s r := by
  obtain ⟨n, a, b⟩ := h1.two h2
  exact ⟨n + 1, by simp only [run]; rw [if_neg hx, a]; simp only [Option.bind_some]; rw [if_neg h0]; exact b⟩
theorem r_bin2 {line y : Nat} (hx : pNext ts 2 s ≠ []) (h1 : Runs src ts (.chain 3) (pGo s) q) : Runs src ts (.more 2 line y) s (pPut 9 line 0 (pNext ts 2 s) [y, q.1.headD 0] q.2) := by
  obtain ⟨n, a⟩ := h1
  exact ⟨n + 1, by simp only [run]; rw [if_neg hx, a]; simp only [Option.bind_some]; rfl⟩
theorem r_neg (h : pIs ts [45] s = true) (h1 : Runs src ts .factor (pGo (pDown ts s)) q) : Runs src ts .factor s (pPut 7 (pLine src ts s) 0 [] q.1 (pUp q.2)) := by
  obtain ⟨n, a⟩ := h1
  exact ⟨n + 1, by simp only [run]; rw [if_pos h, a]; rfl⟩
theorem r_not (h0 : pIs ts [45] s = false) (h : pIs ts [33] s = true) (h1 : Runs src ts .factor (pGo (pDown ts s)) q) : Runs src ts .factor s (pPut 8 (pLine src ts s) 0 [] q.1 (pUp q.2)) := by
  obtain ⟨n, a⟩ := h1
  exact ⟨n + 1, by simp only [run]; rw [if_neg (by rw [h0]; decide), if_pos h, a]; rfl⟩
theorem r_factor (h0 : pIs ts [45] s = false) (h : pIs ts [33] s = false) (h1 : Runs src ts .atom s q) : Runs src ts .factor s q := by
  obtain ⟨n, a⟩ := h1
  exact ⟨n + 1, by simp only [run]; rw [if_neg (by rw [h0]; decide), if_neg (by rw [h]; decide), a]⟩
section
variable {y : List UInt8} {R : List (Nat × List UInt8)}
theorem a_int (he : s.e = 0) (h : rest ts s.i = (1, y) :: R) : Runs src ts .atom s (pPut 1 (pLine src ts s) (atoiM y) [] [] (pGo s)) := by
  obtain ⟨a, b⟩ := tok_kind h
  exact ⟨1, by simp only [run]; rw [if_neg (by simp [he]), if_pos a, b]⟩
theorem a_text (he : s.e = 0) (h : rest ts s.i = (2, y) :: R) : Runs src ts .atom s (pPut 3 (pLine src ts s) 0 y [] (pGo s)) := by
  obtain ⟨a, b⟩ := tok_kind h
  exact ⟨1, by simp only [run]; rw [if_neg (by simp [he]), if_neg (by rw [a]; decide), if_pos a, b]⟩
theorem a_var (he : s.e = 0) (h : rest ts s.i = (3, y) :: R) (hn : pIs ts [91] (pGo s) = false) : Runs src ts .atom s (pPut 4 (pLine src ts s) 0 y [] (pGo s)) := by
  obtain ⟨a, b⟩ := tok_kind h
  exact ⟨1, by simp only [run]; rw [if_neg (by simp [he]), if_neg (by rw [a]; decide), if_neg (by rw [a]; decide), if_pos a, if_neg (by rw [hn]; decide), b]⟩
theorem a_index (he : s.e = 0) (h : rest ts s.i = (3, y) :: R) (hn : pIs ts [91] (pGo s) = true) (h1 : Runs src ts (.chain 0) (pMust ts [91] (pDown ts (pGo s))) q) :
    Runs src ts .atom s (pPut 5 (pLine src ts s) 0 y q.1 (pUp (pMust ts [93] q.2))) := by
  obtain ⟨a, b⟩ := tok_kind h
  obtain ⟨n, c⟩ := h1
  exact ⟨n + 1, by simp only [run]; rw [if_neg (by simp [he]), if_neg (by rw [a]; decide), if_neg (by rw [a]; decide), if_pos a, if_pos hn, b, c]; rfl⟩
theorem a_true (he : s.e = 0) (h : rest ts s.i = (4, [116, 114, 117, 101]) :: R) : Runs src ts .atom s (pPut 2 (pLine src ts s) 1 [] [] (pGo s)) := by
  obtain ⟨a, b⟩ := tok_kind h
  exact ⟨1, by simp only [run]; rw [if_neg (by simp [he]), if_neg (by rw [a]; decide), if_neg (by rw [a]; decide), if_neg (by rw [a]; decide), if_pos (is_word he h)]⟩
theorem a_false (he : s.e = 0) (h : rest ts s.i = (4, [102, 97, 108, 115, 101]) :: R) : Runs src ts .atom s (pPut 2 (pLine src ts s) 0 [] [] (pGo s)) := by
  obtain ⟨a, b⟩ := tok_kind h
  exact ⟨1, by simp only [run]; rw [if_neg (by simp [he]), if_neg (by rw [a]; decide), if_neg (by rw [a]; decide), if_neg (by rw [a]; decide), if_neg (by rw [is_no he h (by decide)]; decide), if_pos (is_word he h)]⟩
theorem a_len (he : s.e = 0) (h : rest ts s.i = (4, [108, 101, 110]) :: R) (hn : pIs ts [40] (pGo s) = true) (h1 : Runs src ts (.chain 0) (pMust ts [40] (pDown ts (pGo s))) q) :
    Runs src ts .atom s (pPut 6 (pLine src ts s) 0 [] q.1 (pUp (pMust ts [41] q.2))) := by
  obtain ⟨a, b⟩ := tok_kind h
  obtain ⟨n, c⟩ := h1
  exact ⟨n + 1, by simp only [run]; rw [if_neg (by simp [he]), if_neg (by rw [a]; decide), if_neg (by rw [a]; decide), if_neg (by rw [a]; decide), if_neg (by rw [is_no he h (by decide)]; decide), if_neg (by rw [is_no he h (by decide)]; decide), if_pos (is_word he h), if_pos hn, c]; rfl⟩
theorem a_paren (he : s.e = 0) (h : rest ts s.i = (5, [40]) :: R) (h1 : Runs src ts (.chain 0) (pMust ts [40] (pDown ts s)) q) :
    Runs src ts .atom s (q.1, pUp (pMust ts [41] q.2)) := by
  obtain ⟨a, b⟩ := tok_kind h
  obtain ⟨n, c⟩ := h1
  exact ⟨n + 1, by simp only [run]; rw [if_neg (by simp [he]), if_neg (by rw [a]; decide), if_neg (by rw [a]; decide), if_neg (by rw [a]; decide), if_neg (by rw [is_no he h (by decide)]; decide), if_neg (by rw [is_no he h (by decide)]; decide), if_neg (by rw [is_no he h (by decide)]; decide), if_pos (is_yes he h), c]; rfl⟩
end
end
end Go.Proofs.YtahhgnbiahomiaaDoor
/- Back: an expression's pieces are read as that expression. -/
namespace Go.Proofs.YtahhgnbiahomiaaDoor
open Go.RowKit
set_option linter.unusedVariables false
set_option linter.unusedSimpArgs false
/-- How strongly a token binds, and one more; 0, if it does not. -/
def lvTok (a : Nat × List UInt8) : Nat := if (a.1 = 5 ∨ a.1 = 4) ∧ a.2 ∈ allSigns then signLv a.2 + 1 else 0
def folI (lv : Nat) : Nat := if lv = 2 then 2 else lv + 1
structure Fo (b : Nat) (R : List (Nat × List UInt8)) : Prop where
  lv : lvTok (R.headD (0, [])) ≤ b
  br : (R.headD (0, [])).2 ≠ [91]
theorem signLv_le (x : List UInt8) : signLv x ≤ 4 := by unfold signLv; (repeat' split) <;> omega
theorem lvTok_le (a : Nat × List UInt8) : lvTok a ≤ 5 := by
  unfold lvTok; split
  · have := signLv_le a.2; omega
  · omega
theorem lvTok_sign {x : List UInt8} (h : x ∈ allSigns) : lvTok (5, x) = signLv x + 1 := by unfold lvTok; rw [if_pos ⟨.inl rfl, h⟩]
theorem lvTok_no {k : Nat} {x : List UInt8} (h : x ∉ allSigns) : lvTok (k, x) = 0 := by unfold lvTok; rw [if_neg (fun e => h e.2)]
theorem Fo.le {b c : Nat} {R : List (Nat × List UInt8)} (h : Fo b R) (hc : b ≤ c) : Fo c R := ⟨by have := h.lv; omega, h.br⟩
theorem signsL_lv : ∀ lv, lv ≤ 4 → ∀ x ∈ signsL lv, x ∈ allSigns ∧ signLv x = lv := by
  intro lv h
  rcases (by omega : lv = 0 ∨ lv = 1 ∨ lv = 2 ∨ lv = 3 ∨ lv = 4) with rfl | rfl | rfl | rfl | rfl <;> decide
section
variable {src : List UInt8} {ts : List Tok} {ns : List NodeM} {x : Nat} {nd : NodeM} {s t : PS} {q r : List Nat × PS}
theorem next_none {lv : Nat} (hlv : lv ≤ 4) (h : lvTok ((rest ts s.i).headD (0, [])) ≠ lv + 1) : pNext ts lv s = [] := by
  unfold pNext
  cases hf : (signsL lv).find? fun x => pIs ts x s with
  | none => rfl
  | some y =>
    exfalso
    obtain ⟨h1, h2⟩ := signsL_lv lv hlv y (List.mem_of_find?_eq_some hf)
    have h3 : pIs ts y s = true := by simpa using List.find?_some hf
    rw [← rest_hd] at h
    unfold pIs at h3
    simp at h3
    obtain ⟨⟨_, h4⟩, h5⟩ := h3
    refine h ?_
    unfold lvTok
    rw [if_pos ⟨h4, by rw [h5]; exact h1⟩]
    dsimp only
    rw [h5, h2]
theorem next_some {y : List UInt8} {R : List (Nat × List UInt8)} (he : s.e = 0) (h : rest ts s.i = (5, y) :: R) (hy : y ∈ allSigns) : pNext ts (signLv y) s = y := by
  unfold pNext
  rw [show (fun x => pIs ts x s) = fun x => decide (y = x) from funext fun z => by rw [is_eq he h]; simp]
  exact (by decide : ∀ y ∈ allSigns, ((signsL (signLv y)).find? fun x => decide (y = x)).getD [] = y) y hy
/-- An operand's reading that goes on, or is whole. -/
def Up (src : List UInt8) (ts : List Tok) (lv : Nat) (s : PS) (q : List Nat × PS) : Prop :=
  if lv = 5 then Runs src ts (.chain 5) s q else ∀ r, Runs src ts (.more lv (pLine src ts s) (q.1.headD 0)) q.2 r → Runs src ts (.chain lv) s r
theorem up_done {lv : Nat} (hlv : lv ≤ 5) (h : Up src ts lv s q) {y : Nat} (h1 : q.1 = [y]) (hf : lvTok ((rest ts q.2.i).headD (0, [])) ≤ lv) : Runs src ts (.chain lv) s q := by
  unfold Up at h
  split at h
  · rename_i e; subst e; exact h
  · rename_i e
    refine h q ?_
    have := r_more0 (src := src) (line := pLine src ts s) (y := q.1.headD 0) (next_none (ts := ts) (s := q.2) (show lv ≤ 4 by omega) (by omega))
    rw [h1] at this ⊢
    have e2 : q = ([y], q.2) := by rw [← h1]
    rw [e2]; exact this
theorem up_next {lv : Nat} (hlv : lv ≤ 4) (h : Runs src ts (.chain (lv + 1)) s q) : Up src ts lv s q := by
  unfold Up
  rw [if_neg (by omega)]
  exact fun r hr => r_chain (by omega) h hr
theorem up_low {lv : Nat} {y : Nat} (h1 : q.1 = [y]) (hf : lvTok ((rest ts q.2.i).headD (0, [])) ≤ lv + 1) : ∀ (n : Nat), lv + n ≤ 5 → Up src ts (lv + n) s q → Up src ts lv s q
  | 0, _, h => h
  | n + 1, h5, h => by
    have h2 : Runs src ts (.chain (lv + n + 1)) s q := up_done (lv := lv + n + 1) (by omega) h h1 (by omega)
    exact up_low h1 hf n (by omega) (up_next (by omega) h2)
theorem bad_low {lv : Nat} : ∀ (n : Nat), lv + n ≤ 5 → Bad src ts (.chain (lv + n)) s → Bad src ts (.chain lv) s
  | 0, _, h => h
  | n + 1, h5, h => by
    have h2 : Bad src ts (.chain (lv + n)) s := Bad.bind (kf := fun q => .more (lv + n) (pLine src ts s) (q.1.headD 0)) (f := fun q => q.2) h (fun q r h1 h2 => r_chain (by omega) h1 h2) (fun q => by show lv + n ≤ 4; omega) (fun q h => h)
    exact bad_low n (by omega) h2
/-- A way of an operand: good, or too deep. -/
def Way (src : List UInt8) (ts : List Tok) (lv : Nat) (ns : List NodeM) (x : Nat) (s : PS) (m need : Nat) : Prop := (∃ q, Up src ts lv s q ∧ Gd ns x s m q) ∨ (Bad src ts (.chain lv) s ∧ 16 < s.deep + need)
theorem Way.low {lv lv0 m need : Nat} (h : Way src ts lv0 ns x s m need) (hl : lv ≤ lv0) (h5 : lv0 ≤ 5) {R : List (Nat × List UInt8)} (hr : rest ts (s.i + m) = R) (hf : Fo (folI lv) R) : Way src ts lv ns x s m need := by
  have hfl : folI lv ≤ lv + 1 := by unfold folI; split <;> omega
  obtain ⟨n, rfl⟩ : ∃ n, lv0 = lv + n := ⟨lv0 - lv, by omega⟩
  rcases h with ⟨q, hu, hg⟩ | ⟨hb, hd⟩
  · refine .inl ⟨q, up_low hg.one ?_ n h5 hu, hg⟩
    rw [hg.i, hr]; have := hf.lv; omega
  · exact .inr ⟨bad_low n h5 hb, hd⟩
theorem Way.done {lv m need : Nat} (h : Way src ts lv ns x s m need) (h5 : lv ≤ 5) {R : List (Nat × List UInt8)} (hr : rest ts (s.i + m) = R) (hf : Fo lv R) : (∃ q, Runs src ts (.chain lv) s q ∧ Gd ns x s m q) ∨ (Bad src ts (.chain lv) s ∧ 16 < s.deep + need) := by
  rcases h with ⟨q, hu, hg⟩ | h
  · exact .inl ⟨q, up_done h5 hu hg.one (by rw [hg.i, hr]; exact hf.lv), hg⟩
  · exact .inr h
theorem way_factor {m need : Nat} (h : (∃ q, Runs src ts .factor s q ∧ Gd ns x s m q) ∨ (Bad src ts .factor s ∧ 16 < s.deep + need)) : Way src ts 5 ns x s m need := by
  rcases h with ⟨q, hq, hg⟩ | ⟨hb, hd⟩
  · exact .inl ⟨q, by unfold Up; rw [if_pos rfl]; exact r_chain5 hq, hg⟩
  · exact .inr ⟨Bad.map (f := fun q => q) hb (fun q h => r_chain5 h) (fun q h => h), hd⟩
theorem way_atom {m need : Nat} (h0 : pIs ts [45] s = false) (h1 : pIs ts [33] s = false) (h : (∃ q, Runs src ts .atom s q ∧ Gd ns x s m q) ∨ (Bad src ts .atom s ∧ 16 < s.deep + need)) : Way src ts 5 ns x s m need := by
  refine way_factor ?_
  rcases h with ⟨q, hq, hg⟩ | ⟨hb, hd⟩
  · exact .inl ⟨q, r_factor h0 h1 hq, hg⟩
  · exact .inr ⟨Bad.map (f := fun q => q) hb (fun q h => r_factor h0 h1 h) (fun q h => h), hd⟩
/-- Expression x, within parentheses at a level m, is read at a level lv. -/
def SX (ns : List NodeM) (x m lv : Nat) : Prop := ∀ {src : List UInt8} {ts : List Tok} {s : PS} {R : List (Nat × List UInt8)}, s.e = 0 → rest ts s.i = tks (atP (pcV ns x) m) ++ R → Fo (folI lv) R → Way src ts lv ns x s (atP (pcV ns x) m).length (nAt (ndV ns x) m)
theorem fo_close {b : Nat} {x : List UInt8} {R : List (Nat × List UInt8)} (h : x ∉ allSigns) (h2 : x ≠ [91]) : Fo b ((5, x) :: R) := ⟨by show lvTok (5, x) ≤ b; rw [lvTok_no h]; omega, h2⟩
theorem SX.done {m lv : Nat} (h : SX ns x m lv) (h5 : lv ≤ 5) (he : s.e = 0) {R : List (Nat × List UInt8)} (hr : rest ts s.i = tks (atP (pcV ns x) m) ++ R) (hf : Fo lv R) :
    (∃ q, Runs src ts (.chain lv) s q ∧ Gd ns x s (atP (pcV ns x) m).length q) ∨ (Bad src ts (.chain lv) s ∧ 16 < s.deep + nAt (ndV ns x) m) := by
  have h1 : Fo (folI lv) R := hf.le (by unfold folI; split <;> omega)
  have h2 := rest_add hr
  rw [tks_len] at h2
  exact (h (src := src) he hr h1).done h5 h2 hf
theorem atP0 (s : List Pc × Nat) : atP s 0 = s.1 := by unfold atP; rw [if_neg (by omega)]
theorem nAt0 (s : Nat × Nat) : nAt s 0 = s.1 := by unfold nAt; rw [if_neg (by omega)]
/-- Parentheses, brackets: what is within, one deeper. -/
theorem inside {o c : List UInt8} (ho : o = [40] ∨ o = [91]) (hc : c = [41] ∨ c = [93]) {a : Nat} (hsx : SX ns a 0 0) (he : s.e = 0) {R : List (Nat × List UInt8)} (hr : rest ts s.i = (5, o) :: (tks (pcV ns a).1 ++ (5, c) :: R)) :
    (∃ q, Runs src ts (.chain 0) (pMust ts o (pDown ts s)) q ∧ (∃ s1, s1.nodes = s.nodes ∧ Gd ns a s1 (pcV ns a).1.length q) ∧ (pUp (pMust ts c q.2)).nodes = q.2.nodes ∧ (pUp (pMust ts c q.2)).e = 0 ∧ (pUp (pMust ts c q.2)).deep = s.deep ∧ (pUp (pMust ts c q.2)).i = s.i + ((pcV ns a).1.length + 2)) ∨
    (Bad src ts (.chain 0) (pMust ts o (pDown ts s)) ∧ 16 < s.deep + (1 + (ndV ns a).1)) := by
  by_cases hd : s.deep < 16
  · rw [down_ok hd, must_ok (s := { s with deep := s.deep + 1 }) he hr]
    have hr2 : rest ts (pGo { s with deep := s.deep + 1 }).i = tks (atP (pcV ns a) 0) ++ (5, c) :: R := by rw [atP0]; exact rest_go hr
    have hcs : c ∉ allSigns ∧ c ≠ [91] := by rcases hc with rfl | rfl <;> decide
    rcases hsx.done (src := src) (s := pGo { s with deep := s.deep + 1 }) (by decide) he hr2 (fo_close hcs.1 hcs.2) with ⟨q, hq, hg⟩ | ⟨hb, hn⟩
    · have hr3 := rest_add hr2
      rw [tks_len] at hr3
      have hr4 : rest ts q.2.i = (5, c) :: R := by rw [hg.i]; exact hr3
      refine .inl ⟨q, hq, ⟨pGo { s with deep := s.deep + 1 }, rfl, by rw [← atP0 (pcV ns a)]; exact hg⟩, ?_⟩
      rw [must_ok hg.e hr4]
      refine ⟨rfl, hg.e, ?_, ?_⟩
      · show q.2.deep - 1 = _
        rw [hg.deep]; show s.deep + 1 - 1 = _; omega
      · show q.2.i + 1 = _
        rw [hg.i, atP0]; show s.i + 1 + _ + 1 = _; omega
    · rw [nAt0] at hn
      exact .inr ⟨hb, by have : (pGo { s with deep := s.deep + 1 }).deep = s.deep + 1 := rfl; omega⟩
  · exact .inr ⟨Bad.of (by show (0:Nat) ≤ 5; omega) (must21 (down_bad he (by omega))), by omega⟩
end
end Go.Proofs.YtahhgnbiahomiaaDoor
/- Back: an expression's pieces are read as that expression, all of it. -/
namespace Go.Proofs.YtahhgnbiahomiaaDoor
open Go.RowKit
set_option linter.unusedVariables false
set_option linter.unusedSimpArgs false
section
variable {src : List UInt8} {ts : List Tok} {ns : List NodeM} {x : Nat} {nd : NodeM} {s t : PS} {q r : List Nat × PS}
theorem tks_cons (p : Pc) (l : List Pc) : tks (p :: l) = (p.kind, p.text) :: tks l := rfl
theorem r_bin' {lv line y : Nat} {z : List UInt8} (hz : pNext ts lv s = z) (hn : z ≠ []) (h0 : lv ≠ 2) (h1 : Runs src ts (.chain (lv + 1)) (pGo s) q) (h2 : Runs src ts (.more lv line ((pPut 9 line 0 z [y, q.1.headD 0] q.2).1.headD 0)) (pPut 9 line 0 z [y, q.1.headD 0] q.2).2 r) :
    Runs src ts (.more lv line y) s r := by subst hz; exact r_bin h0 hn h1 h2
theorem r_bin2' {line y : Nat} {z : List UInt8} (hz : pNext ts 2 s = z) (hn : z ≠ []) (h1 : Runs src ts (.chain 3) (pGo s) q) : Runs src ts (.more 2 line y) s (pPut 9 line 0 z [y, q.1.headD 0] q.2) := by subst hz; exact r_bin2 hn h1
theorem sign_ne {y : List UInt8} (h : y ∈ allSigns) : y ≠ [] ∧ y ≠ [91] := (by decide : ∀ y ∈ allSigns, y ≠ [] ∧ y ≠ [91]) y h
theorem atoi_itoa (n : Nat) : atoiM (Lib.itoa n) = n := by rw [itoa_dec]; exact (dec_all n).2.2
/-- A leaf among atoms. -/
theorem leaf_way (hk : NodesOk ns) (hx : ns[x]? = some nd) (h0 : nd.l = []) {line : Nat} (he : s.e = 0) (h45 : pIs ts [45] s = false) (h33 : pIs ts [33] s = false) (hr : Runs src ts .atom s (pPut nd.kind line nd.n nd.name [] (pGo s))) (need : Nat) : Way src ts 5 ns x s 1 need :=
  way_atom h45 h33 (.inl ⟨_, hr, Gd.leaf hk hx h0 line (t := pGo s) he rfl rfl rfl⟩)
theorem sx_all (hk : NodesOk ns) : ∀ x, Kid ns clsE x → ∀ m lv, lv ≤ 5 → lv ≤ (if (pcV ns x).2 < m then 6 else (pcV ns x).2) → SX ns x m lv := by
  intro x
  induction x using Nat.strongRecOn with
  | _ x ih =>
    intro hkx
    obtain ⟨nd, hx, hcl⟩ := hkx
    have hN := hk x nd hx
    have kid : ∀ {a : Nat}, Kid (ns.take x) clsE a → (∀ m lv, lv ≤ 5 → lv ≤ (if (pcV ns a).2 < m then 6 else (pcV ns a).2) → SX ns a m lv) ∧ pcV (ns.take x) a = pcV ns a ∧ ndV (ns.take x) a = ndV ns a := fun h => by
      obtain ⟨h1, h2⟩ := h.take
      exact ⟨ih _ h1 h2, pcV_take h1, ndV_take h1⟩
    have zero : ∀ {a : Nat}, Kid (ns.take x) clsE a → SX ns a 0 0 := fun h => (kid h).1 0 0 (by decide) (Nat.zero_le _)
    have low : ∀ {a : Nat}, Kid (ns.take x) clsE a → ∀ m, m ≤ 5 → SX ns a m m := fun h m hm => (kid h).1 m m hm (by split <;> omega)
    have plain : ∀ lv, lv ≤ 5 → lv ≤ (pcV ns x).2 → SX ns x 0 lv := by
      intro lv h5 hlv src ts s R he hr hf
      have hpe := pcV_eq hx
      have hne := ndV_eq hx
      rw [atP0] at hr ⊢
      rw [nAt0]
      have hr1 := rest_add hr
      rw [tks_len] at hr1
      have hlt5 : lvTok (R.headD (0, [])) ≤ 5 := lvTok_le _
      cases hN with
      | int line n hn =>
        have e : (pcV ns x).1 = [⟨1, Lib.itoa n, []⟩] := by rw [hpe]; rfl
        rw [e] at hr hr1 ⊢
        have hr : rest ts s.i = (1, Lib.itoa n) :: R := hr
        have hA := a_int (src := src) he hr
        rw [atoi_itoa] at hA
        exact (leaf_way hk hx rfl he (is_noK he hr (by decide)) (is_noK he hr (by decide)) hA _).low h5 (by decide) hr1 hf
      | bool line n hn =>
        have e : (pcV ns x).1 = [kw (if n = 1 then [116, 114, 117, 101] else [102, 97, 108, 115, 101])] := by rw [hpe]; rfl
        rw [e] at hr hr1 ⊢
        rcases (by omega : n = 1 ∨ n = 0) with rfl | rfl
        · have hr : rest ts s.i = (4, [116, 114, 117, 101]) :: R := hr
          exact (leaf_way hk hx rfl he (is_no he hr (by decide)) (is_no he hr (by decide)) (a_true (src := src) he hr) _).low h5 (by decide) hr1 hf
        · have hr : rest ts s.i = (4, [102, 97, 108, 115, 101]) :: R := hr
          exact (leaf_way hk hx rfl he (is_no he hr (by decide)) (is_no he hr (by decide)) (a_false (src := src) he hr) _).low h5 (by decide) hr1 hf
      | text line y =>
        have e : (pcV ns x).1 = [⟨2, y, []⟩] := by rw [hpe]; rfl
        rw [e] at hr hr1 ⊢
        have hr : rest ts s.i = (2, y) :: R := hr
        exact (leaf_way hk hx rfl he (is_noK he hr (by decide)) (is_noK he hr (by decide)) (a_text (src := src) he hr) _).low h5 (by decide) hr1 hf
      | var line y =>
        have e : (pcV ns x).1 = [nmP y] := by rw [hpe]; rfl
        rw [e] at hr hr1 ⊢
        have hr : rest ts s.i = (3, y) :: R := hr
        have hnb : pIs ts [91] (pGo s) = false := by
          have hg : rest ts (pGo s).i = R := rest_go hr
          cases R with
          | nil =>
            have := rest_hd (ts := ts) (pGo s)
            rw [hg] at this
            have h1 := congrArg Prod.fst this
            unfold pIs
            rw [show (pTok ts (pGo s)).kind = 0 from h1]
            simp
          | cons a R => exact is_no (s := pGo s) (kd := a.1) (x := a.2) he hg hf.br
        exact (leaf_way hk hx rfl he (is_noK he hr (by decide)) (is_noK he hr (by decide)) (a_var (src := src) he hr hnb) _).low h5 (by decide) hr1 hf
      | index line y a ha =>
        obtain ⟨k1, k2, k3⟩ := kid ha
        have e : (pcV ns x).1 = nmP y :: sg [91] :: ((pcV ns a).1 ++ [sg [93]]) := by rw [hpe, ← k2]; rfl
        have e2 : (ndV ns x).1 = 1 + (ndV ns a).1 := by rw [hne, ← k3]; rfl
        rw [e] at hr hr1 ⊢
        rw [e2]
        have hr : rest ts s.i = (3, y) :: (5, [91]) :: (tks (pcV ns a).1 ++ (5, [93]) :: R) := by rw [hr, tks_cons, tks_cons, tks_append]; simp [tks, nmP, sg]
        have hg : rest ts (pGo s).i = (5, [91]) :: (tks (pcV ns a).1 ++ (5, [93]) :: R) := rest_go hr
        refine (way_atom (is_noK he hr (by decide)) (is_noK he hr (by decide)) ?_).low h5 (by decide) hr1 hf
        rcases inside (src := src) (s := pGo s) (.inr rfl) (.inr rfl) (zero ha) he hg with ⟨q, hq, ⟨s1, hs1, hgd⟩, t1, t2, t3, t4⟩ | ⟨hb, hd⟩
        · exact .inl ⟨_, a_index he hr (is_yes (s := pGo s) he hg) hq, Gd.put1 (s := s) hk hx rfl hgd hs1 _ t1 t2 t3 (by rw [t4]; show s.i + 1 + _ = _; simp; omega)⟩
        · refine .inr ⟨Bad.map (f := fun q => pPut 5 (pLine src ts s) 0 y q.1 (pUp (pMust ts [93] q.2))) hb (fun q hq => a_index he hr (is_yes (s := pGo s) he hg) hq) (fun q h => must21 h), hd⟩
      | len line a ha =>
        obtain ⟨k1, k2, k3⟩ := kid ha
        have e : (pcV ns x).1 = kw [108, 101, 110] :: sg [40] :: ((pcV ns a).1 ++ [sg [41]]) := by rw [hpe, ← k2]; rfl
        have e2 : (ndV ns x).1 = 1 + (ndV ns a).1 := by rw [hne, ← k3]; rfl
        rw [e] at hr hr1 ⊢
        rw [e2]
        have hr : rest ts s.i = (4, [108, 101, 110]) :: (5, [40]) :: (tks (pcV ns a).1 ++ (5, [41]) :: R) := by rw [hr, tks_cons, tks_cons, tks_append]; simp [tks, kw, sg]
        have hg : rest ts (pGo s).i = (5, [40]) :: (tks (pcV ns a).1 ++ (5, [41]) :: R) := rest_go hr
        refine (way_atom (is_no he hr (by decide)) (is_no he hr (by decide)) ?_).low h5 (by decide) hr1 hf
        rcases inside (src := src) (s := pGo s) (.inl rfl) (.inl rfl) (zero ha) he hg with ⟨q, hq, ⟨s1, hs1, hgd⟩, t1, t2, t3, t4⟩ | ⟨hb, hd⟩
        · exact .inl ⟨_, a_len he hr (is_yes (s := pGo s) he hg) hq, Gd.put1 (s := s) hk hx rfl hgd hs1 _ t1 t2 t3 (by rw [t4]; show s.i + 1 + _ = _; simp; omega)⟩
        · refine .inr ⟨Bad.map (f := fun q => pPut 6 (pLine src ts s) 0 [] q.1 (pUp (pMust ts [41] q.2))) hb (fun q hq => a_len he hr (is_yes (s := pGo s) he hg) hq) (fun q h => must21 h), hd⟩
      | neg line a ha =>
        obtain ⟨k1, k2, k3⟩ := kid ha
        have e : (pcV ns x).1 = sg [45] :: atP (pcV ns a) 5 := by rw [hpe, ← k2]; rfl
        have e2 : (ndV ns x).1 = 1 + nAt (ndV ns a) 5 := by rw [hne, ← k3]; rfl
        rw [e] at hr hr1 ⊢
        rw [e2]
        have hr : rest ts s.i = (5, [45]) :: (tks (atP (pcV ns a) 5) ++ R) := hr
        refine (way_factor ?_).low h5 (by decide) hr1 hf
        by_cases hd : s.deep < 16
        · have hdn := down_ok (ts := ts) hd
          have hg : rest ts (pGo (pDown ts s)).i = tks (atP (pcV ns a) 5) ++ R := by rw [hdn]; exact rest_go hr
          rcases low ha 5 (by decide) (src := src) (s := pGo (pDown ts s)) (by rw [hdn]; exact he) hg ⟨by show _ ≤ 6; omega, hf.br⟩ with ⟨q, hq, hgd⟩ | ⟨hb, hn⟩
          · refine .inl ⟨_, r_neg (is_yes he hr) (r_chain5' hq), Gd.put1 hk hx rfl hgd (by rw [hdn]; rfl) _ (t := pUp q.2) rfl hgd.e ?_ ?_⟩
            · show q.2.deep - 1 = _
              rw [hgd.deep, hdn]; show s.deep + 1 - 1 = _; omega
            · show q.2.i = _
              rw [hgd.i, hdn]; show s.i + 1 + _ = _; simp; omega
          · refine .inr ⟨Bad.map (f := fun q => pPut 7 (pLine src ts s) 0 [] q.1 (pUp q.2)) hb (fun q hq => r_neg (is_yes he hr) (r_chain5' hq)) (fun q h => h), ?_⟩
            rw [hdn] at hn
            have : (pGo { s with deep := s.deep + 1 }).deep = s.deep + 1 := rfl
            omega
        · exact .inr ⟨Bad.map (f := fun q => pPut 7 (pLine src ts s) 0 [] q.1 (pUp q.2)) (Bad.of (src := src) (s := pGo (pDown ts s)) (k := .factor) trivial (show (pDown ts s).e = 21 from down_bad (ts := ts) he (by omega))) (fun q hq => r_neg (is_yes he hr) hq) (fun q h => h), by omega⟩
      | not line a ha =>
        obtain ⟨k1, k2, k3⟩ := kid ha
        have e : (pcV ns x).1 = sg [33] :: atP (pcV ns a) 5 := by rw [hpe, ← k2]; rfl
        have e2 : (ndV ns x).1 = 1 + nAt (ndV ns a) 5 := by rw [hne, ← k3]; rfl
        rw [e] at hr hr1 ⊢
        rw [e2]
        have hr : rest ts s.i = (5, [33]) :: (tks (atP (pcV ns a) 5) ++ R) := hr
        refine (way_factor ?_).low h5 (by decide) hr1 hf
        by_cases hd : s.deep < 16
        · have hdn := down_ok (ts := ts) hd
          have hg : rest ts (pGo (pDown ts s)).i = tks (atP (pcV ns a) 5) ++ R := by rw [hdn]; exact rest_go hr
          rcases low ha 5 (by decide) (src := src) (s := pGo (pDown ts s)) (by rw [hdn]; exact he) hg ⟨by show _ ≤ 6; omega, hf.br⟩ with ⟨q, hq, hgd⟩ | ⟨hb, hn⟩
          · refine .inl ⟨_, r_not (is_no he hr (by decide)) (is_yes he hr) (r_chain5' hq), Gd.put1 hk hx rfl hgd (by rw [hdn]; rfl) _ (t := pUp q.2) rfl hgd.e ?_ ?_⟩
            · show q.2.deep - 1 = _
              rw [hgd.deep, hdn]; show s.deep + 1 - 1 = _; omega
            · show q.2.i = _
              rw [hgd.i, hdn]; show s.i + 1 + _ = _; simp; omega
          · refine .inr ⟨Bad.map (f := fun q => pPut 8 (pLine src ts s) 0 [] q.1 (pUp q.2)) hb (fun q hq => r_not (is_no he hr (by decide)) (is_yes he hr) (r_chain5' hq)) (fun q h => h), ?_⟩
            rw [hdn] at hn
            have : (pGo { s with deep := s.deep + 1 }).deep = s.deep + 1 := rfl
            omega
        · exact .inr ⟨Bad.map (f := fun q => pPut 8 (pLine src ts s) 0 [] q.1 (pUp q.2)) (Bad.of (src := src) (s := pGo (pDown ts s)) (k := .factor) trivial (show (pDown ts s).e = 21 from down_bad (ts := ts) he (by omega))) (fun q hq => r_not (is_no he hr (by decide)) (is_yes he hr) hq) (fun q h => h), by omega⟩
      | bin line y a b hy ha hb =>
        obtain ⟨k1, k2, k3⟩ := kid ha
        obtain ⟨l1, l2, l3⟩ := kid hb
        have e : (pcV ns x).1 = atP (pcV ns a) (leftLv (signLv y)) ++ (sg y :: atP (pcV ns b) (signLv y + 1)) := by rw [hpe, ← k2, ← l2]; rfl
        have e2 : (ndV ns x).1 = max (nAt (ndV ns a) (leftLv (signLv y))) (nAt (ndV ns b) (signLv y + 1)) := by rw [hne, ← k3, ← l3]; rfl
        have e3 : (pcV ns x).2 = signLv y := by rw [hpe]; rfl
        rw [e] at hr hr1 ⊢
        rw [e2]
        rw [e3] at hlv
        have hy4 := signLv_le y
        obtain ⟨y0, y1⟩ := sign_ne hy
        have hr : rest ts s.i = tks (atP (pcV ns a) (leftLv (signLv y))) ++ (5, y) :: (tks (atP (pcV ns b) (signLv y + 1)) ++ R) := by rw [hr, tks_append, tks_cons]; simp [sg]
        have hfl : folI lv ≤ lv + 1 := by unfold folI; split <;> omega
        have hfk : lvTok (R.headD (0, [])) ≤ folI (signLv y) := by
          have h1 := hf.lv
          rcases Nat.lt_or_ge lv (signLv y) with h | h
          · have : signLv y ≤ folI (signLv y) := by unfold folI; split <;> omega
            omega
          · rw [show signLv y = lv by omega]; exact h1
        have hlt := lvTok_sign hy
        have key : Way src ts (signLv y) ns x s (atP (pcV ns a) (leftLv (signLv y)) ++ (sg y :: atP (pcV ns b) (signLv y + 1))).length (max (nAt (ndV ns a) (leftLv (signLv y))) (nAt (ndV ns b) (signLv y + 1))) := by
          by_cases h2 : signLv y = 2
          · have hl3 : leftLv (signLv y) = 3 := by rw [h2]; rfl
            rw [hl3] at hr ⊢
            rw [h2] at hr hfk hlt ⊢
            rcases SX.done (low ha 3 (by decide)) (src := src) (by decide) he hr ⟨by show lvTok (5, y) ≤ 3; omega, y1⟩ with ⟨q, hq, hgd⟩ | ⟨hb, hn⟩
            · have hg1 := rest_add hr
              rw [tks_len, ← hgd.i] at hg1
              have hg : rest ts (pGo q.2).i = tks (atP (pcV ns b) 3) ++ R := rest_go hg1
              have hnx := next_some hgd.e hg1 hy
              rw [h2] at hnx
              rcases SX.done (low hb 3 (by decide)) (src := src) (s := pGo q.2) (by decide) hgd.e hg ⟨by have : folI 2 = 2 := rfl; omega, hf.br⟩ with ⟨u, hu, hgu⟩ | ⟨hb, hn⟩
              · have hP := r_bin2' (src := src) (line := pLine src ts s) (y := q.1.headD 0) hnx y0 hu
                have hG : Gd ns x s (atP (pcV ns a) 3 ++ (sg y :: atP (pcV ns b) (2 + 1))).length (pPut 9 (pLine src ts s) 0 y [q.1.headD 0, u.1.headD 0] u.2) :=
                  Gd.put2 hk hx rfl hgd hgu rfl rfl _ (by rw [hgd.one, hgu.one]; rfl) rfl hgu.e (by rw [hgu.deep]; exact hgd.deep) (by rw [hgu.i]; show q.2.i + 1 + _ = _; rw [hgd.i]; simp; omega)
                have hR : Runs src ts (.chain 2) s (pPut 9 (pLine src ts s) 0 y [q.1.headD 0, u.1.headD 0] u.2) := r_chain (by decide) hq hP
                refine .inl ⟨_, ?_, hG⟩
                unfold Up
                rw [if_neg (by decide)]
                intro r hr'
                have hr5 := rest_add hg
                rw [tks_len] at hr5
                have hnn := next_none (ts := ts) (s := (pPut 9 (pLine src ts s) 0 y [q.1.headD 0, u.1.headD 0] u.2).2) (lv := 2) (by decide) (by
                  show lvTok ((rest ts u.2.i).headD (0, [])) ≠ 3
                  rw [hgu.i, hr5]
                  have : folI 2 = 2 := rfl
                  omega)
                have h6 := r_more0 (src := src) (line := pLine src ts s) (y := (pPut 9 (pLine src ts s) 0 y [q.1.headD 0, u.1.headD 0] u.2).1.headD 0) hnn
                have h7 := Runs.det h6 hr'
                rw [← h7]
                exact hR
              · refine .inr ⟨?_, by have h9 : (pGo q.2).deep = s.deep := hgd.deep; show 16 < s.deep + max (nAt (ndV ns a) 3) (nAt (ndV ns b) 3); omega⟩
                obtain ⟨r, hr1, hr2⟩ := hb
                have hP := r_bin2' (src := src) (line := pLine src ts s) (y := q.1.headD 0) hnx y0 hr1
                exact ⟨_, r_chain (by decide) hq hP, hr2⟩
            · refine .inr ⟨bad_low 1 (by decide) hb, by omega⟩
          · have hl3 : leftLv (signLv y) = signLv y := by unfold leftLv; rw [if_neg h2]
            have hfi : folI (signLv y) = signLv y + 1 := by unfold folI; rw [if_neg h2]
            rw [hl3] at hr ⊢
            rcases low ha (signLv y) (by omega) (src := src) he hr ⟨by show lvTok (5, y) ≤ _; omega, y1⟩ with ⟨q, hu, hgd⟩ | ⟨hb, hn⟩
            · unfold Up at hu
              rw [if_neg (by omega)] at hu
              have hg1 := rest_add hr
              rw [tks_len, ← hgd.i] at hg1
              have hg : rest ts (pGo q.2).i = tks (atP (pcV ns b) (signLv y + 1)) ++ R := rest_go hg1
              have hnx := next_some hgd.e hg1 hy
              rcases SX.done (low hb (signLv y + 1) (by omega)) (src := src) (s := pGo q.2) (by omega) hgd.e hg ⟨by omega, hf.br⟩ with ⟨u, hv, hgu⟩ | ⟨hb, hn⟩
              · refine .inl ⟨pPut 9 (pLine src ts s) 0 y [q.1.headD 0, u.1.headD 0] u.2, ?_, Gd.put2 hk hx rfl hgd hgu rfl rfl _ (by rw [hgd.one, hgu.one]; rfl) rfl hgu.e (by rw [hgu.deep]; exact hgd.deep) (by rw [hgu.i]; show q.2.i + 1 + _ = _; rw [hgd.i]; simp; omega)⟩
                unfold Up
                rw [if_neg (by omega)]
                exact fun r hr' => hu r (r_bin' hnx y0 h2 hv hr')
              · refine .inr ⟨?_, by have h9 : (pGo q.2).deep = s.deep := hgd.deep; omega⟩
                have hB : Bad src ts (.more (signLv y) (pLine src ts s) (q.1.headD 0)) q.2 :=
                  Bad.bind (kf := fun u => .more (signLv y) (pLine src ts s) ((pPut 9 (pLine src ts s) 0 y [q.1.headD 0, u.1.headD 0] u.2).1.headD 0)) (f := fun u => (pPut 9 (pLine src ts s) 0 y [q.1.headD 0, u.1.headD 0] u.2).2) hb (fun u r h1 h3 => r_bin' hnx y0 h2 h1 h3) (fun u => hy4) (fun u h => h)
                obtain ⟨r, h1, h3⟩ := hB
                exact ⟨r, hu r h1, h3⟩
            · exact .inr ⟨hb, by omega⟩
        exact key.low hlv (by omega) (by rw [← hr1]) hf
      | _ => simp [clsE] at hcl
    intro m lv h5 hlv src ts s R he hr hf
    by_cases hm : (pcV ns x).2 < m
    · have e : atP (pcV ns x) m = sg [40] :: ((pcV ns x).1 ++ [sg [41]]) := by unfold atP; rw [if_pos hm]
      have e2 : nAt (ndV ns x) m = 1 + (ndV ns x).1 := by unfold nAt; rw [ndV_lev hx, ← pcV_lev hx, if_pos hm]
      rw [e] at hr ⊢
      rw [e2]
      have hr1 := rest_add hr
      rw [tks_len] at hr1
      have hr : rest ts s.i = (5, [40]) :: (tks (pcV ns x).1 ++ (5, [41]) :: R) := by rw [hr, tks_cons, tks_append]; simp [tks, sg]
      refine (way_atom (is_no he hr (by decide)) (is_no he hr (by decide)) ?_).low h5 (by decide) hr1 hf
      rcases inside (src := src) (.inl rfl) (.inl rfl) (plain 0 (by decide) (Nat.zero_le _)) he hr with ⟨q, hq, ⟨s1, hs1, hgd⟩, t1, t2, t3, t4⟩ | ⟨hb, hd⟩
      · refine .inl ⟨_, a_paren he hr hq, ?_⟩
        refine ⟨by rw [t4]; simp, t2, t3, ?_, ?_, ?_, ?_⟩
        · show q.1 = [(pUp (pMust ts [41] q.2)).nodes.length - 1]
          rw [t1]; exact hgd.one
        · show s.nodes.length < (pUp (pMust ts [41] q.2)).nodes.length
          rw [t1, ← hs1]; exact hgd.pos
        · obtain ⟨g, hg1, hg2⟩ := hgd.sg
          exact ⟨g, by show (pUp (pMust ts [41] q.2)).nodes = _; rw [t1, ← hs1]; exact hg1, hg2⟩
        · show shV (pUp (pMust ts [41] q.2)).nodes ((pUp (pMust ts [41] q.2)).nodes.length - 1) = _
          rw [t1]; exact hgd.sh
      · exact .inr ⟨Bad.map (f := fun q => (q.1, pUp (pMust ts [41] q.2))) hb (fun q hq => a_paren he hr hq) (fun q h => must21 h), hd⟩
    · have e : atP (pcV ns x) m = atP (pcV ns x) 0 := by unfold atP; rw [if_neg hm, if_neg (by omega)]
      have e2 : nAt (ndV ns x) m = nAt (ndV ns x) 0 := by unfold nAt; rw [ndV_lev hx, ← pcV_lev hx, if_neg hm, if_neg (by omega)]
      rw [if_neg hm] at hlv
      rw [e] at hr ⊢
      rw [e2]
      exact plain lv h5 hlv he hr hf
end
end Go.Proofs.YtahhgnbiahomiaaDoor
/- Back: the parser's rules for what is no expression; calls and rights. -/
namespace Go.Proofs.YtahhgnbiahomiaaDoor
open Go.RowKit
set_option linter.unusedVariables false
set_option linter.unusedSimpArgs false
section
variable {src : List UInt8} {ts : List Tok} {ns : List NodeM} {x : Nat} {nd : NodeM} {s t : PS} {q r b c : List Nat × PS}
abbrev wLet : List UInt8 := [108, 101, 116]
abbrev wPrint : List UInt8 := [112, 114, 105, 110, 116]
abbrev wWhile : List UInt8 := [119, 104, 105, 108, 101]
abbrev wIf : List UInt8 := [105, 102]
abbrev wElse : List UInt8 := [101, 108, 115, 101]
abbrev wRet : List UInt8 := [114, 101, 116, 117, 114, 110]
abbrev wInput : List UInt8 := [105, 110, 112, 117, 116]
abbrev wNew : List UInt8 := [110, 101, 119]
theorem r_let (hw : pWord ts s = wLet) (h : Runs src ts .right (pMust ts [61] (pNamed ts (pGo s))) q) : Runs src ts .stmt s (pPut 10 (pLine src ts s) 0 (pName ts (pGo s)) q.1 (pMust ts [59] q.2)) := by
  obtain ⟨n, a⟩ := h
  exact ⟨n + 1, by simp only [run]; rw [if_pos hw, a]; rfl⟩
theorem r_print (hw : pWord ts s = wPrint) (h : Runs src ts (.chain 0) (pGo s) q) : Runs src ts .stmt s (pPut 14 (pLine src ts s) 0 [] q.1 (pMust ts [59] q.2)) := by
  obtain ⟨n, a⟩ := h
  exact ⟨n + 1, by simp only [run]; rw [if_neg (by rw [hw]; decide), if_pos hw, a]; rfl⟩
theorem r_while (hw : pWord ts s = wWhile) (h : Runs src ts (.chain 0) (pGo s) q) (h2 : Runs src ts .block q.2 b) : Runs src ts .stmt s (pPut 16 (pLine src ts s) 0 [] (q.1 ++ b.1) b.2) := by
  obtain ⟨n, a, a2⟩ := h.two h2
  exact ⟨n + 1, by simp only [run]; rw [if_neg (by rw [hw]; decide), if_neg (by rw [hw]; decide), if_pos hw, a]; simp only [Option.bind_some]; rw [a2]; rfl⟩
theorem r_if2 (hw : pWord ts s = wIf) (h : Runs src ts (.chain 0) (pGo s) q) (h2 : Runs src ts .block q.2 b) (h3 : pIs ts wElse b.2 = false) : Runs src ts .stmt s (pPut 15 (pLine src ts s) 0 [] (q.1 ++ b.1) b.2) := by
  obtain ⟨n, a, a2⟩ := h.two h2
  exact ⟨n + 1, by simp only [run]; rw [if_neg (by rw [hw]; decide), if_neg (by rw [hw]; decide), if_neg (by rw [hw]; decide), if_pos hw, a]; simp only [Option.bind_some]; rw [a2]; simp only [Option.bind_some]; rw [show pIs ts [101, 108, 115, 101] b.2 = false from h3]; rfl⟩
theorem r_if3 (hw : pWord ts s = wIf) (h : Runs src ts (.chain 0) (pGo s) q) (h2 : Runs src ts .block q.2 b) (h3 : pIs ts wElse b.2 = true) (h4 : Runs src ts .block (pGo b.2) c) : Runs src ts .stmt s (pPut 15 (pLine src ts s) 0 [] (q.1 ++ b.1 ++ c.1) c.2) := by
  obtain ⟨n, a, a2, a3⟩ := h.three h2 h4
  exact ⟨n + 1, by simp only [run]; rw [if_neg (by rw [hw]; decide), if_neg (by rw [hw]; decide), if_neg (by rw [hw]; decide), if_pos hw, a]; simp only [Option.bind_some]; rw [a2]; simp only [Option.bind_some]; rw [show pIs ts [101, 108, 115, 101] b.2 = true from h3, if_pos rfl, a3]; rfl⟩
theorem r_ret0 (hw : pWord ts s = wRet) (h : pIs ts [59] (pGo s) = true) : Runs src ts .stmt s (pPut 17 (pLine src ts s) 0 [] [] (pMust ts [59] (pGo s))) :=
  ⟨1, by simp only [run]; rw [if_neg (by rw [hw]; decide), if_neg (by rw [hw]; decide), if_neg (by rw [hw]; decide), if_neg (by rw [hw]; decide), if_pos hw, if_pos h]⟩
theorem r_ret1 (hw : pWord ts s = wRet) (h : pIs ts [59] (pGo s) = false) (h2 : Runs src ts (.chain 0) (pGo s) q) : Runs src ts .stmt s (pPut 17 (pLine src ts s) 0 [] q.1 (pMust ts [59] q.2)) := by
  obtain ⟨n, a⟩ := h2
  exact ⟨n + 1, by simp only [run]; rw [if_neg (by rw [hw]; decide), if_neg (by rw [hw]; decide), if_neg (by rw [hw]; decide), if_neg (by rw [hw]; decide), if_pos hw, if_neg (by rw [h]; decide), a]; rfl⟩
theorem r_named (hw : pWord ts s = []) (h : Runs src ts (.named (pLine src ts s)) s r) : Runs src ts .stmt s r := by
  obtain ⟨n, a⟩ := h
  exact ⟨n + 1, by simp only [run]; rw [if_neg (by rw [hw]; decide), if_neg (by rw [hw]; decide), if_neg (by rw [hw]; decide), if_neg (by rw [hw]; decide), if_neg (by rw [hw]; decide), a]⟩
theorem n_call {line : Nat} (hc : pCalls ts s = true) (h : Runs src ts .call s q) : Runs src ts (.named line) s (pPut 13 line 0 [] q.1 (pMust ts [59] q.2)) := by
  obtain ⟨n, a⟩ := h
  exact ⟨n + 1, by simp only [run]; rw [if_pos hc, a]; rfl⟩
theorem n_put {line : Nat} (hc : pCalls ts s = false) (hb : pIs ts [91] (pNamed ts s) = true) (h : Runs src ts (.chain 0) (pMust ts [91] (pDown ts (pNamed ts s))) q) (h2 : Runs src ts (.chain 0) (pMust ts [61] (pUp (pMust ts [93] q.2))) b) :
    Runs src ts (.named line) s (pPut 12 line 0 (pName ts s) (q.1 ++ b.1) (pMust ts [59] b.2)) := by
  obtain ⟨n, a, a2⟩ := h.two h2
  exact ⟨n + 1, by simp only [run]; rw [if_neg (by rw [hc]; decide), if_pos hb, a]; simp only [Option.bind_some]; rw [a2]; rfl⟩
theorem n_set {line : Nat} (hc : pCalls ts s = false) (hb : pIs ts [91] (pNamed ts s) = false) (h : Runs src ts .right (pMust ts [61] (pNamed ts s)) q) : Runs src ts (.named line) s (pPut 11 line 0 (pName ts s) q.1 (pMust ts [59] q.2)) := by
  obtain ⟨n, a⟩ := h
  exact ⟨n + 1, by simp only [run]; rw [if_neg (by rw [hc]; decide), if_neg (by rw [hb]; decide), a]; rfl⟩
theorem r_block (ho : pIs ts [123] s = true) (h : Runs src ts (.stmts []) (pMust ts [123] (pDown ts s)) q) : Runs src ts .block s (pPut 18 (pLine src ts s) 0 [] q.1 (pUp (pMust ts [125] q.2))) := by
  obtain ⟨n, a⟩ := h
  exact ⟨n + 1, by simp only [run]; rw [if_pos ho, a]; rfl⟩
theorem s_end {l : List Nat} (he : s.e = 0) (h : pIs ts [125] s = true) : Runs src ts (.stmts l) s (l, s) := ⟨1, by simp only [run]; rw [if_neg (by simp [he]), if_pos h]⟩
theorem s_more {l : List Nat} (he : s.e = 0) (h : pIs ts [125] s = false) (h1 : Runs src ts .stmt s q) (h2 : Runs src ts (.stmts (l ++ q.1)) q.2 r) : Runs src ts (.stmts l) s r := by
  obtain ⟨n, a, a2⟩ := h1.two h2
  exact ⟨n + 1, by simp only [run]; rw [if_neg (by simp [he]), if_neg (by rw [h]; decide), a]; exact a2⟩
theorem g_input (h : pIs ts wInput s = true) : Runs src ts .right s (pPut 19 (pLine src ts s) 0 [] [] (pGo s)) := ⟨1, by simp only [run]; rw [if_pos h]⟩
theorem g_new (h0 : pIs ts wInput s = false) (h : pIs ts wNew s = true) (h1 : Runs src ts (.chain 0) (pMust ts [40] (pGo s)) q) : Runs src ts .right s (pPut 20 (pLine src ts s) 0 [] q.1 (pMust ts [41] q.2)) := by
  obtain ⟨n, a⟩ := h1
  exact ⟨n + 1, by simp only [run]; rw [if_neg (by rw [show pIs ts [105, 110, 112, 117, 116] s = false from h0]; decide), if_pos h, a]; rfl⟩
theorem g_call (h0 : pIs ts wInput s = false) (h : pIs ts wNew s = false) (hc : pCalls ts s = true) (h1 : Runs src ts .call s q) : Runs src ts .right s q := by
  obtain ⟨n, a⟩ := h1
  exact ⟨n + 1, by simp only [run]; rw [if_neg (by rw [show pIs ts [105, 110, 112, 117, 116] s = false from h0]; decide), if_neg (by rw [show pIs ts [110, 101, 119] s = false from h]; decide), if_pos hc, a]⟩
theorem g_expr (h0 : pIs ts wInput s = false) (h : pIs ts wNew s = false) (hc : pCalls ts s = false) (h1 : Runs src ts (.chain 0) s q) : Runs src ts .right s q := by
  obtain ⟨n, a⟩ := h1
  exact ⟨n + 1, by simp only [run]; rw [if_neg (by rw [show pIs ts [105, 110, 112, 117, 116] s = false from h0]; decide), if_neg (by rw [show pIs ts [110, 101, 119] s = false from h]; decide), if_neg (by rw [hc]; decide), a]⟩
theorem c_none (h : pIs ts [41] (pMust ts [40] (pNamed ts s)) = true) : Runs src ts .call s (pPut 21 (pLine src ts s) 0 (pName ts s) [] (pMust ts [41] (pMust ts [40] (pNamed ts s)))) :=
  ⟨1, by simp only [run]; rw [if_neg (by rw [h]; simp)]; rfl⟩
theorem c_some (h : pIs ts [41] (pMust ts [40] (pNamed ts s)) = false) (he : (pMust ts [40] (pNamed ts s)).e = 0) (h1 : Runs src ts (.args []) (pMust ts [40] (pNamed ts s)) q) : Runs src ts .call s (pPut 21 (pLine src ts s) 0 (pName ts s) q.1 (pMust ts [41] q.2)) := by
  obtain ⟨n, a⟩ := h1
  exact ⟨n + 1, by simp only [run]; rw [if_pos ⟨h, he⟩, a]; rfl⟩
theorem ar_more {l : List Nat} (h1 : Runs src ts (.chain 0) s q) (h : pIs ts [44] q.2 = true) (h2 : Runs src ts (.args (l ++ q.1)) (pGo q.2) r) : Runs src ts (.args l) s r := by
  obtain ⟨n, a, a2⟩ := h1.two h2
  exact ⟨n + 1, by simp only [run]; rw [a]; simp only [Option.bind_some]; rw [if_pos h]; exact a2⟩
theorem ar_end {l : List Nat} (h1 : Runs src ts (.chain 0) s q) (h : pIs ts [44] q.2 = false) : Runs src ts (.args l) s (l ++ q.1, q.2) := by
  obtain ⟨n, a⟩ := h1
  exact ⟨n + 1, by simp only [run]; rw [a]; simp only [Option.bind_some]; rw [if_neg (by rw [h]; decide)]⟩
/-- What comes of some nodes' pieces. -/
structure Kd (ns : List NodeM) (l : List Nat) (s : PS) (m : Nat) (acc : List Nat) (r : List Nat × PS) : Prop where
  i : r.2.i = s.i + m
  e : r.2.e = 0
  deep : r.2.deep = s.deep
  row : ∃ l', r.1 = acc ++ l' ∧ l'.map (shV r.2.nodes) = l.map (shV ns)
  sg : ∃ g, r.2.nodes = s.nodes ++ g ∧ g.map strip = l.flatMap (rL ns)
theorem Kd.nil {acc : List Nat} (he : s.e = 0) : Kd ns [] s 0 acc (acc, s) := ⟨rfl, he, rfl, ⟨[], by simp, rfl⟩, ⟨[], by simp, rfl⟩⟩
theorem Kd.cons {a : Nat} {l : List Nat} {m m2 : Nat} {acc : List Nat} {s2 : PS} (h : Gd ns a s m q) (hs2 : s2.nodes = q.2.nodes) (h2 : Kd ns l s2 m2 (acc ++ q.1) r) (d : s2.deep = q.2.deep) {k : Nat} (i : s2.i = q.2.i + k) : Kd ns (a :: l) s (m + k + m2) acc r := by
  obtain ⟨l', h3, h4⟩ := h2.row
  obtain ⟨g, h5, h6⟩ := h.sg
  obtain ⟨g2, h7, h8⟩ := h2.sg
  have hp := h.pos
  refine ⟨by rw [h2.i, i, h.i]; omega, h2.e, by rw [h2.deep, d, h.deep], ⟨(q.2.nodes.length - 1) :: l', by rw [h3, h.one, List.append_assoc]; rfl, ?_⟩, ⟨g ++ g2, by rw [h7, hs2, h5, List.append_assoc], by rw [List.map_append, h6, h8, List.flatMap_cons]⟩⟩
  rw [List.map_cons, List.map_cons, h4]
  congr 1
  rw [h7, hs2, shV_more (by omega), h.sh]
theorem Gd.putL (hk : NodesOk ns) (hx : ns[x]? = some nd) {s1 : PS} {m1 m : Nat} (h : Kd ns nd.l s1 m1 [] q) (hs1 : s1.nodes = s.nodes) (line : Nat) (ht : t.nodes = q.2.nodes) (e : t.e = 0) (d : t.deep = s.deep) (i : t.i = s.i + m) : Gd ns x s m (pPut nd.kind line nd.n nd.name q.1 t) := by
  obtain ⟨l', h3, h4⟩ := h.row
  obtain ⟨g, h5, h6⟩ := h.sg
  rw [List.nil_append] at h3
  exact Gd.put hk hx (g := g) line (by rw [ht, h5, hs1]) h6 (by rw [ht, h3]; exact h4) e d i
/-! Expressions' pieces. -/
theorem xp_ok (hk : NodesOk ns) (hn : Nms ns) : ∀ x, Kid ns clsR x → Xp (pcV ns x).1 := by
  intro x
  induction x using Nat.strongRecOn with
  | _ x ih =>
    intro hkx
    obtain ⟨nd, hx, hcl⟩ := hkx
    have hN := hk x nd hx
    have hm := hn nd (List.mem_of_getElem? hx)
    have kid : ∀ {a : Nat}, Kid (ns.take x) clsE a → Xp (pcV (ns.take x) a).1 := fun h => by
      obtain ⟨h1, h2⟩ := h.take
      rw [pcV_take h1]
      exact ih _ h1 (h2.le (fun k hk => by unfold clsR; rw [hk]; rfl))
    rw [pcV_eq hx]
    show Xp (pcsN (fun i => pcV (ns.take x) i) nd)
    generalize pcV (ns.take x) = P at *
    cases hN with
    | int line n h =>
      refine Xp.one (int_val h) ?_ rfl (show (1 : Nat) ≠ 5 by decide)
      show startB ((Lib.itoa n).headD 0) = true
      rw [itoa_dec]
      obtain ⟨h1, h2, _⟩ := dec_all n
      cases hd : Lib.decDigits n with
      | nil => exact absurd hd h2
      | cons a l =>
        have := h1 a (by rw [hd]; exact List.mem_cons_self)
        unfold startB
        have hdg : digitI a.toNat = true := by unfold digitI; simp; omega
        show (letterI a.toNat || digitI a.toNat || _) = true
        rw [hdg]; simp
    | bool line n h =>
      refine Xp.one (p := kw (if n = 1 then [116, 114, 117, 101] else [102, 97, 108, 115, 101])) ?_ ?_ rfl (by show (4 : Nat) ≠ 5; decide)
      · split <;> exact word_val (by decide) (.inl rfl)
      · split <;> decide
    | text line y => exact Xp.one (text_val (hm.1 rfl)) (by show startB 34 = true; decide) rfl (by show (2 : Nat) ≠ 5; decide)
    | var line y => exact Xp.one (name_val (hm.2.1 (by simp)) (.inl rfl)) (name_start (hm.2.1 (by simp))) rfl (by show (3 : Nat) ≠ 5; decide)
    | index line y a h => exact Xp.wrap (name_val (hm.2.1 (by simp)) (.inl rfl)) (name_start (hm.2.1 (by simp))) (by show (3 : Nat) ≠ 5; decide) (kid h) (by decide) (.inr rfl)
    | len line a h => exact Xp.wrap (word_val (by decide) (.inl rfl)) (by decide) (by decide) (kid h) (by decide) (.inl rfl)
    | neg line a h => exact ((kid h).at 5).pre (.inl rfl)
    | not line a h => exact ((kid h).at 5).pre (.inr rfl)
    | bin line y a b hy h h2 => exact ((kid h).at _).bin ((kid h2).at _) hy
    | input line => exact Xp.one (word_val (by decide) (.inl rfl)) (by decide) rfl (by decide)
    | new line a h => exact Xp.wrap (word_val (by decide) (.inl rfl)) (by decide) (by decide) (kid h) (by decide) (.inl rfl)
    | call line y l h =>
      have hv := name_val (hm.2.1 (by simp)) (g := []) (.inl rfl)
      have hst := name_start (hm.2.1 (by simp)) (g := [])
      by_cases hl : l = []
      · subst hl
        exact ⟨lex_head hv (.inr (show (3 : Nat) ≠ 5 by decide)) (by decide) (lexes_cons (sign_val (by decide) (.inl rfl)) (lexes_one (sign_val (by decide) (.inl rfl))) (fun q hq => by
          simp at hq
          subst hq
          refine .inr ⟨fun e => (by cases e), fun e => (by rcases e with e | e <;> cases e), fun _ => .inr ⟨by decide, by decide⟩⟩)), ⟨_, _, rfl, hst⟩, ends_close [nmP y, sg [40]] (.inl rfl)⟩
      · have hj : Xp (joinP (l.map fun c => (P c).1)) := Xp.join (by simpa using hl) (fun a ha => by
          obtain ⟨c, hc, rfl⟩ := List.mem_map.1 ha
          exact kid (h c hc))
        exact Xp.wrap hv hst (by show (3 : Nat) ≠ 5; decide) hj (by decide) (.inl rfl)
    | _ => simp [clsR, clsE] at hcl
/-- How an expression begins. -/
def Begins (T : List (Nat × List UInt8)) : Prop := (T.headD (0, [])) ≠ (4, wInput) ∧ (T.headD (0, [])) ≠ (4, wNew) ∧ ¬ ((T.headD (0, [])).1 = 3 ∧ T.tail.headD (0, []) = (5, [40]))
theorem ne4 {k : Nat} {y w : List UInt8} (h : k ≠ 4) : (k, y) ≠ (4, w) := fun e => h (congrArg Prod.fst e)
theorem begins_ok (hk : NodesOk ns) : ∀ x, Kid ns clsE x → ∀ R, (R.headD (0, [])) ≠ (5, [40]) → Begins (tks (pcV ns x).1 ++ R) := by
  intro x
  induction x using Nat.strongRecOn with
  | _ x ih =>
    intro hkx
    obtain ⟨nd, hx, hcl⟩ := hkx
    have hN := hk x nd hx
    have kid : ∀ {a : Nat}, Kid (ns.take x) clsE a → ∀ R, (R.headD (0, [])) ≠ (5, [40]) → Begins (tks (pcV (ns.take x) a).1 ++ R) := fun h => by
      obtain ⟨h1, h2⟩ := h.take
      rw [pcV_take h1]
      exact ih _ h1 h2
    have first : ∀ {k : Nat} {y : List UInt8} {R : List (Nat × List UInt8)}, k ≠ 3 → (k, y) ≠ (4, wInput) → (k, y) ≠ (4, wNew) → Begins ((k, y) :: R) := fun h1 h2 h3 => ⟨h2, h3, fun e => h1 e.1⟩
    rw [pcV_eq hx]
    intro R hR
    show Begins (tks (pcsN (fun i => pcV (ns.take x) i) nd) ++ R)
    generalize pcV (ns.take x) = P at *
    cases hN with
    | int line n h => exact first (show (1 : Nat) ≠ 3 by decide) (ne4 (show (1 : Nat) ≠ 4 by decide)) (ne4 (show (1 : Nat) ≠ 4 by decide))
    | bool line n h => simp only [pcsN]; split <;> exact first (by decide) (by decide) (by decide)
    | text line y => exact first (show (2 : Nat) ≠ 3 by decide) (ne4 (show (2 : Nat) ≠ 4 by decide)) (ne4 (show (2 : Nat) ≠ 4 by decide))
    | var line y => exact ⟨by simp [pcsN, tks, nmP], by simp [pcsN, tks, nmP], fun e => hR e.2⟩
    | index line y a h => exact ⟨by simp [pcsN, tks, nmP], by simp [pcsN, tks, nmP], fun e => by have := e.2; revert this; simp [pcsN, tks, nmP, sg]⟩
    | len line a h => exact first (by decide) (by decide) (by decide)
    | neg line a h => exact first (show (5 : Nat) ≠ 3 by decide) (ne4 (show (5 : Nat) ≠ 4 by decide)) (ne4 (show (5 : Nat) ≠ 4 by decide))
    | not line a h => exact first (show (5 : Nat) ≠ 3 by decide) (ne4 (show (5 : Nat) ≠ 4 by decide)) (ne4 (show (5 : Nat) ≠ 4 by decide))
    | bin line y a b hy h h2 =>
      show Begins (tks (atP (P a) (leftLv (signLv y)) ++ (sg y :: atP (P b) (signLv y + 1))) ++ R)
      rw [tks_append, List.append_assoc]
      unfold atP
      split
      · exact first (show (5 : Nat) ≠ 3 by decide) (ne4 (show (5 : Nat) ≠ 4 by decide)) (ne4 (show (5 : Nat) ≠ 4 by decide))
      · refine kid h _ ?_
        show (5, y) ≠ (5, [40])
        intro e
        injection e with e1 e2
        subst e2
        revert hy; decide
    | _ => simp [clsE] at hcl
end
end Go.Proofs.YtahhgnbiahomiaaDoor
/- Back: rights, calls, statements and blocks are read as they were. -/
namespace Go.Proofs.YtahhgnbiahomiaaDoor
open Go.RowKit
set_option linter.unusedVariables false
set_option linter.unusedSimpArgs false
section
variable {src : List UInt8} {ts : List Tok} {ns : List NodeM} {x : Nat} {nd : NodeM} {s t : PS} {q r : List Nat × PS}
theorem maxL_one (a : Nat) : maxL [a] = a := by simp [maxL]
theorem maxL_cons (a : Nat) (l : List Nat) : maxL (a :: l) = max a (maxL l) := rfl
/-- An expression does not begin with this sign. -/
theorem starts_no {l : List Pc} (h : Xp l) (he : s.e = 0) {R : List (Nat × List UInt8)} (hr : rest ts s.i = tks l ++ R) {c : UInt8} (hc : startB c = false) : pIs ts [c] s = false := by
  obtain ⟨p, l', rfl, hs⟩ := h.st
  have hr : rest ts s.i = (p.kind, p.text) :: (tks l' ++ R) := hr
  by_cases hk : p.kind = 2
  · exact is_noK he hr (by omega)
  · refine is_no he hr ?_
    intro e
    have : p.fb = c := by unfold Pc.fb Pc.lexeme; rw [if_neg hk, e]; rfl
    rw [this] at hs; rw [hs] at hc; cases hc
theorem fo0 {y : List UInt8} {R : List (Nat × List UInt8)} (h : y ∉ allSigns) (h2 : y ≠ [91]) : Fo 0 ((5, y) :: R) := fo_close h h2
/-- A whole expression. -/
theorem expr_way (hk : NodesOk ns) (hx : Kid ns clsE x) (he : s.e = 0) {R : List (Nat × List UInt8)} (hr : rest ts s.i = tks (pcV ns x).1 ++ R) (hf : Fo 0 R) :
    (∃ q, Runs src ts (.chain 0) s q ∧ Gd ns x s (pcV ns x).1.length q) ∨ (Bad src ts (.chain 0) s ∧ 16 < s.deep + (ndV ns x).1) := by
  have := SX.done (sx_all hk x hx 0 0 (by decide) (Nat.zero_le _)) (src := src) (by decide) he (R := R) (by rw [atP0]; exact hr) hf
  rw [atP0, nAt0] at this
  exact this
theorem rest_after {m : Nat} {K R : List (Nat × List UInt8)} (h : Gd ns x s m q) (hr : rest ts s.i = K ++ R) (hm : K.length = m) : rest ts q.2.i = R := by
  rw [h.i, ← hm]; exact rest_add hr
theorem args_way (hk : NodesOk ns) {R : List (Nat × List UInt8)} : ∀ (l : List Nat), l ≠ [] → (∀ a ∈ l, Kid ns clsE a) → ∀ (acc : List Nat) (s : PS), s.e = 0 → rest ts s.i = tks (joinP (l.map fun c => (pcV ns c).1)) ++ (5, [41]) :: R →
    (∃ r, Runs src ts (.args acc) s r ∧ Kd ns l s (joinP (l.map fun c => (pcV ns c).1)).length acc r) ∨ (Bad src ts (.args acc) s ∧ 16 < s.deep + maxL (l.map fun c => (ndV ns c).1))
  | [], h, _, _, _, _, _ => absurd rfl h
  | [a], _, hl, acc, s, he, hr => by
    have e : joinP ([a].map fun c => (pcV ns c).1) = (pcV ns a).1 := by show (pcV ns a).1 ++ [] = _; rw [List.append_nil]
    rw [e] at hr ⊢
    rcases expr_way (src := src) hk (hl a List.mem_cons_self) he hr (fo0 (by decide) (by decide)) with ⟨q, hq, hg⟩ | ⟨hb, hd⟩
    · have hr2 := rest_after hg hr (tks_len _)
      refine .inl ⟨_, ar_end hq (is_no hg.e hr2 (by decide)), ?_⟩
      have := Kd.cons (k := 0) hg rfl (Kd.nil (acc := acc ++ q.1) hg.e) rfl rfl
      exact this
    · refine .inr ⟨?_, by show 16 < s.deep + maxL [_]; rw [maxL_one]; exact hd⟩
      obtain ⟨q, hq, h21⟩ := hb
      have hno : pIs ts [44] q.2 = false := by unfold pIs; rw [decide_eq_false (by rw [h21]; decide)]; simp
      exact ⟨_, ar_end hq hno, h21⟩
  | a :: b :: l, _, hl, acc, s, he, hr => by
    have e : joinP ((a :: b :: l).map fun c => (pcV ns c).1) = (pcV ns a).1 ++ (sg [44] :: joinP ((b :: l).map fun c => (pcV ns c).1)) := rfl
    rw [e] at hr ⊢
    have hr : rest ts s.i = tks (pcV ns a).1 ++ (5, [44]) :: (tks (joinP ((b :: l).map fun c => (pcV ns c).1)) ++ (5, [41]) :: R) := by rw [hr, tks_append, tks_cons]; simp [sg]
    rcases expr_way (src := src) hk (hl a List.mem_cons_self) he hr (fo0 (by decide) (by decide)) with ⟨q, hq, hg⟩ | ⟨hb, hd⟩
    · have hr2 := rest_after hg hr (tks_len _)
      have hg2 : rest ts (pGo q.2).i = _ := rest_go hr2
      rcases args_way hk (b :: l) (by simp) (fun c hc => hl c (List.mem_cons_of_mem _ hc)) (acc ++ q.1) (pGo q.2) hg.e hg2 with ⟨r, hr3, hkd⟩ | ⟨hb, hd⟩
      · refine .inl ⟨r, ar_more hq (is_yes hg.e hr2) hr3, ?_⟩
        have := Kd.cons (k := 1) hg (s2 := pGo q.2) rfl hkd rfl rfl
        rw [show ((pcV ns a).1 ++ (sg [44] :: joinP ((b :: l).map fun c => (pcV ns c).1))).length = (pcV ns a).1.length + 1 + (joinP ((b :: l).map fun c => (pcV ns c).1)).length by simp; omega]
        exact this
      · refine .inr ⟨?_, ?_⟩
        · obtain ⟨r, h1, h2⟩ := hb
          exact ⟨r, ar_more hq (is_yes hg.e hr2) h1, h2⟩
        · have h9 : (pGo q.2).deep = s.deep := hg.deep
          rw [List.map_cons, maxL_cons]; omega
    · refine .inr ⟨?_, by rw [List.map_cons, maxL_cons]; omega⟩
      obtain ⟨q, hq, h21⟩ := hb
      have hno : pIs ts [44] q.2 = false := by unfold pIs; rw [decide_eq_false (by rw [h21]; decide)]; simp
      exact ⟨_, ar_end hq hno, h21⟩
/-- Ways of other tasks. -/
def WayK (src : List UInt8) (ts : List Tok) (k : Task) (ns : List NodeM) (x : Nat) (s : PS) (m need : Nat) : Prop := (∃ q, Runs src ts k s q ∧ Gd ns x s m q) ∨ (Bad src ts k s ∧ 16 < s.deep + need)
theorem WayK.rule {k k2 : Task} {m need : Nat} (h : WayK src ts k ns x s m need) (rule : ∀ q, Runs src ts k s q → Runs src ts k2 s q) : WayK src ts k2 ns x s m need := by
  rcases h with ⟨q, hq, hg⟩ | ⟨hb, hd⟩
  · exact .inl ⟨q, rule q hq, hg⟩
  · exact .inr ⟨Bad.map (f := fun q => q) hb rule (fun q h => h), hd⟩
theorem call_way (hk : NodesOk ns) (hn : Nms ns) (hx : Kid ns clsC x) (he : s.e = 0) {R : List (Nat × List UInt8)} (hr : rest ts s.i = tks (pcV ns x).1 ++ R) : WayK src ts .call ns x s (pcV ns x).1.length (ndV ns x).1 ∧ pCalls ts s = true ∧ pWord ts s = [] := by
  obtain ⟨nd, hx, hcl⟩ := hx
  have hN := hk x nd hx
  cases hN with
  | call line y l hl =>
    have hl2 : ∀ a ∈ l, Kid ns clsE a := fun a ha => (hl a ha).take.2
    have hP : (l.map fun c => (pcV (ns.take x) c).1) = l.map fun c => (pcV ns c).1 := List.map_congr_left fun a ha => by rw [pcV_take (hl a ha).take.1]
    have e : (pcV ns x).1 = nmP y :: sg [40] :: (joinP (l.map fun c => (pcV ns c).1) ++ [sg [41]]) := by rw [pcV_eq hx, ← hP]; rfl
    have e2 : (ndV ns x).1 = maxL (l.map fun c => (ndV ns c).1) := by
      rw [ndV_eq hx]
      show maxL (l.map fun c => (ndV (ns.take x) c).1) = _
      rw [show (l.map fun c => (ndV (ns.take x) c).1) = l.map fun c => (ndV ns c).1 from List.map_congr_left fun a ha => by rw [ndV_take (hl a ha).take.1]]
    rw [e] at hr ⊢
    rw [e2]
    have hr : rest ts s.i = (3, y) :: (5, [40]) :: (tks (joinP (l.map fun c => (pcV ns c).1)) ++ (5, [41]) :: R) := by rw [hr, tks_cons, tks_cons, tks_append]; simp [tks, nmP, sg]
    have hg : rest ts (pGo s).i = (5, [40]) :: (tks (joinP (l.map fun c => (pcV ns c).1)) ++ (5, [41]) :: R) := rest_go hr
    have hg2 : rest ts (pGo (pGo s)).i = tks (joinP (l.map fun c => (pcV ns c).1)) ++ (5, [41]) :: R := rest_go hg
    obtain ⟨n1, n2⟩ := named_ok he hr
    have hm := must_ok (s := pGo s) he hg
    refine ⟨?_, ?_, word_no he hr (by decide)⟩
    · by_cases h0 : l = []
      · subst h0
        have hg3 : rest ts (pGo (pGo s)).i = (5, [41]) :: R := hg2
        have hR := c_none (src := src) (ts := ts) (s := s) (by rw [n1, hm]; exact is_yes (s := pGo (pGo s)) he hg3)
        rw [n1, n2, hm, must_ok (s := pGo (pGo s)) he hg3] at hR
        exact .inl ⟨_, hR, Gd.leaf hk hx rfl _ (t := pGo (pGo (pGo s))) he rfl rfl rfl⟩
      · have hXp : Xp (joinP (l.map fun c => (pcV ns c).1)) := Xp.join (by simpa using h0) (fun a ha => by
          obtain ⟨c, hc, rfl⟩ := List.mem_map.1 ha
          exact xp_ok hk hn c ((hl2 c hc).le (fun k hk => by unfold clsR; rw [hk]; rfl)))
        have hno := starts_no hXp (s := pGo (pGo s)) he hg2 (c := 41) (by decide)
        rcases args_way (src := src) hk l h0 hl2 [] (pGo (pGo s)) he hg2 with ⟨r, hr3, hkd⟩ | ⟨hb, hd⟩
        · have hR := c_some (src := src) (ts := ts) (s := s) (q := r) (by rw [n1, hm]; exact hno) (by rw [n1, hm]; exact he) (by rw [n1, hm]; exact hr3)
          have hr4 : rest ts r.2.i = (5, [41]) :: R := by
            have := rest_add hg2
            rw [tks_len] at this
            rw [hkd.i]; exact this
          rw [n2, must_ok hkd.e hr4] at hR
          refine .inl ⟨_, hR, Gd.putL (s := s) hk hx hkd rfl _ (t := pGo r.2) rfl hkd.e hkd.deep ?_⟩
          show r.2.i + 1 = _
          rw [hkd.i]; show s.i + 1 + 1 + _ + 1 = _; simp; omega
        · exact .inr ⟨Bad.map (f := fun q => pPut 21 (pLine src ts s) 0 (pName ts s) q.1 (pMust ts [41] q.2)) hb (fun q hq => c_some (by rw [n1, hm]; exact hno) (by rw [n1, hm]; exact he) (by rw [n1, hm]; exact hq)) (fun q h => must21 h), hd⟩
    · unfold pCalls
      rw [kind_eq he hr]
      obtain ⟨a1, a2⟩ := tok_kind (s := pGo s) hg
      show (decide (3 = 3) && (decide ((ts.getD (s.i + 1) tok0).kind = 5) && decide ((ts.getD (s.i + 1) tok0).text = [40]))) = true
      have a1 : (ts.getD (s.i + 1) tok0).kind = 5 := a1
      have a2 : (ts.getD (s.i + 1) tok0).text = [40] := a2
      rw [a1, a2]; rfl
  | _ => simp [clsC] at hcl
theorem calls_no (he : s.e = 0) {T : List (Nat × List UInt8)} (hr : rest ts s.i = T) (hb : ¬ ((T.headD (0, [])).1 = 3 ∧ T.tail.headD (0, []) = (5, [40]))) : pCalls ts s = false := by
  have h1 := rest_hd (ts := ts) s
  rw [hr] at h1
  have h2 := rest_hd (ts := ts) (pGo s)
  have h3 : rest ts (pGo s).i = T.tail := by
    show rest ts (s.i + 1) = _
    rw [← hr]
    unfold rest
    rw [← List.map_tail, List.tail_drop]
  rw [h3] at h2
  unfold pCalls pKind
  by_cases hk : (pTok ts s).kind = 3
  · have h4 : ¬ (T.tail.headD (0, []) = (5, [40])) := fun e => hb ⟨by rw [← h1]; exact hk, e⟩
    rw [← h2] at h4
    by_cases h5 : (ts.getD (s.i + 1) tok0).kind = 5
    · have h6 : (ts.getD (s.i + 1) tok0).text ≠ [40] := fun e => h4 (by show ((ts.getD (s.i + 1) tok0).kind, (ts.getD (s.i + 1) tok0).text) = _; rw [h5, e])
      rw [decide_eq_false h6]; simp
    · rw [decide_eq_false h5]; simp
  · rw [decide_eq_false hk]; simp
theorem is_hd (he : s.e = 0) {T : List (Nat × List UInt8)} (hr : rest ts s.i = T) {w : List UInt8} (h4 : (T.headD (0, [])) ≠ (4, w)) (h5 : (T.headD (0, [])) ≠ (5, w)) : pIs ts w s = false := by
  have h1 := rest_hd (ts := ts) s
  rw [hr] at h1
  unfold pIs
  rw [← h1] at h4 h5
  by_cases ht : (pTok ts s).text = w
  · have a : (pTok ts s).kind ≠ 4 := fun e => h4 (by rw [e, ht])
    have b : (pTok ts s).kind ≠ 5 := fun e => h5 (by rw [e, ht])
    rw [decide_eq_false a, decide_eq_false b]; simp
  · rw [decide_eq_false ht]; simp
/-- A right. -/
theorem right_way (hk : NodesOk ns) (hn : Nms ns) (hx : Kid ns clsR x) (he : s.e = 0) {R : List (Nat × List UInt8)} (hr : rest ts s.i = tks (pcV ns x).1 ++ (5, [59]) :: R) : WayK src ts .right ns x s (pcV ns x).1.length (ndV ns x).1 := by
  obtain ⟨nd, hx, hcl⟩ := hx
  by_cases hE : clsE nd.kind = true
  · have hkx : Kid ns clsE x := ⟨nd, hx, hE⟩
    obtain ⟨b1, b2, b3⟩ := begins_ok hk x hkx ((5, [59]) :: R) (by simp)
    have hXp := xp_ok hk hn x ⟨nd, hx, hcl⟩
    have h5 : ∀ w : List UInt8, (w = wInput ∨ w = wNew) → (tks (pcV ns x).1 ++ (5, [59]) :: R).headD (0, []) ≠ (5, w) := fun w hw e => by
      obtain ⟨p, l', hpl, hs⟩ := hXp.st
      have hv : p.Val := by have := hXp.lex; rw [hpl] at this; exact this.1
      rw [hpl] at e
      injection e with e1 e2
      have e1 : p.kind = 5 := e1
      have e2 : p.text = w := e2
      rcases hv.sign e1 with h2 | ⟨c, h2, _⟩
      · have := (two_shape h2).1
        rw [e2] at this
        rcases hw with rfl | rfl <;> simp at this
      · rw [e2] at h2
        have := congrArg List.length h2
        rcases hw with rfl | rfl <;> simp at this
    rcases expr_way (src := src) hk hkx he hr (fo0 (by decide) (by decide)) with h | h
    · obtain ⟨q, hq, hg⟩ := h
      exact .inl ⟨q, g_expr (is_hd he hr b1 (h5 _ (.inl rfl))) (is_hd he hr b2 (h5 _ (.inr rfl))) (calls_no he hr b3) hq, hg⟩
    · exact .inr ⟨Bad.map (f := fun q => q) h.1 (fun q hq => g_expr (is_hd he hr b1 (h5 _ (.inl rfl))) (is_hd he hr b2 (h5 _ (.inr rfl))) (calls_no he hr b3) hq) (fun q h => h), h.2⟩
  · by_cases hC : clsC nd.kind = true
    · obtain ⟨h1, h2, h3⟩ := call_way (src := src) hk hn ⟨nd, hx, hC⟩ he hr
      have hk3 : pKind ts 3 s = true := by unfold pCalls at h2; simp at h2; exact h2.1
      have hk3 := (pKind_kind hk3).2
      have hi : ∀ w, pIs ts w s = false := fun w => by unfold pIs; rw [hk3]; simp
      exact h1.rule (fun q hq => g_call (hi _) (hi _) h2 hq)
    · have hN := hk x nd hx
      cases hN with
      | input line =>
        have e : (pcV ns x).1 = [kw wInput] := by rw [pcV_eq hx]; rfl
        rw [e] at hr ⊢
        have hr : rest ts s.i = (4, wInput) :: (5, [59]) :: R := hr
        exact .inl ⟨_, g_input (is_word he hr), Gd.leaf hk hx rfl _ (t := pGo s) he rfl rfl rfl⟩
      | new line a ha =>
        have e : (pcV ns x).1 = kw wNew :: sg [40] :: ((pcV ns a).1 ++ [sg [41]]) := by rw [pcV_eq hx, ← pcV_take ha.take.1]; rfl
        have e2 : (ndV ns x).1 = (ndV ns a).1 := by rw [ndV_eq hx, ← ndV_take ha.take.1]; exact maxL_one _
        rw [e] at hr ⊢
        rw [e2]
        have hr : rest ts s.i = (4, wNew) :: (5, [40]) :: (tks (pcV ns a).1 ++ (5, [41]) :: (5, [59]) :: R) := by rw [hr, tks_cons, tks_cons, tks_append]; simp [tks, kw, sg]
        have hg : rest ts (pGo s).i = (5, [40]) :: (tks (pcV ns a).1 ++ (5, [41]) :: (5, [59]) :: R) := rest_go hr
        have hg2 : rest ts (pGo (pGo s)).i = tks (pcV ns a).1 ++ (5, [41]) :: (5, [59]) :: R := rest_go hg
        have hm := must_ok (s := pGo s) he hg
        rcases expr_way (src := src) (s := pGo (pGo s)) hk ha.take.2 he hg2 (fo0 (by decide) (by decide)) with ⟨q, hq, hgd⟩ | ⟨hb, hd⟩
        · have hr4 := rest_after hgd hg2 (tks_len _)
          have hR := g_new (src := src) (is_no he hr (by decide)) (is_word he hr) (by rw [hm]; exact hq)
          rw [must_ok hgd.e hr4] at hR
          refine .inl ⟨_, hR, Gd.put1 (s := s) hk hx rfl hgd rfl _ (t := pGo q.2) rfl hgd.e hgd.deep ?_⟩
          show q.2.i + 1 = _
          rw [hgd.i]; show s.i + 1 + 1 + _ + 1 = _; simp; omega
        · exact .inr ⟨Bad.map (f := fun q => pPut 20 (pLine src ts s) 0 [] q.1 (pMust ts [41] q.2)) hb (fun q hq => g_new (is_no he hr (by decide)) (is_word he hr) (by rw [hm]; exact hq)) (fun q h => must21 h), hd⟩
      | call line y l hl => exact absurd rfl hC
      | _ => first | (exact absurd rfl hE) | (simp [clsR, clsE] at hcl)
end
end Go.Proofs.YtahhgnbiahomiaaDoor
/- Back: statements and blocks are read as they were. -/
namespace Go.Proofs.YtahhgnbiahomiaaDoor
open Go.RowKit
set_option linter.unusedVariables false
set_option linter.unusedSimpArgs false
section
variable {src : List UInt8} {ts : List Tok} {ns : List NodeM} {x : Nat} {nd : NodeM} {s t : PS} {q r : List Nat × PS}
def STk (ns : List NodeM) (x : Nat) : Prop := ∀ {src : List UInt8} {ts : List Tok} {s : PS} {R : List (Nat × List UInt8)}, s.e = 0 → rest ts s.i = tks (pcV ns x).1 ++ R → R.headD (0, []) ≠ (4, wElse) ∧ R.headD (0, []) ≠ (5, wElse) → WayK src ts .stmt ns x s (pcV ns x).1.length (ndV ns x).1
def BLk (ns : List NodeM) (x : Nat) : Prop := ∀ {src : List UInt8} {ts : List Tok} {s : PS} {R : List (Nat × List UInt8)}, s.e = 0 → rest ts s.i = tks (pcV ns x).1 ++ R → WayK src ts .block ns x s (pcV ns x).1.length (ndV ns x).1
theorem block_first (hk : NodesOk ns) (hb : Kid ns clsB x) : ∃ T, tks (pcV ns x).1 = (5, [123]) :: T := by
  obtain ⟨nd, hx, hcl⟩ := hb
  have hN := hk x nd hx
  rw [pcV_eq hx]
  cases hN with
  | block line l h => exact ⟨_, rfl⟩
  | _ => simp [clsB] at hcl
theorem call_first (hk : NodesOk ns) (hb : Kid ns clsC x) : ∃ y T, tks (pcV ns x).1 = (3, y) :: T := by
  obtain ⟨nd, hx, hcl⟩ := hb
  have hN := hk x nd hx
  rw [pcV_eq hx]
  cases hN with
  | call line y l h => exact ⟨_, _, rfl⟩
  | _ => simp [clsC] at hcl
theorem stm_first (hk : NodesOk ns) (hb : Kid ns clsS x) : ∃ k y T, tks (pcV ns x).1 = (k, y) :: T ∧ (k = 3 ∨ k = 4) ∧ (k, y) ≠ (4, wElse) ∧ (k = 3 ∨ y ≠ [125]) := by
  obtain ⟨nd, hx, hcl⟩ := hb
  have hN := hk x nd hx
  have hdo : ∀ {a : Nat}, Kid (ns.take x) clsC a → ∃ y T, tks (pcV (ns.take x) a).1 = (3, y) :: T := fun h => by
    rw [pcV_take h.take.1]; exact call_first hk h.take.2
  rw [pcV_eq hx]
  show ∃ k y T, tks (pcsN (fun i => pcV (ns.take x) i) nd) = _ ∧ _
  cases hN with
  | let_ line y a h => exact ⟨4, wLet, _, rfl, .inr rfl, by decide, .inr (by decide)⟩
  | set line y a h => exact ⟨3, y, _, rfl, .inl rfl, ne4 (by decide), .inl rfl⟩
  | put line y a b h h2 => exact ⟨3, y, _, rfl, .inl rfl, ne4 (by decide), .inl rfl⟩
  | do_ line a h =>
    obtain ⟨y, T, e⟩ := hdo h
    refine ⟨3, y, T ++ [(5, [59])], ?_, .inl rfl, ne4 (by decide), .inl rfl⟩
    show tks ((pcV (ns.take x) a).1 ++ [sgn [59]]) = _
    rw [tks_append, e]; rfl
  | print line a h => exact ⟨4, wPrint, _, rfl, .inr rfl, by decide, .inr (by decide)⟩
  | if2 line a b h h2 => exact ⟨4, wIf, _, rfl, .inr rfl, by decide, .inr (by decide)⟩
  | if3 line a b c h h2 h3 => exact ⟨4, wIf, _, rfl, .inr rfl, by decide, .inr (by decide)⟩
  | loop line a b h h2 => exact ⟨4, wWhile, _, rfl, .inr rfl, by decide, .inr (by decide)⟩
  | ret0 line => exact ⟨4, wRet, _, rfl, .inr rfl, by decide, .inr (by decide)⟩
  | ret1 line a h => exact ⟨4, wRet, _, rfl, .inr rfl, by decide, .inr (by decide)⟩
  | _ => simp [clsS] at hcl
/-- Statements, one behind the other. -/
theorem stmts_way (hk : NodesOk ns) {R : List (Nat × List UInt8)} : ∀ (l : List Nat), (∀ a ∈ l, Kid ns clsS a ∧ STk ns a) → ∀ (acc : List Nat) (s : PS), s.e = 0 → rest ts s.i = tks (l.flatMap fun c => (pcV ns c).1) ++ (5, [125]) :: R →
    (∃ r, Runs src ts (.stmts acc) s r ∧ Kd ns l s (l.flatMap fun c => (pcV ns c).1).length acc r) ∨ (Bad src ts (.stmts acc) s ∧ 16 < s.deep + maxL (l.map fun c => (ndV ns c).1))
  | [], _, acc, s, he, hr => by
    have hr : rest ts s.i = (5, [125]) :: R := hr
    exact .inl ⟨_, s_end he (is_yes he hr), Kd.nil he⟩
  | a :: l, hl, acc, s, he, hr => by
    obtain ⟨hka, hsa⟩ := hl a List.mem_cons_self
    obtain ⟨k, y, T, e, h1, h2, h3⟩ := stm_first hk hka
    rw [List.flatMap_cons, tks_append, List.append_assoc] at hr
    have hhd : rest ts s.i = (k, y) :: (T ++ (tks (l.flatMap fun c => (pcV ns c).1) ++ (5, [125]) :: R)) := by rw [hr, e]; rfl
    have hno : pIs ts [125] s = false := by
      rcases h3 with h3 | h3
      · exact is_noK he hhd (by omega)
      · exact is_no he hhd h3
    have hfol : (tks (l.flatMap fun c => (pcV ns c).1) ++ (5, [125]) :: R).headD (0, []) ≠ (4, wElse) ∧ (tks (l.flatMap fun c => (pcV ns c).1) ++ (5, [125]) :: R).headD (0, []) ≠ (5, wElse) := by
      cases l with
      | nil => exact ⟨(show (5, [125]) ≠ (4, wElse) by decide), (show (5, [125]) ≠ (5, wElse) by decide)⟩
      | cons b l =>
        obtain ⟨k', y', T', e', h1', h2', h3'⟩ := stm_first hk (hl b (List.mem_cons_of_mem _ List.mem_cons_self)).1
        rw [List.flatMap_cons, tks_append, e']
        refine ⟨h2', fun e5 => ?_⟩
        have e6 : k' = 5 := congrArg Prod.fst e5
        omega
    rw [List.flatMap_cons]
    rcases hsa (src := src) he hr hfol with ⟨q, hq, hg⟩ | ⟨hb, hd⟩
    · have hr2 := rest_after hg hr (tks_len _)
      rcases stmts_way hk l (fun c hc => hl c (List.mem_cons_of_mem _ hc)) (acc ++ q.1) q.2 hg.e hr2 with ⟨r, hr3, hkd⟩ | ⟨hb, hd⟩
      · refine .inl ⟨r, s_more he hno hq hr3, ?_⟩
        rw [List.length_append]
        exact Kd.cons (k := 0) hg rfl hkd rfl rfl
      · obtain ⟨r, h5, h6⟩ := hb
        refine .inr ⟨⟨r, s_more he hno hq h5, h6⟩, ?_⟩
        have h9 := hg.deep
        rw [List.map_cons, maxL_cons]; omega
    · refine .inr ⟨Bad.bind (kf := fun q => .stmts (acc ++ q.1)) (f := fun q => q.2) hb (fun q r h5 h6 => s_more he hno h5 h6) (fun q => trivial) (fun q h => h), ?_⟩
      rw [List.map_cons, maxL_cons]; omega
theorem stmt_all (hk : NodesOk ns) (hn : Nms ns) : ∀ x, (Kid ns clsS x → STk ns x) ∧ (Kid ns clsB x → BLk ns x) := by
  intro x
  induction x using Nat.strongRecOn with
  | _ x ih =>
    have P1 : ∀ {cls : Nat → Bool} {a : Nat}, Kid (ns.take x) cls a → pcV (ns.take x) a = pcV ns a ∧ ndV (ns.take x) a = ndV ns a ∧ Kid ns cls a := fun h => ⟨pcV_take h.take.1, ndV_take h.take.1, h.take.2⟩
    have blk : ∀ {a : Nat}, Kid (ns.take x) clsB a → BLk ns a := fun h => (ih _ h.take.1).2 h.take.2
    constructor
    · rintro ⟨nd, hx, hcl⟩ src ts s R he hr hel
      have hN := hk x nd hx
      have hpe := pcV_eq hx
      have hne := ndV_eq hx
      cases hN with
      | let_ line y a ha =>
        obtain ⟨p1, p2, p3⟩ := P1 ha
        have e : (pcV ns x).1 = kws wLet :: nmP y :: sg [61] :: ((pcV ns a).1 ++ [sgn [59]]) := by rw [hpe, ← p1]; rfl
        have e2 : (ndV ns x).1 = (ndV ns a).1 := by rw [hne, ← p2]; exact maxL_one _
        rw [e] at hr ⊢
        rw [e2]
        have hr : rest ts s.i = (4, wLet) :: (3, y) :: (5, [61]) :: (tks (pcV ns a).1 ++ (5, [59]) :: R) := by rw [hr, tks_cons, tks_cons, tks_cons, tks_append]; simp [tks, kws, nmP, sg, sgn]
        have hg : rest ts (pGo s).i = _ := rest_go hr
        have hg2 : rest ts (pGo (pGo s)).i = _ := rest_go hg
        have hg3 : rest ts (pGo (pGo (pGo s))).i = _ := rest_go hg2
        obtain ⟨n1, n2⟩ := named_ok (s := pGo s) he hg
        have hm : pMust ts [61] (pNamed ts (pGo s)) = pGo (pGo (pGo s)) := by rw [n1]; exact must_ok (s := pGo (pGo s)) he hg2
        have hw := word_ok he hr
        rcases right_way (src := src) (s := pGo (pGo (pGo s))) hk hn p3 he hg3 with ⟨q, hq, hgd⟩ | ⟨hb, hd⟩
        · have hr4 := rest_after hgd hg3 (tks_len _)
          have hR := r_let (src := src) hw (by rw [hm]; exact hq)
          rw [n2, must_ok hgd.e hr4] at hR
          refine .inl ⟨_, hR, Gd.put1 (s := s) hk hx rfl hgd rfl _ (t := pGo q.2) rfl hgd.e hgd.deep ?_⟩
          show q.2.i + 1 = _
          rw [hgd.i]; show s.i + 1 + 1 + 1 + _ + 1 = _; simp; omega
        · exact .inr ⟨Bad.map (f := fun q => pPut 10 (pLine src ts s) 0 (pName ts (pGo s)) q.1 (pMust ts [59] q.2)) hb (fun q hq => r_let hw (by rw [hm]; exact hq)) (fun q h => must21 h), hd⟩
      | set line y a ha =>
        obtain ⟨p1, p2, p3⟩ := P1 ha
        have e : (pcV ns x).1 = nmP y :: sg [61] :: ((pcV ns a).1 ++ [sgn [59]]) := by rw [hpe, ← p1]; rfl
        have e2 : (ndV ns x).1 = (ndV ns a).1 := by rw [hne, ← p2]; exact maxL_one _
        rw [e] at hr ⊢
        rw [e2]
        have hr : rest ts s.i = (3, y) :: (5, [61]) :: (tks (pcV ns a).1 ++ (5, [59]) :: R) := by rw [hr, tks_cons, tks_cons, tks_append]; simp [tks, nmP, sg, sgn]
        have hg : rest ts (pGo s).i = _ := rest_go hr
        have hg2 : rest ts (pGo (pGo s)).i = _ := rest_go hg
        obtain ⟨n1, n2⟩ := named_ok he hr
        have hm : pMust ts [61] (pNamed ts s) = pGo (pGo s) := by rw [n1]; exact must_ok (s := pGo s) he hg
        have hw := word_no he hr (by decide)
        have hc := calls_no he hr (by simp)
        have hb : pIs ts [91] (pNamed ts s) = false := by rw [n1]; exact is_no (s := pGo s) he hg (by decide)
        rcases right_way (src := src) (s := pGo (pGo s)) hk hn p3 he hg2 with ⟨q, hq, hgd⟩ | ⟨hbd, hd⟩
        · have hr4 := rest_after hgd hg2 (tks_len _)
          have hR := r_named hw (n_set (src := src) (line := pLine src ts s) hc hb (by rw [hm]; exact hq))
          rw [n2, must_ok hgd.e hr4] at hR
          refine .inl ⟨_, hR, Gd.put1 (s := s) hk hx rfl hgd rfl _ (t := pGo q.2) rfl hgd.e hgd.deep ?_⟩
          show q.2.i + 1 = _
          rw [hgd.i]; show s.i + 1 + 1 + _ + 1 = _; simp; omega
        · exact .inr ⟨Bad.map (f := fun q => pPut 11 (pLine src ts s) 0 (pName ts s) q.1 (pMust ts [59] q.2)) hbd (fun q hq => r_named hw (n_set hc hb (by rw [hm]; exact hq))) (fun q h => must21 h), hd⟩
      | put line y a b ha hb2 =>
        obtain ⟨p1, p2, p3⟩ := P1 ha
        obtain ⟨o1, o2, o3⟩ := P1 hb2
        have e : (pcV ns x).1 = nmP y :: sg [91] :: ((pcV ns a).1 ++ (sg [93] :: sg [61] :: ((pcV ns b).1 ++ [sgn [59]]))) := by rw [hpe, ← p1, ← o1]; rfl
        have e2 : (ndV ns x).1 = max (1 + (ndV ns a).1) (ndV ns b).1 := by rw [hne, ← p2, ← o2]; rfl
        rw [e] at hr ⊢
        rw [e2]
        have hr : rest ts s.i = (3, y) :: (5, [91]) :: (tks (pcV ns a).1 ++ (5, [93]) :: (5, [61]) :: (tks (pcV ns b).1 ++ (5, [59]) :: R)) := by rw [hr, tks_cons, tks_cons, tks_append, tks_cons, tks_cons, tks_append]; simp [tks, nmP, sg, sgn]
        have hg : rest ts (pGo s).i = _ := rest_go hr
        obtain ⟨n1, n2⟩ := named_ok he hr
        have hw := word_no he hr (by decide)
        have hc := calls_no he hr (by simp)
        have hbr : pIs ts [91] (pNamed ts s) = true := by rw [n1]; exact is_yes (s := pGo s) he hg
        rcases inside (src := src) (s := pGo s) (.inr rfl) (.inr rfl) (sx_all hk a p3 0 0 (by decide) (Nat.zero_le _)) he hg with ⟨q, hq, ⟨s1, hs1, hgd⟩, t1, t2, t3, t4⟩ | ⟨hbd, hd⟩
        · have hg3 : rest ts (pUp (pMust ts [93] q.2)).i = (5, [61]) :: (tks (pcV ns b).1 ++ (5, [59]) :: R) := by
            have h5 := rest_add (ts := ts) (K := (5, [91]) :: (tks (pcV ns a).1 ++ [(5, [93])])) (R := (5, [61]) :: (tks (pcV ns b).1 ++ (5, [59]) :: R)) (by rw [hg]; simp)
            rw [t4]
            have h6 : ((5, [91]) :: (tks (pcV ns a).1 ++ [(5, [93])]) : List (Nat × List UInt8)).length = (pcV ns a).1.length + 2 := by simp [tks_len]
            rw [h6] at h5; exact h5
          have hm := must_ok t2 hg3
          have hg4 : rest ts (pGo (pUp (pMust ts [93] q.2))).i = _ := rest_go hg3
          rcases expr_way (src := src) (s := pGo (pUp (pMust ts [93] q.2))) hk o3 t2 hg4 (fo0 (by decide) (by decide)) with ⟨u, hu, hgu⟩ | ⟨hbd, hd⟩
          · have hr4 := rest_after hgu hg4 (tks_len _)
            have hR := r_named hw (n_put (src := src) (line := pLine src ts s) (q := q) hc hbr (by rw [n1]; exact hq) (by rw [hm]; exact hu))
            rw [n2, must_ok hgu.e hr4] at hR
            refine .inl ⟨_, hR, Gd.put2 (s := s) hk hx rfl hgd hgu hs1 t1 _ rfl (t := pGo u.2) rfl hgu.e (by show u.2.deep = _; rw [hgu.deep]; exact t3) ?_⟩
            show u.2.i + 1 = _
            rw [hgu.i]; show (pUp (pMust ts [93] q.2)).i + 1 + _ + 1 = _; rw [t4]; show s.i + 1 + _ + 1 + _ + 1 = _; simp; omega
          · obtain ⟨u, hu, h21⟩ := hbd
            have hR := r_named hw (n_put (src := src) (line := pLine src ts s) (q := q) hc hbr (by rw [n1]; exact hq) (by rw [hm]; exact hu))
            refine .inr ⟨⟨_, hR, must21 h21⟩, ?_⟩
            have h9 : (pGo (pUp (pMust ts [93] q.2))).deep = s.deep := t3
            omega
        · obtain ⟨q, hq, h21⟩ := hbd
          obtain ⟨u, hu, h22⟩ := Bad.of (src := src) (ts := ts) (k := .chain 0) (s := pMust ts [61] (pUp (pMust ts [93] q.2))) (by show (0 : Nat) ≤ 5; omega) (must21 (must21 (s := q.2) h21))
          have hR := r_named hw (n_put (src := src) (line := pLine src ts s) (q := q) hc hbr (by rw [n1]; exact hq) hu)
          refine .inr ⟨⟨_, hR, must21 h22⟩, ?_⟩
          have h9 : (pGo s).deep = s.deep := rfl
          omega
      | do_ line a ha =>
        obtain ⟨p1, p2, p3⟩ := P1 ha
        have e : (pcV ns x).1 = (pcV ns a).1 ++ [sgn [59]] := by rw [hpe, ← p1]; rfl
        have e2 : (ndV ns x).1 = (ndV ns a).1 := by rw [hne, ← p2]; exact maxL_one _
        rw [e] at hr ⊢
        rw [e2]
        have hr : rest ts s.i = tks (pcV ns a).1 ++ (5, [59]) :: R := by rw [hr, tks_append]; simp [tks, sgn]
        obtain ⟨h1, h2, h3⟩ := call_way (src := src) hk hn p3 he hr
        rcases h1 with ⟨q, hq, hgd⟩ | ⟨hbd, hd⟩
        · have hr4 := rest_after hgd hr (tks_len _)
          have hR := r_named h3 (n_call (src := src) (line := pLine src ts s) h2 hq)
          rw [must_ok hgd.e hr4] at hR
          refine .inl ⟨_, hR, Gd.put1 (s := s) hk hx rfl hgd rfl _ (t := pGo q.2) rfl hgd.e hgd.deep ?_⟩
          show q.2.i + 1 = _
          rw [hgd.i]; simp; omega
        · exact .inr ⟨Bad.map (f := fun q => pPut 13 (pLine src ts s) 0 [] q.1 (pMust ts [59] q.2)) hbd (fun q hq => r_named h3 (n_call h2 hq)) (fun q h => must21 h), hd⟩
      | print line a ha =>
        obtain ⟨p1, p2, p3⟩ := P1 ha
        have e : (pcV ns x).1 = kws wPrint :: ((pcV ns a).1 ++ [sgn [59]]) := by rw [hpe, ← p1]; rfl
        have e2 : (ndV ns x).1 = (ndV ns a).1 := by rw [hne, ← p2]; exact maxL_one _
        rw [e] at hr ⊢
        rw [e2]
        have hr : rest ts s.i = (4, wPrint) :: (tks (pcV ns a).1 ++ (5, [59]) :: R) := by rw [hr, tks_cons, tks_append]; simp [tks, kws, sgn]
        have hg : rest ts (pGo s).i = _ := rest_go hr
        have hw := word_ok he hr
        rcases expr_way (src := src) (s := pGo s) hk p3 he hg (fo0 (by decide) (by decide)) with ⟨q, hq, hgd⟩ | ⟨hbd, hd⟩
        · have hr4 := rest_after hgd hg (tks_len _)
          have hR := r_print (src := src) hw hq
          rw [must_ok hgd.e hr4] at hR
          refine .inl ⟨_, hR, Gd.put1 (s := s) hk hx rfl hgd rfl _ (t := pGo q.2) rfl hgd.e hgd.deep ?_⟩
          show q.2.i + 1 = _
          rw [hgd.i]; show s.i + 1 + _ + 1 = _; simp; omega
        · exact .inr ⟨Bad.map (f := fun q => pPut 14 (pLine src ts s) 0 [] q.1 (pMust ts [59] q.2)) hbd (fun q hq => r_print hw hq) (fun q h => must21 h), hd⟩
      | loop line a b ha hb2 =>
        obtain ⟨p1, p2, p3⟩ := P1 ha
        obtain ⟨o1, o2, o3⟩ := P1 hb2
        have e : (pcV ns x).1 = kws wWhile :: ((pcV ns a).1 ++ (pcV ns b).1) := by rw [hpe, ← p1, ← o1]; rfl
        have e2 : (ndV ns x).1 = max (ndV ns a).1 (ndV ns b).1 := by rw [hne, ← p2, ← o2]; show maxL [_, _] = _; rw [maxL_cons, maxL_one]
        rw [e] at hr ⊢
        rw [e2]
        have hr : rest ts s.i = (4, wWhile) :: (tks (pcV ns a).1 ++ (tks (pcV ns b).1 ++ R)) := by rw [hr, tks_cons, tks_append]; simp [tks, kws]
        have hg : rest ts (pGo s).i = _ := rest_go hr
        have hw := word_ok he hr
        obtain ⟨T, hT⟩ := block_first hk o3
        rcases expr_way (src := src) (s := pGo s) hk p3 he hg (by rw [hT]; exact fo0 (by decide) (by decide)) with ⟨q, hq, hgd⟩ | ⟨hbd, hd⟩
        · have hr4 := rest_after hgd hg (tks_len _)
          rcases blk hb2 (src := src) hgd.e hr4 with ⟨u, hu, hgu⟩ | ⟨hbd, hd⟩
          · refine .inl ⟨_, r_while hw hq hu, Gd.put2 (s := s) hk hx rfl hgd hgu rfl rfl _ rfl (t := u.2) rfl hgu.e (by rw [hgu.deep]; exact hgd.deep) ?_⟩
            rw [hgu.i, hgd.i]; show s.i + 1 + _ + _ = _; simp; omega
          · obtain ⟨u, hu, h21⟩ := hbd
            have h9 : q.2.deep = s.deep := hgd.deep
            exact .inr ⟨⟨_, r_while hw hq hu, h21⟩, by omega⟩
        · obtain ⟨q, hq, h21⟩ := hbd
          obtain ⟨u, hu, h22⟩ := Bad.of (src := src) (ts := ts) (k := .block) trivial h21
          have h9 : (pGo s).deep = s.deep := rfl
          exact .inr ⟨⟨_, r_while hw hq hu, h22⟩, by omega⟩
      | if2 line a b ha hb2 =>
        obtain ⟨p1, p2, p3⟩ := P1 ha
        obtain ⟨o1, o2, o3⟩ := P1 hb2
        have e : (pcV ns x).1 = kws wIf :: ((pcV ns a).1 ++ ((pcV ns b).1 ++ [])) := by rw [hpe, ← p1, ← o1]; rfl
        have e2 : (ndV ns x).1 = max (ndV ns a).1 (ndV ns b).1 := by rw [hne, ← p2, ← o2]; show maxL [_, _] = _; rw [maxL_cons, maxL_one]
        rw [e] at hr ⊢
        rw [e2]
        have hr : rest ts s.i = (4, wIf) :: (tks (pcV ns a).1 ++ (tks (pcV ns b).1 ++ R)) := by rw [hr, tks_cons, tks_append, tks_append]; simp [tks, kws]
        have hg : rest ts (pGo s).i = _ := rest_go hr
        have hw := word_ok he hr
        obtain ⟨T, hT⟩ := block_first hk o3
        have none21 : ∀ {u : PS} {w : List UInt8}, u.e = 21 → pIs ts w u = false := fun h => by unfold pIs; rw [decide_eq_false (by rw [h]; decide)]; simp
        rcases expr_way (src := src) (s := pGo s) hk p3 he hg (by rw [hT]; exact fo0 (by decide) (by decide)) with ⟨q, hq, hgd⟩ | ⟨hbd, hd⟩
        · have hr4 := rest_after hgd hg (tks_len _)
          rcases blk hb2 (src := src) hgd.e hr4 with ⟨u, hu, hgu⟩ | ⟨hbd, hd⟩
          · have hr5 := rest_after hgu hr4 (tks_len _)
            have hne : pIs ts wElse u.2 = false := is_hd hgu.e hr5 hel.1 hel.2
            refine .inl ⟨_, r_if2 hw hq hu hne, Gd.put2 (s := s) hk hx rfl hgd hgu rfl rfl _ rfl (t := u.2) rfl hgu.e (by rw [hgu.deep]; exact hgd.deep) ?_⟩
            rw [hgu.i, hgd.i]; show s.i + 1 + _ + _ = _; simp; omega
          · obtain ⟨u, hu, h21⟩ := hbd
            have h9 : q.2.deep = s.deep := hgd.deep
            exact .inr ⟨⟨_, r_if2 hw hq hu (none21 h21), h21⟩, by omega⟩
        · obtain ⟨q, hq, h21⟩ := hbd
          obtain ⟨u, hu, h22⟩ := Bad.of (src := src) (ts := ts) (k := .block) trivial h21
          have h9 : (pGo s).deep = s.deep := rfl
          exact .inr ⟨⟨_, r_if2 hw hq hu (none21 h22), h22⟩, by omega⟩
      | if3 line a b c ha hb2 hc2 =>
        obtain ⟨p1, p2, p3⟩ := P1 ha
        obtain ⟨o1, o2, o3⟩ := P1 hb2
        obtain ⟨m1, m2, m3⟩ := P1 hc2
        have e : (pcV ns x).1 = kws wIf :: ((pcV ns a).1 ++ ((pcV ns b).1 ++ ((kw wElse :: (pcV ns c).1) ++ []))) := by rw [hpe, ← p1, ← o1, ← m1]; rfl
        have e2 : (ndV ns x).1 = max (ndV ns a).1 (max (ndV ns b).1 (ndV ns c).1) := by rw [hne, ← p2, ← o2, ← m2]; show maxL [_, _, _] = _; rw [maxL_cons, maxL_cons, maxL_one]
        rw [e] at hr ⊢
        rw [e2]
        have hr : rest ts s.i = (4, wIf) :: (tks (pcV ns a).1 ++ (tks (pcV ns b).1 ++ (4, wElse) :: (tks (pcV ns c).1 ++ R))) := by rw [hr, tks_cons, tks_append, tks_append]; simp [tks, kws, kw]
        have hg : rest ts (pGo s).i = _ := rest_go hr
        have hw := word_ok he hr
        obtain ⟨T, hT⟩ := block_first hk o3
        have none21 : ∀ {u : PS} {w : List UInt8}, u.e = 21 → pIs ts w u = false := fun h => by unfold pIs; rw [decide_eq_false (by rw [h]; decide)]; simp
        rcases expr_way (src := src) (s := pGo s) hk p3 he hg (by rw [hT]; exact fo0 (by decide) (by decide)) with ⟨q, hq, hgd⟩ | ⟨hbd, hd⟩
        · have hr4 := rest_after hgd hg (tks_len _)
          rcases blk hb2 (src := src) hgd.e hr4 with ⟨u, hu, hgu⟩ | ⟨hbd, hd⟩
          · have hr5 := rest_after hgu hr4 (tks_len _)
            have hye := is_word hgu.e hr5
            have hg6 : rest ts (pGo u.2).i = _ := rest_go hr5
            rcases blk hc2 (src := src) (s := pGo u.2) hgu.e hg6 with ⟨v, hv, hgv⟩ | ⟨hbd, hd⟩
            · refine .inl ⟨_, r_if3 hw hq hu hye hv, ?_⟩
              obtain ⟨g1, a1, a2⟩ := hgd.sg
              obtain ⟨g2, b1, b2⟩ := hgu.sg
              obtain ⟨g3, c1, c2⟩ := hgv.sg
              have c1 : v.2.nodes = u.2.nodes ++ g3 := c1
              have a1 : q.2.nodes = s.nodes ++ g1 := a1
              have hp := hgd.pos
              have hp2 := hgu.pos
              refine Gd.put (s := s) (t := v.2) hk hx (g := g1 ++ g2 ++ g3) _ (by rw [c1, b1, a1]; simp) (by rw [List.map_append, List.map_append, a2, b2, c2]; simp) ?_ hgv.e (by rw [hgv.deep]; show u.2.deep = _; rw [hgu.deep]; exact hgd.deep) ?_
              · rw [hgd.one, hgu.one, hgv.one]
                show [shV v.2.nodes (q.2.nodes.length - 1), shV v.2.nodes (u.2.nodes.length - 1), shV v.2.nodes (v.2.nodes.length - 1)] = [shV ns a, shV ns b, shV ns c]
                rw [hgv.sh]
                have k1 : shV v.2.nodes (u.2.nodes.length - 1) = shV ns b := by rw [c1, shV_more (by omega), hgu.sh]
                have k2 : shV v.2.nodes (q.2.nodes.length - 1) = shV ns a := by rw [c1, shV_more (by omega), b1, shV_more (by omega), hgd.sh]
                rw [k1, k2]
              · rw [hgv.i]; show u.2.i + 1 + _ = _; rw [hgu.i, hgd.i]; show s.i + 1 + _ + _ + 1 + _ = _; simp; omega
            · obtain ⟨v, hv, h21⟩ := hbd
              have h9 : (pGo u.2).deep = s.deep := by show u.2.deep = _; rw [hgu.deep]; exact hgd.deep
              exact .inr ⟨⟨_, r_if3 hw hq hu hye hv, h21⟩, by omega⟩
          · obtain ⟨u, hu, h21⟩ := hbd
            have h9 : q.2.deep = s.deep := hgd.deep
            exact .inr ⟨⟨_, r_if2 hw hq hu (none21 h21), h21⟩, by omega⟩
        · obtain ⟨q, hq, h21⟩ := hbd
          obtain ⟨u, hu, h22⟩ := Bad.of (src := src) (ts := ts) (k := .block) trivial h21
          have h9 : (pGo s).deep = s.deep := rfl
          exact .inr ⟨⟨_, r_if2 hw hq hu (none21 h22), h22⟩, by omega⟩
      | ret0 line =>
        have e : (pcV ns x).1 = [kw wRet, sgn [59]] := by rw [hpe]; rfl
        rw [e] at hr ⊢
        have hr : rest ts s.i = (4, wRet) :: (5, [59]) :: R := hr
        have hg : rest ts (pGo s).i = _ := rest_go hr
        have hR := r_ret0 (src := src) (word_ok he hr) (is_yes (s := pGo s) he hg)
        rw [must_ok (s := pGo s) he hg] at hR
        exact .inl ⟨_, hR, Gd.leaf hk hx rfl _ (t := pGo (pGo s)) he rfl rfl rfl⟩
      | ret1 line a ha =>
        obtain ⟨p1, p2, p3⟩ := P1 ha
        have e : (pcV ns x).1 = kws wRet :: (((pcV ns a).1 ++ []) ++ [sgn [59]]) := by rw [hpe, ← p1]; rfl
        have e2 : (ndV ns x).1 = (ndV ns a).1 := by rw [hne, ← p2]; exact maxL_one _
        rw [e] at hr ⊢
        rw [e2]
        have hr : rest ts s.i = (4, wRet) :: (tks (pcV ns a).1 ++ (5, [59]) :: R) := by rw [hr, tks_cons, tks_append, tks_append]; simp [tks, kws, sgn]
        have hg : rest ts (pGo s).i = _ := rest_go hr
        have hw := word_ok he hr
        have hno := starts_no (xp_ok hk hn a (p3.le (fun k hk => by unfold clsR; rw [hk]; rfl))) (s := pGo s) he hg (c := 59) (by decide)
        rcases expr_way (src := src) (s := pGo s) hk p3 he hg (fo0 (by decide) (by decide)) with ⟨q, hq, hgd⟩ | ⟨hbd, hd⟩
        · have hr4 := rest_after hgd hg (tks_len _)
          have hR := r_ret1 (src := src) hw hno hq
          rw [must_ok hgd.e hr4] at hR
          refine .inl ⟨_, hR, Gd.put1 (s := s) hk hx rfl hgd rfl _ (t := pGo q.2) rfl hgd.e hgd.deep ?_⟩
          show q.2.i + 1 = _
          rw [hgd.i]; show s.i + 1 + _ + 1 = _; simp; omega
        · exact .inr ⟨Bad.map (f := fun q => pPut 17 (pLine src ts s) 0 [] q.1 (pMust ts [59] q.2)) hbd (fun q hq => r_ret1 hw hno hq) (fun q h => must21 h), hd⟩
      | _ => simp [clsS] at hcl
    · rintro ⟨nd, hx, hcl⟩ src ts s R he hr
      have hN := hk x nd hx
      cases hN with
      | block line l hl =>
        have hl2 : ∀ a ∈ l, Kid ns clsS a ∧ STk ns a := fun a ha => ⟨(hl a ha).take.2, (ih a (hl a ha).take.1).1 (hl a ha).take.2⟩
        have e : (pcV ns x).1 = sgn [123] :: (l.flatMap (fun c => (pcV ns c).1) ++ [sgn [125]]) := by
          rw [pcV_eq hx]
          show sgn [123] :: (l.flatMap (fun c => (pcV (ns.take x) c).1) ++ [sgn [125]]) = _
          congr 2
          rw [List.flatMap_def, List.flatMap_def]
          congr 1
          exact List.map_congr_left fun a ha => by rw [pcV_take (hl a ha).take.1]
        have e2 : (ndV ns x).1 = 1 + maxL (l.map fun c => (ndV ns c).1) := by
          rw [ndV_eq hx]
          show 1 + maxL (l.map fun c => (ndV (ns.take x) c).1) = _
          rw [show (l.map fun c => (ndV (ns.take x) c).1) = l.map fun c => (ndV ns c).1 from List.map_congr_left fun a ha => by rw [ndV_take (hl a ha).take.1]]
        rw [e] at hr ⊢
        rw [e2]
        have hr : rest ts s.i = (5, [123]) :: (tks (l.flatMap fun c => (pcV ns c).1) ++ (5, [125]) :: R) := by rw [hr, tks_cons, tks_append]; simp [tks, sgn]
        by_cases hd : s.deep < 16
        · have hm : pMust ts [123] (pDown ts s) = pGo { s with deep := s.deep + 1 } := by rw [down_ok hd]; exact must_ok (s := { s with deep := s.deep + 1 }) he hr
          have hg : rest ts (pGo { s with deep := s.deep + 1 }).i = _ := rest_go hr
          rcases stmts_way (src := src) hk l hl2 [] (pGo { s with deep := s.deep + 1 }) he hg with ⟨q, hq, hkd⟩ | ⟨hbd, hn2⟩
          · have hr4 : rest ts q.2.i = (5, [125]) :: R := by
              have := rest_add hg
              rw [tks_len] at this
              rw [hkd.i]; exact this
            have hR := r_block (src := src) (is_yes he hr) (by rw [hm]; exact hq)
            rw [must_ok hkd.e hr4] at hR
            refine .inl ⟨_, hR, Gd.putL (s := s) hk hx hkd rfl _ (t := pUp (pGo q.2)) rfl hkd.e ?_ ?_⟩
            · show q.2.deep - 1 = _
              rw [hkd.deep]; show s.deep + 1 - 1 = _; omega
            · show q.2.i + 1 = _
              rw [hkd.i]; show s.i + 1 + _ + 1 = _; simp; omega
          · refine .inr ⟨Bad.map (f := fun q => pPut 18 (pLine src ts s) 0 [] q.1 (pUp (pMust ts [125] q.2))) hbd (fun q hq => r_block (is_yes he hr) (by rw [hm]; exact hq)) (fun q h => must21 h), ?_⟩
            have h9 : (pGo { s with deep := s.deep + 1 }).deep = s.deep + 1 := rfl
            omega
        · exact .inr ⟨Bad.map (f := fun q => pPut 18 (pLine src ts s) 0 [] q.1 (pUp (pMust ts [125] q.2))) (Bad.of (src := src) (s := pMust ts [123] (pDown ts s)) (k := .stmts []) trivial (must21 (down_bad he (by omega)))) (fun q hq => r_block (is_yes he hr) hq) (fun q h => must21 h), by omega⟩
      | _ => simp [clsB] at hcl
end
end Go.Proofs.YtahhgnbiahomiaaDoor
/- Back: functions; an expression alone, printed, is read as it is. -/
namespace Go.Proofs.YtahhgnbiahomiaaDoor
open Go.RowKit
set_option linter.unusedVariables false
set_option linter.unusedSimpArgs false
section
variable {src : List UInt8} {ts : List Tok} {ns : List NodeM} {x : Nat} {nd : NodeM} {s t : PS} {q r b : List Nat × PS}
theorem params_le : ∀ {n m : Nat}, n ≤ m → ∀ (acc : List (List UInt8 × Nat)) (s : PS), LeO (runParams ts n acc s) (runParams ts m acc s)
  | 0, _, _, _, _ => fun r h => by simp [runParams] at h
  | n + 1, 0, h, _, _ => by omega
  | n + 1, m + 1, h, acc, s => by
    simp only [runParams]
    exact LeO.ite (params_le (by omega) _ _) (LeO.refl _)
theorem func_le {n m : Nat} (h : n ≤ m) (s : PS) : LeO (runFunc src ts n s) (runFunc src ts m s) := by
  simp only [runFunc]
  exact LeO.bind (LeO.ite (params_le h _ _) (LeO.refl _)) (fun p => LeO.map (run_mono h _ _) _)
theorem fns_le : ∀ {n m : Nat}, n ≤ m → ∀ (acc : List FuncM) (s : PS), LeO (runFns src ts n acc s) (runFns src ts m acc s)
  | 0, _, _, _, _ => fun r h => by simp [runFns] at h
  | n + 1, 0, h, _, _ => by omega
  | n + 1, m + 1, h, acc, s => by
    simp only [runFns]
    exact LeO.ite (LeO.refl _) (LeO.ite (LeO.refl _) (LeO.bind (func_le (by omega) _) (fun r => fns_le (by omega) _ _)))
variable (ts) in
def RunsP (acc : List (List UInt8 × Nat)) (s : PS) (p : List (List UInt8 × Nat) × PS) : Prop := ∃ n, runParams ts n acc s = some p
variable (src ts) in
def RunsF (s : PS) (r : FuncM × PS) : Prop := ∃ n, runFunc src ts n s = some r
variable (src ts) in
def RunsL (acc : List FuncM) (s : PS) (r : List FuncM × PS) : Prop := ∃ n, runFns src ts n acc s = some r
theorem p_more {acc : List (List UInt8 × Nat)} {p : List (List UInt8 × Nat) × PS} (h : pIs ts [44] (pTyped ts (pNamed ts s)) = true) (h2 : RunsP ts (acc ++ [(pName ts s, pType ts (pNamed ts s))]) (pGo (pTyped ts (pNamed ts s))) p) : RunsP ts acc s p := by
  obtain ⟨n, a⟩ := h2
  exact ⟨n + 1, by simp only [runParams]; rw [if_pos h, a]⟩
theorem p_end {acc : List (List UInt8 × Nat)} (h : pIs ts [44] (pTyped ts (pNamed ts s)) = false) : RunsP ts acc s (acc ++ [(pName ts s, pType ts (pNamed ts s))], pTyped ts (pNamed ts s)) :=
  ⟨1, by simp only [runParams]; rw [if_neg (by rw [h]; decide)]⟩
def afterP (ts : List Tok) (s4 : PS) : PS := if pIs ts [123] s4 then s4 else pTyped ts s4
def retP (ts : List Tok) (s4 : PS) : Nat := if pIs ts [123] s4 then 0 else pType ts s4
theorem f_rule {p : List (List UInt8 × Nat) × PS} {s3 : PS} (h3 : s3 = pMust ts [40] (pNamed ts (pMust ts [102, 110] s))) (hp : (pIs ts [41] s3 = false ∧ s3.e = 0 ∧ RunsP ts [] s3 p) ∨ (pIs ts [41] s3 = true ∧ p = ([], s3))) (hb : Runs src ts .block (afterP ts (pMust ts [41] p.2)) b) :
    RunsF src ts s (⟨pName ts (pMust ts [102, 110] s), pLine src ts s, p.1, retP ts (pMust ts [41] p.2), b.1.headD 0⟩, b.2) := by
  subst h3
  obtain ⟨m, hb⟩ := hb
  rcases hp with ⟨h1, h2, n, h3⟩ | ⟨h1, rfl⟩
  · have a := params_le (Nat.le_max_left n m) _ _ _ h3
    have c := run_mono (Nat.le_max_right n m) _ _ _ hb
    exact ⟨max n m, by simp only [runFunc]; rw [if_pos ⟨h1, h2⟩, a]; simp only [Option.bind_some]; unfold afterP at c; rw [c]; rfl⟩
  · exact ⟨m, by simp only [runFunc]; rw [if_neg (by rw [h1]; simp)]; simp only [Option.bind_some]; unfold afterP at hb; rw [hb]; rfl⟩
theorem l_end {acc : List FuncM} (he : s.e = 0) (h : pKind ts 0 s = true) : RunsL src ts acc s (acc, s) := ⟨1, by simp only [runFns]; rw [if_neg (by simp [he]), if_pos h]⟩
theorem l_err {acc : List FuncM} (he : s.e ≠ 0) : RunsL src ts acc s (acc, s) := ⟨1, by simp only [runFns]; rw [if_pos he]⟩
theorem l_more {acc : List FuncM} {f : FuncM × PS} {z : List FuncM × PS} (he : s.e = 0) (h : pKind ts 0 s = false) (h1 : RunsF src ts s f) (h2 : RunsL src ts (acc ++ [f.1]) f.2 z) : RunsL src ts acc s z := by
  obtain ⟨n, a⟩ := h1
  obtain ⟨m, c⟩ := h2
  have a := func_le (Nat.le_max_left n m) _ _ a
  have c := fns_le (Nat.le_max_right n m) _ _ _ c
  exact ⟨max n m + 1, by simp only [runFns]; rw [if_neg (by simp [he]), if_neg (by rw [h]; decide), a]; exact c⟩
def s00 : PS := ⟨0, [], 0, 0, 0⟩
/-- What a source with these tokens is. -/
theorem parse_of {l : List UInt8} (hl : lexM l = .good ts) {z : List FuncM × PS} (h : RunsL l ts [] s00 z) :
    parseM l = some (if z.2.e ≠ 0 then .bad z.2.place z.2.e else if 300 < z.2.nodes.length ∨ 6 < z.1.length ∨ z.1.any (fun f => decide (3 < f.params.length)) = true then .bad 0 4 else .good z.2.nodes z.1) := by
  obtain ⟨r, hr⟩ := parse_some l
  have h2 := hr
  unfold parseM at h2
  rw [hl] at h2
  simp only [parseT, Option.map_eq_some_iff] at h2
  obtain ⟨z', hz, e⟩ := h2
  obtain ⟨n, hn⟩ := h
  have a := fns_le (Nat.le_max_left n (parseFuel ts)) _ _ _ hn
  have c := fns_le (Nat.le_max_right n (parseFuel ts)) _ _ _ hz
  have e2 : z = z' := by
    have c : runFns l ts (max n (parseFuel ts)) [] s00 = some z' := c
    rw [a] at c; exact Option.some.inj c
  rw [hr, e2, ← e]
/-- A text of pieces, as tokens. -/
theorem lexM_pieces {P : List Pc} (h : lexes P) (hl : (rend P).length ≤ 600) : lexM (rend P) = .good (toksP P 0) := by
  unfold lexM
  rw [if_neg (by omega), lex_pieces P 0 h]
theorem kt_toksP : ∀ (P : List Pc) (n : Nat), (toksP P n).map kt = tks P ++ [(0, [])]
  | [], _ => rfl
  | p :: P, n => by rw [toksP, List.map_cons, kt_toksP P]; rfl
theorem rest_toksP (P : List Pc) : rest (toksP P 0) 0 = tks P ++ [(0, [])] := by unfold rest; rw [List.drop_zero]; exact kt_toksP P 0
/-- An expression, in parentheses or not, printed alone. -/
def mainP (E : List Pc) : List Pc := kws [102, 110] :: nmP [109, 97, 105, 110] :: sg [40] :: sg [41] :: sg [123] :: kws wPrint :: (E ++ [sg [59], sg [125]])
theorem rend_mainP (E : List Pc) : rend (mainP E) = [102, 110, 32, 109, 97, 105, 110, 40, 41, 123, 112, 114, 105, 110, 116, 32] ++ rend E ++ [59, 125] := by
  unfold mainP
  rw [rend_kws, rend_nmP, rend_sg, rend_sg, rend_sg, rend_kws, rend_append, rend_sg, rend_sg, rend_nil]
  simp
theorem main_nameOk : NameOk [109, 97, 105, 110] := ⟨by decide, ⟨by decide, fun _ => by decide⟩, by decide, by decide⟩
theorem next_lit {p : Pc} {y g : List UInt8} (hp : p.kind = 5) (h : twoB [p.text.headD 0, y.headD 0] = false ∧ ¬ (p.text = [47] ∧ y.headD 0 = 47)) : p.next (Pc.fb ⟨5, y, g⟩) :=
  .inr ⟨fun e => by omega, fun e => by omega, fun _ => .inr h⟩
theorem lexes_mainP {E : List Pc} (h : Xp E) : lexes (mainP E) := by
  refine lex_gapped (word_val (by decide) (.inr (.inl rfl))) (by decide) ?_
  refine lex_head (name_val main_nameOk (.inl rfl)) (.inr (show (3 : Nat) ≠ 5 by decide)) (by decide) ?_
  refine lexes_cons (sign_val (by decide) (.inl rfl)) ?_ (fun q hq => by
    simp at hq
    subst hq
    exact next_lit rfl (by decide))
  refine lexes_cons (sign_val (by decide) (.inl rfl)) ?_ (fun q hq => by
    simp at hq
    subst hq
    exact next_sign' (.inr (.inr (.inl rfl))) (by decide))
  refine lexes_cons (sign_val (by decide) (.inl rfl)) ?_ (fun q hq => by
    simp at hq
    subst hq
    exact next_start (by decide) (by decide))
  refine lex_gapped (word_val (by decide) (.inr (.inl rfl))) (by decide) ?_
  refine lex_then h.lex h.en (by decide) (lexes_cons (sign_val (by decide) (.inl rfl)) (lexes_one (sign_val (by decide) (.inl rfl))) (fun q hq => by
    simp at hq
    subst hq
    exact next_lit rfl (by decide)))
theorem e_put (k line n : Nat) (name : List UInt8) (l : List Nat) (s : PS) : (pPut k line n name l s).2.e = s.e := rfl
/-- What becomes of it. -/
theorem main_parse (hk : NodesOk ns) (hn : Nms ns) (hx : Kid ns clsE x) (m : Nat) (hlen : (rend (mainP (atP (pcV ns x) m))).length ≤ 600) :
    (∃ p e, parseM (rend (mainP (atP (pcV ns x) m))) = some (.bad p e) ∧ (e = 4 ∨ e = 21)) ∨
    (∃ us gs, parseM (rend (mainP (atP (pcV ns x) m))) = some (.good us gs) ∧ 3 ≤ us.length ∧ shV us (us.length - 3) = shV ns x ∧ ∃ nd nd', us[us.length - 3]? = some nd' ∧ ns[x]? = some nd ∧ nd'.kind = nd.kind ∧ nd'.n = nd.n ∧ nd'.name = nd.name) := by
  have hXp : Xp (atP (pcV ns x) m) := (xp_ok hk hn x (hx.le (fun k hk => by unfold clsR; rw [hk]; rfl))).at m
  have hL := lexM_pieces (lexes_mainP hXp) hlen
  generalize rend (mainP (atP (pcV ns x) m)) = src at *
  have hr0 := rest_toksP (mainP (atP (pcV ns x) m))
  generalize toksP (mainP (atP (pcV ns x) m)) 0 = ts at *
  have hr0 : rest ts s00.i = (4, [102, 110]) :: (3, [109, 97, 105, 110]) :: (5, [40]) :: (5, [41]) :: (5, [123]) :: (4, wPrint) :: (tks (atP (pcV ns x) m) ++ (5, [59]) :: (5, [125]) :: (0, []) :: []) := by
    show rest ts 0 = _
    rw [hr0]
    unfold mainP
    simp only [tks_cons, tks_append]
    simp [kws, nmP, sg, tks]
  have r1 : rest ts (pGo s00).i = _ := rest_go hr0
  have r2 : rest ts (pGo (pGo s00)).i = _ := rest_go r1
  have r3 : rest ts (pGo (pGo (pGo s00))).i = _ := rest_go r2
  have r4 : rest ts (pGo (pGo (pGo (pGo s00)))).i = _ := rest_go r3
  have m1 : pMust ts [102, 110] s00 = pGo s00 := must_okw rfl hr0
  obtain ⟨n1, n2⟩ := named_ok (s := pGo s00) rfl r1
  have m3 : pMust ts [40] (pGo (pGo s00)) = pGo (pGo (pGo s00)) := must_ok rfl r2
  have m4 : pMust ts [41] (pGo (pGo (pGo s00))) = pGo (pGo (pGo (pGo s00))) := must_ok rfl r3
  have b4 : pIs ts [123] (pGo (pGo (pGo (pGo s00)))) = true := is_yes rfl r4
  generalize hs4 : pGo (pGo (pGo (pGo s00))) = s4 at *
  have e4 : s4.e = 0 := by rw [← hs4]; rfl
  have d4 : s4.deep = 0 := by rw [← hs4]; rfl
  have N4 : s4.nodes = [] := by rw [← hs4]; rfl
  have F : ∀ {b : List Nat × PS}, Runs src ts .block s4 b → ∃ f : FuncM, RunsF src ts s00 (f, b.2) ∧ f.params = [] := fun {b} hb => by
    have := f_rule (src := src) (ts := ts) (s := s00) (b := b) (p := ([], pGo (pGo (pGo s00)))) (s3 := pGo (pGo (pGo s00))) (by rw [m1, n1, m3]) (.inr ⟨is_yes rfl r3, rfl⟩) (by dsimp only; rw [m4]; unfold afterP; rw [if_pos b4]; exact hb)
    exact ⟨_, this, rfl⟩
  have k0 : pKind ts 0 s00 = false := by rw [kind_eq rfl hr0]; decide
  have m5 : pMust ts [123] (pDown ts s4) = pGo { s4 with deep := s4.deep + 1 } := by rw [down_ok (by omega)]; exact must_ok (s := { s4 with deep := s4.deep + 1 }) e4 r4
  have r5 : rest ts (pGo { s4 with deep := s4.deep + 1 }).i = _ := rest_go r4
  generalize hs5 : pGo { s4 with deep := s4.deep + 1 } = s5 at *
  have e5 : s5.e = 0 := by rw [← hs5]; exact e4
  have N5 : s5.nodes = [] := by rw [← hs5]; exact N4
  have r6 : rest ts (pGo s5).i = _ := rest_go r5
  have b5 : pIs ts [125] s5 = false := is_no e5 r5 (by decide)
  have w5 := word_ok e5 r5
  rcases SX.done (sx_all hk x hx m 0 (by decide) (Nat.zero_le _)) (src := src) (s := pGo s5) (by decide) e5 r6 (fo0 (by decide) (by decide)) with ⟨q, hq, hg⟩ | ⟨⟨q, hq, h21⟩, _⟩
  · have r7 : rest ts q.2.i = _ := rest_after hg r6 (tks_len _)
    have hst := r_print (src := src) w5 hq
    rw [must_ok hg.e r7] at hst
    have r8 : rest ts (pGo q.2).i = _ := rest_go r7
    have hss := s_more (l := []) e5 b5 hst (s_end (s := (pPut 14 (pLine src ts s5) 0 [] q.1 (pGo q.2)).2) hg.e (is_yes (s := (pPut 14 (pLine src ts s5) 0 [] q.1 (pGo q.2)).2) hg.e r8))
    have hbl := r_block (src := src) b4 (by rw [m5]; exact hss)
    dsimp only at hbl
    rw [must_ok (s := (pPut 14 (pLine src ts s5) 0 [] q.1 (pGo q.2)).2) hg.e r8] at hbl
    obtain ⟨f, hF, hfp⟩ := F hbl
    have r9 : rest ts (pGo (pGo q.2)).i = _ := rest_go r8
    have hz := l_more (src := src) (acc := []) rfl k0 hF (l_end hg.e (by rw [kind_eq (s := (pPut 18 (pLine src ts s4) 0 [] ([] ++ (pPut 14 (pLine src ts s5) 0 [] q.1 (pGo q.2)).1) (pUp (pGo (pPut 14 (pLine src ts s5) 0 [] q.1 (pGo q.2)).2))).2) hg.e r9]; rfl))
    have hP := parse_of hL hz
    rw [if_neg (by simp only [ne_eq, Decidable.not_not]; exact hg.e)] at hP
    obtain ⟨g, hg1, hg2⟩ := hg.sg
    have hg1 : q.2.nodes = g := by rw [hg1]; show s5.nodes ++ g = g; rw [N5]; rfl
    have hpos : 0 < q.2.nodes.length := by have := hg.pos; omega
    split at hP
    · exact .inl ⟨0, 4, hP, .inl rfl⟩
    · refine .inr ⟨_, _, hP, ?_⟩
      have key : ∀ U : List NodeM, (∃ a b : NodeM, U = q.2.nodes ++ [a] ++ [b]) → 3 ≤ U.length ∧ shV U (U.length - 3) = shV ns x ∧ ∃ nd nd', U[U.length - 3]? = some nd' ∧ ns[x]? = some nd ∧ nd'.kind = nd.kind ∧ nd'.n = nd.n ∧ nd'.name = nd.name := ?_
      · exact key _ ⟨_, _, rfl⟩
      rintro U ⟨a, b, rfl⟩
      rw [List.length_append, List.length_append, List.length_singleton, List.length_singleton, show q.2.nodes.length + 1 + 1 - 3 = q.2.nodes.length - 1 by omega, List.append_assoc]
      refine ⟨by omega, by rw [shV_more (by omega)]; exact hg.sh, ?_⟩
      obtain ⟨nd, hnd, _⟩ := hx
      rw [rL_eq hk hnd] at hg2
      rw [← hg1] at hg2
      have hlast : (q.2.nodes.map strip)[q.2.nodes.length - 1]? = some (strip nd) := by
        have hl := congrArg List.length hg2
        rw [List.length_map, List.length_append, List.length_singleton] at hl
        rw [hg2, hl, Nat.add_sub_cancel, List.getElem?_append_right (Nat.le_refl _), Nat.sub_self]; rfl
      rw [List.getElem?_map] at hlast
      obtain ⟨nd', h1, h2⟩ := Option.map_eq_some_iff.1 hlast
      unfold strip at h2
      injection h2 with h3 h4
      injection h4 with h4 h5
      injection h5 with h5 h6
      exact ⟨nd, nd', by rw [List.getElem?_append_left (by omega)]; exact h1, hnd, h3, h4, h5⟩
  · have hst := r_print (src := src) w5 hq
    obtain ⟨u, hu, hu2⟩ := Bad.of (src := src) (ts := ts) (k := .stmts ([] ++ (pPut 14 (pLine src ts s5) 0 [] q.1 (pMust ts [59] q.2)).1)) trivial (show (pPut 14 (pLine src ts s5) 0 [] q.1 (pMust ts [59] q.2)).2.e = 21 from must21 h21)
    have hss := s_more (l := []) e5 b5 hst hu
    have hbl := r_block (src := src) b4 (by rw [m5]; exact hss)
    obtain ⟨f, hF, hfp⟩ := F hbl
    have h22 : (pPut 18 (pLine src ts s4) 0 [] u.1 (pUp (pMust ts [125] u.2))).2.e = 21 := must21 hu2
    have hz := l_more (src := src) (acc := []) rfl k0 hF (l_err (by rw [h22]; decide))
    have hP := parse_of hL hz
    rw [if_pos (show (pPut 18 (pLine src ts s4) 0 [] u.1 (pUp (pMust ts [125] u.2))).2.e ≠ 0 by rw [h22]; decide)] at hP
    exact .inl ⟨_, _, hP, .inr h22⟩
end
end Go.Proofs.YtahhgnbiahomiaaDoor
