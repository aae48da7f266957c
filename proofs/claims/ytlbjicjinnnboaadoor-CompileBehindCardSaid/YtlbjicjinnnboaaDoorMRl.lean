/- MRl: RlA, RlB, RlC, RlD, LjR, LjP, LjA, RlE. -/
import Derived.Test.YtlbjicjinnnboaaDoorMD
import Derived.Test.YtlbjicjinnnboaaDoorME
set_option linter.unusedVariables false
set_option linter.unusedSimpArgs false
/- The parser on two rows of tokens that are alike up to a place: the steps. -/
namespace Go.Proofs.YtlbjicjinnnboaaDoor
open Go.RowKit
def shN (b : Nat) (n : NodeM) : NodeM := { n with line := 0, l := n.l.map (· + b) }
def zlN (n : NodeM) : NodeM := { n with line := 0 }
def Mt (ts ts' : List Tok) (d m : Nat) : Prop := ∀ i, i < m → (ts'.getD (i + d) tok0).kind = (ts.getD i tok0).kind ∧ (ts'.getD (i + d) tok0).text = (ts.getD i tok0).text
structure EO (ts : List Tok) (m : Nat) (s : PS) : Prop where
 ok : PSOk ts s
 esc : (s.e = 0 ∧ m ≤ s.i) ∨ (s.e ≠ 0 ∧ ∃ j, m ≤ j ∧ j < ts.length ∧ s.place = (ts.getD j tok0).place)
structure Rl (ts ts' : List Tok) (d m b : Nat) (P : List NodeM) (s s' : PS) : Prop where
 e : s'.e = s.e
 deep : s'.deep = s.deep
 i : s.e = 0 → s'.i = s.i + d
 nodes : s.e = 0 → s'.nodes.map zlN = P ++ s.nodes.map (shN b)
 place : s.e ≠ 0 → ∃ j, j < m ∧ s.place = (ts.getD j tok0).place ∧ s'.place = (ts'.getD (j + d) tok0).place
 lt : s.e = 0 → s.i < m
def S2 (ts ts' : List Tok) (d m b : Nat) (P : List NodeM) (s s' : PS) : Prop := EO ts m s ∨ (PSOk ts s ∧ Rl ts ts' d m b P s s')
def Out (ts ts' : List Tok) (d m b : Nat) (P : List NodeM) (r r' : List Nat × PS) : Prop := EO ts m r.2 ∨ (PSOk ts r.2 ∧ Rl ts ts' d m b P r.2 r'.2 ∧ (r.2.e = 0 → r'.1 = r.1.map (· + b)))
section
variable {ts ts' : List Tok} {d m b : Nat} {P : List NodeM} {s s' : PS}
theorem EO.go (h : EO ts m s) (hk : PSOk ts (pGo s)) : EO ts m (pGo s) := by
 refine ⟨hk, ?_⟩
 rcases h.esc with ⟨h0, hi⟩ | ⟨h0, j, hj⟩
 · exact .inl ⟨h0, by show m ≤ s.i + 1; omega⟩
 · exact .inr ⟨h0, j, hj⟩
theorem EO.fail (h : EO ts m s) (ht : ToksOk ts) (k : Nat) (hk : k ≤ 21) (hk1 : 1 ≤ k) : EO ts m (pFail ts k s) := by
 refine ⟨h.ok.fail ht k hk hk1, ?_⟩
 unfold pFail
 rcases h.esc with ⟨h0, hi⟩ | ⟨h0, j, hj⟩
 · rw [if_pos h0]
   exact .inr ⟨by show k ≠ 0; omega, s.i, hi, h.ok.room, rfl⟩
 · rw [if_neg h0]
   exact .inr ⟨h0, j, hj⟩
theorem EO.must (h : EO ts m s) (ht : ToksOk ts) (x : List UInt8) : EO ts m (pMust ts x s) := by
 by_cases hp : pIs ts x s = true
 · have e : pMust ts x s = pGo s := by unfold pMust; rw [if_pos hp]
   rw [e]; exact h.go (h.ok.goIs ht hp)
 · have e : pMust ts x s = pFail ts 20 s := by unfold pMust; rw [if_neg hp]
   rw [e]; exact h.fail ht 20 (by decide) (by decide)
theorem EO.named (h : EO ts m s) (ht : ToksOk ts) : EO ts m (pNamed ts s) := by
 by_cases hp : pKind ts 3 s = true
 · have e : pNamed ts s = pGo s := by unfold pNamed; rw [if_pos hp]
   rw [e]; exact h.go (h.ok.goKind ht (pKind_kind hp).2 (by decide))
 · have e : pNamed ts s = pFail ts 20 s := by unfold pNamed; rw [if_neg hp]
   rw [e]; exact h.fail ht 20 (by decide) (by decide)
theorem EO.typed (h : EO ts m s) (ht : ToksOk ts) : EO ts m (pTyped ts s) := by
 have hk := h.ok.typed ht
 unfold pTyped at hk ⊢
 by_cases hp : pType ts s = 0
 · rw [if_pos hp]; exact h.fail ht 20 (by decide) (by decide)
 · rw [if_neg hp] at hk ⊢; exact h.go hk
theorem EO.downIs {x : List UInt8} (h : EO ts m s) (ht : ToksOk ts) (hx : pIs ts x s = true) : EO ts m (pDown ts s) := by
 refine ⟨h.ok.downIs ht hx, ?_⟩
 have h0 := (pIs_kind hx).1
 by_cases hd : 16 ≤ s.deep
 · have := (h.fail ht 21 (by decide) (by decide)).esc
   unfold pDown
   simp only
   rw [if_pos hd]
   exact this
 · unfold pDown
   simp only
   rw [if_neg hd]
   exact h.esc
theorem EO.goDown {x : List UInt8} (h : EO ts m s) (ht : ToksOk ts) (hx : pIs ts x s = true) : EO ts m (pGo (pDown ts s)) := (h.downIs ht hx).go (h.ok.goDown ht hx)
theorem EO.up (h : EO ts m s) : EO ts m (pUp s) := ⟨h.ok.up, h.esc⟩
theorem EO.put (h : EO ts m s) (k line n : Nat) (name : List UInt8) (l : List Nat) : EO ts m (pPut k line n name l s).2 := ⟨h.ok.put .., h.esc⟩
theorem EO.goIs {x : List UInt8} (h : EO ts m s) (ht : ToksOk ts) (hx : pIs ts x s = true) : EO ts m (pGo s) := h.go (h.ok.goIs ht hx)
theorem EO.goNext {lv : Nat} (h : EO ts m s) (ht : ToksOk ts) (hx : pNext ts lv s ≠ []) : EO ts m (pGo s) := h.go (h.ok.goNext ht hx)
theorem EO.goWord {x : List UInt8} (h : EO ts m s) (ht : ToksOk ts) (hw : pWord ts s = x) (hx : x ≠ []) : EO ts m (pGo s) := h.go (h.ok.goWord ht hw hx)
theorem EO.goKind {k : Nat} (h : EO ts m s) (ht : ToksOk ts) (hk : (pTok ts s).kind = k) (h0 : k ≠ 0) : EO ts m (pGo s) := h.go (h.ok.goKind ht hk h0)
theorem run_eo {src : List UInt8} (ht : ToksOk ts) : ∀ (n : Nat) (k : Task) (s : PS) (r : List Nat × PS), run src ts n k s = some r → EO ts m s → EO ts m r.2 := by
 intro n
 induction n with
 | zero => intro k s r h; simp [run] at h
 | succ n ih =>
  intro k s r h hs
  cases k <;> simp only [run] at h <;>
   (repeat' split at h) <;>
   (try simp only [Option.map_eq_some_iff, Option.bind_eq_some_iff, Option.some.injEq] at h) <;>
   (try (obtain ⟨q1, h1, h⟩ := h)) <;>
   (repeat' split at h) <;>
   (try simp only [Option.map_eq_some_iff, Option.bind_eq_some_iff, Option.some.injEq] at h) <;>
   (try (obtain ⟨q2, h2, h⟩ := h)) <;>
   (repeat' split at h) <;>
   (try simp only [Option.map_eq_some_iff, Option.bind_eq_some_iff, Option.some.injEq] at h) <;>
   (try (obtain ⟨q3, h3, h⟩ := h)) <;>
   (try subst h) <;>
   (try subst h1) <;>
   (repeat (first
     | assumption
     | apply EO.put
     | apply EO.up
     | (refine EO.must ?_ ht _)
     | (refine EO.named ?_ ht)
     | (refine EO.typed ?_ ht)
     | (refine EO.fail ?_ ht 20 (by decide) (by decide))
     | (refine EO.goDown ?_ ht (by assumption))
     | (refine EO.downIs ?_ ht (by assumption))
     | (refine EO.goIs ?_ ht (by assumption))
     | (refine EO.goNext ?_ ht (by assumption))
     | (refine EO.goWord ?_ ht (by assumption) (by simp))
     | (refine EO.goKind ?_ ht (by assumption) (by decide))
     | (refine ih _ _ _ (by assumption) ?_)
     | dsimp only))
end
/- Two readers: what they see. -/
section
variable {ts ts' : List Tok} {d m b : Nat} {P : List NodeM} {s s' : PS}
theorem Rl.tok (hm : Mt ts ts' d m) (h : Rl ts ts' d m b P s s') (h0 : s.e = 0) : (pTok ts' s').kind = (pTok ts s).kind ∧ (pTok ts' s').text = (pTok ts s).text := by
 unfold pTok
 rw [h.i h0]
 exact hm _ (h.lt h0)
theorem Rl.is (hm : Mt ts ts' d m) (h : Rl ts ts' d m b P s s') (x : List UInt8) : pIs ts' x s' = pIs ts x s := by
 unfold pIs
 rw [h.e]
 by_cases h0 : s.e = 0
 · rw [(h.tok hm h0).1, (h.tok hm h0).2]
 · rw [decide_eq_false h0]; simp
theorem Rl.kind (hm : Mt ts ts' d m) (h : Rl ts ts' d m b P s s') (k : Nat) : pKind ts' k s' = pKind ts k s := by
 unfold pKind
 rw [h.e]
 by_cases h0 : s.e = 0
 · rw [(h.tok hm h0).1]
 · rw [decide_eq_false h0]; simp
theorem Rl.word (hm : Mt ts ts' d m) (h : Rl ts ts' d m b P s s') : pWord ts' s' = pWord ts s := by
 unfold pWord
 rw [h.kind hm]
 by_cases hk : pKind ts 4 s = true
 · rw [if_pos hk, if_pos hk, (h.tok hm (pKind_kind hk).1).2]
 · rw [if_neg hk, if_neg hk]
theorem Rl.type (hm : Mt ts ts' d m) (h : Rl ts ts' d m b P s s') : pType ts' s' = pType ts s := by
 unfold pType
 rw [h.word hm]
theorem Rl.name (hm : Mt ts ts' d m) (h : Rl ts ts' d m b P s s') : pName ts' s' = pName ts s := by
 unfold pName
 rw [h.kind hm]
 by_cases hk : pKind ts 3 s = true
 · rw [if_pos hk, if_pos hk, (h.tok hm (pKind_kind hk).1).2]
 · rw [if_neg hk, if_neg hk]
theorem Rl.next (hm : Mt ts ts' d m) (h : Rl ts ts' d m b P s s') (lv : Nat) : pNext ts' lv s' = pNext ts lv s := by
 unfold pNext
 rw [show (fun x => pIs ts' x s') = fun x => pIs ts x s from funext fun x => h.is hm x]
theorem Rl.calls (hm : Mt ts ts' d m) (h : Rl ts ts' d m b P s s') (hi : s.i + 1 < m) : pCalls ts' s' = pCalls ts s := by
 unfold pCalls
 rw [h.kind hm]
 by_cases hk : pKind ts 3 s = true
 · have h1 := hm _ hi
   rw [h.i (pKind_kind hk).1, show s.i + d + 1 = s.i + 1 + d by omega, h1.1, h1.2]
 · rw [show pKind ts 3 s = false by simpa using hk]; rfl
/- Their steps. -/
theorem Rl.go (h : Rl ts ts' d m b P s s') (hk : PSOk ts (pGo s)) : S2 ts ts' d m b P (pGo s) (pGo s') := by
 by_cases h0 : s.e = 0
 · by_cases hi : s.i + 1 < m
   · exact .inr ⟨hk, h.e, h.deep, fun _ => by show s'.i + 1 = s.i + 1 + d; have := h.i h0; omega, h.nodes, fun he => absurd h0 he, fun _ => hi⟩
   · exact .inl ⟨hk, .inl ⟨h0, by show m ≤ s.i + 1; omega⟩⟩
 · exact .inr ⟨hk, h.e, h.deep, fun e => absurd e h0, fun e => absurd e h0, h.place, fun e => absurd e h0⟩
theorem Rl.fail (h : Rl ts ts' d m b P s s') (k : Nat) (hk : 1 ≤ k) : Rl ts ts' d m b P (pFail ts k s) (pFail ts' k s') := by
 unfold pFail
 rw [h.e]
 by_cases h0 : s.e = 0
 · rw [if_pos h0, if_pos h0]
   have hk0 : k ≠ 0 := by omega
   refine ⟨rfl, h.deep, fun e => absurd e hk0, fun e => absurd e hk0, fun _ => ⟨s.i, h.lt h0, rfl, ?_⟩, fun e => absurd e hk0⟩
   show (pTok ts' s').place = _
   unfold pTok
   rw [h.i h0]
 · rw [if_neg h0, if_neg h0]
   exact h
theorem S2.go (h : S2 ts ts' d m b P s s') (hk : PSOk ts (pGo s)) : S2 ts ts' d m b P (pGo s) (pGo s') := by
 rcases h with h | ⟨_, h⟩
 · exact .inl (h.go hk)
 · exact h.go hk
theorem S2.fail (h : S2 ts ts' d m b P s s') (ht : ToksOk ts) (k : Nat) (hk : k ≤ 21) (hk1 : 1 ≤ k) : S2 ts ts' d m b P (pFail ts k s) (pFail ts' k s') := by
 rcases h with h | ⟨ho, h⟩
 · exact .inl (h.fail ht k hk hk1)
 · exact .inr ⟨ho.fail ht k hk hk1, h.fail k hk1⟩
theorem S2.must (hm : Mt ts ts' d m) (h : S2 ts ts' d m b P s s') (ht : ToksOk ts) (x : List UInt8) : S2 ts ts' d m b P (pMust ts x s) (pMust ts' x s') := by
 rcases h with h | ⟨ho, h⟩
 · exact .inl (h.must ht x)
 · unfold pMust
   rw [h.is hm x]
   by_cases hp : pIs ts x s = true
   · rw [if_pos hp, if_pos hp]; exact h.go (ho.goIs ht hp)
   · rw [if_neg hp, if_neg hp]; exact S2.fail (.inr ⟨ho, h⟩) ht 20 (by decide) (by decide)
theorem S2.named (hm : Mt ts ts' d m) (h : S2 ts ts' d m b P s s') (ht : ToksOk ts) : S2 ts ts' d m b P (pNamed ts s) (pNamed ts' s') := by
 rcases h with h | ⟨ho, h⟩
 · exact .inl (h.named ht)
 · unfold pNamed
   rw [h.kind hm]
   by_cases hp : pKind ts 3 s = true
   · rw [if_pos hp, if_pos hp]; exact h.go (ho.goKind ht (pKind_kind hp).2 (by decide))
   · rw [if_neg hp, if_neg hp]; exact S2.fail (.inr ⟨ho, h⟩) ht 20 (by decide) (by decide)
theorem S2.typed (hm : Mt ts ts' d m) (h : S2 ts ts' d m b P s s') (ht : ToksOk ts) : S2 ts ts' d m b P (pTyped ts s) (pTyped ts' s') := by
 rcases h with h | ⟨ho, h⟩
 · exact .inl (h.typed ht)
 · have hk := ho.typed ht
   unfold pTyped at hk ⊢
   rw [h.type hm]
   by_cases hp : pType ts s = 0
   · rw [if_pos hp, if_pos hp]; exact S2.fail (.inr ⟨ho, h⟩) ht 20 (by decide) (by decide)
   · rw [if_neg hp] at hk
     rw [if_neg hp, if_neg hp]
     exact h.go hk
theorem S2.downIs {x : List UInt8} (h : S2 ts ts' d m b P s s') (ht : ToksOk ts) (hx : pIs ts x s = true) : S2 ts ts' d m b P (pDown ts s) (pDown ts' s') := by
 rcases h with h | ⟨ho, h⟩
 · exact .inl (h.downIs ht hx)
 · refine .inr ⟨ho.downIs ht hx, ?_⟩
   unfold pDown
   simp only
   rw [h.deep]
   by_cases hd : 16 ≤ s.deep
   · rw [if_pos hd, if_pos hd]
     have h1 := h.fail 21 (by decide)
     exact ⟨h1.e, by show (pFail ts' 21 s').deep + 1 = (pFail ts 21 s).deep + 1; rw [h1.deep], h1.i, h1.nodes, h1.place, h1.lt⟩
   · rw [if_neg hd, if_neg hd]
     exact ⟨h.e, by show s'.deep + 1 = s.deep + 1; rw [h.deep], h.i, h.nodes, h.place, h.lt⟩
theorem S2.up (h : S2 ts ts' d m b P s s') : S2 ts ts' d m b P (pUp s) (pUp s') := by
 rcases h with h | ⟨ho, h⟩
 · exact .inl h.up
 · exact .inr ⟨ho.up, h.e, by show s'.deep - 1 = s.deep - 1; rw [h.deep], h.i, h.nodes, h.place, h.lt⟩
theorem S2.put (hP : P.length = b) (h : S2 ts ts' d m b P s s') (k n line line' : Nat) (name : List UInt8) {l l' : List Nat} (hl : s.e = 0 → l' = l.map (· + b)) : Out ts ts' d m b P (pPut k line n name l s) (pPut k line' n name l' s') := by
 rcases h with h | ⟨ho, h⟩
 · exact .inl (h.put ..)
 · refine .inr ⟨ho.put .., ⟨h.e, h.deep, h.i, fun h0 => ?_, h.place, h.lt⟩, fun h0 => ?_⟩
   · show (s'.nodes ++ [_]).map zlN = P ++ (s.nodes ++ [_]).map (shN b)
     rw [List.map_append, List.map_append, h.nodes h0, List.append_assoc, hl h0]
     rfl
   · have h1 := congrArg List.length (h.nodes h0)
     simp only [List.length_map, List.length_append] at h1
     show [s'.nodes.length] = [s.nodes.length + b]
     rw [h1, hP, Nat.add_comm]
theorem Out.st {r r' : List Nat × PS} (h : Out ts ts' d m b P r r') : S2 ts ts' d m b P r.2 r'.2 := by
 rcases h with h | ⟨a, c, _⟩
 · exact .inl h
 · exact .inr ⟨a, c⟩
end
inductive TR (b : Nat) (s : PS) : Task → Task → Prop
 | atom : TR b s .atom .atom
 | factor : TR b s .factor .factor
 | chain (lv : Nat) : TR b s (.chain lv) (.chain lv)
 | more (lv l l' x x' : Nat) (h : s.e = 0 → x' = x + b) : TR b s (.more lv l x) (.more lv l' x')
 | args (l l' : List Nat) (h : s.e = 0 → l' = l.map (· + b)) : TR b s (.args l) (.args l')
 | call : TR b s .call .call
 | right : TR b s .right .right
 | block : TR b s .block .block
 | stmts (l l' : List Nat) (h : s.e = 0 → l' = l.map (· + b)) : TR b s (.stmts l) (.stmts l')
 | named (l l' : Nat) : TR b s (.named l) (.named l')
 | stmt : TR b s .stmt .stmt
section
variable {src src' : List UInt8} {ts ts' : List Tok} {d m b : Nat} {P : List NodeM}
def RR (src' : List UInt8) (ts ts' : List Tok) (d m b : Nat) (P : List NodeM) (n : Nat) (k' : Task) (s' : PS) (r : List Nat × PS) : Prop :=
 EO ts m r.2 ∨ ∃ r', run src' ts' n k' s' = some r' ∧ PSOk ts r.2 ∧ Rl ts ts' d m b P r.2 r'.2 ∧ (r.2.e = 0 → r'.1 = r.1.map (· + b))
theorem Out.rr {n : Nat} {k' : Task} {s' : PS} {r r' : List Nat × PS} (h : Out ts ts' d m b P r r') (hr : run src' ts' n k' s' = some r') : RR src' ts ts' d m b P n k' s' r := by
 rcases h with h | ⟨a, c, e⟩
 · exact .inl h
 · exact .inr ⟨r', hr, a, c, e⟩
theorem S2.err {s s' : PS} (h : S2 ts ts' d m b P s s') (l l' : List Nat) (he : s.e ≠ 0) : Out ts ts' d m b P (l, s) (l', s') := by
 rcases h with h | ⟨a, c⟩
 · exact .inl h
 · exact .inr ⟨a, c, fun e => absurd e he⟩
theorem S2.ok {s s' : PS} (h : S2 ts ts' d m b P s s') {l l' : List Nat} (he : s.e = 0 → l' = l.map (· + b)) : Out ts ts' d m b P (l, s) (l', s') := by
 rcases h with h | ⟨a, c⟩
 · exact .inl h
 · exact .inr ⟨a, c, he⟩
theorem fail_e (k : Nat) (hk : k ≠ 0) (s : PS) : (pFail ts k s).e ≠ 0 := by
 unfold pFail
 split
 · exact hk
 · assumption
theorem head_rel {l l' : List Nat} (h1 : l = [oneOf l]) (h : l' = l.map (· + b)) : l'.headD 0 = l.headD 0 + b := by
 rw [h, h1]
 rfl
theorem factor_eo (ht : ToksOk ts) {n : Nat} {s : PS} {r : List Nat × PS} (h : run src ts n .factor s = some r) (hk : pKind ts 3 s = true) (hE : EO ts m (pGo s)) : EO ts m r.2 := by
 have hno : ∀ x, pIs ts x s = false := fun x => by
  unfold pIs
  rw [(pKind_kind hk).2]
  simp
 cases n with
 | zero => simp [run] at h
 | succ n =>
  simp only [run] at h
  rw [if_neg (by rw [hno]; decide), if_neg (by rw [hno]; decide)] at h
  cases n with
  | zero => simp [run] at h
  | succ n =>
   simp only [run] at h
   rw [if_neg (by have := (pKind_kind hk).1; omega), if_neg (by rw [(pKind_kind hk).2]; decide), if_neg (by rw [(pKind_kind hk).2]; decide), if_pos (pKind_kind hk).2] at h
   by_cases i1 : pIs ts [91] (pGo s) = true
   · rw [if_pos i1] at h
     simp only [Option.map_eq_some_iff] at h
     obtain ⟨q, hq, rfl⟩ := h
     exact ((run_eo ht _ _ _ _ hq ((hE.downIs ht i1).must ht _)).must ht _).up.put ..
   · rw [if_neg i1] at h
     simp only [Option.some.injEq] at h
     subst h
     exact hE.put ..
theorem chain_eo (ht : ToksOk ts) : ∀ {n lv : Nat} {s : PS} {r : List Nat × PS}, run src ts n (.chain lv) s = some r → pKind ts 3 s = true → EO ts m (pGo s) → EO ts m r.2
 | 0, _, _, _, h, _, _ => by simp [run] at h
 | n + 1, lv, s, r, h, hk, hE => by
  simp only [run] at h
  by_cases h5 : lv = 5
  · rw [if_pos h5] at h
    exact factor_eo ht h hk hE
  · rw [if_neg h5] at h
    simp only [Option.bind_eq_some_iff] at h
    obtain ⟨q, hq, h⟩ := h
    exact run_eo ht _ _ _ _ h (chain_eo ht hq hk hE)
theorem call_eo (ht : ToksOk ts) {n : Nat} {s : PS} {r : List Nat × PS} (h : run src ts n .call s = some r) (hE : EO ts m (pNamed ts s)) : EO ts m r.2 := by
 cases n with
 | zero => simp [run] at h
 | succ n =>
  simp only [run, Option.map_eq_some_iff] at h
  obtain ⟨q, hq, rfl⟩ := h
  refine EO.put (EO.must ?_ ht _) ..
  split at hq
  · exact run_eo ht _ _ _ _ hq (hE.must ht _)
  · simp only [Option.some.injEq] at hq
    subst hq
    exact hE.must ht _
theorem right_eo (ht : ToksOk ts) {n : Nat} {s : PS} {r : List Nat × PS} (h : run src ts n .right s = some r) (hk : pKind ts 3 s = true) (hE : EO ts m (pGo s)) : EO ts m r.2 := by
 have hno : ∀ x, pIs ts x s = false := fun x => by
  unfold pIs
  rw [(pKind_kind hk).2]
  simp
 cases n with
 | zero => simp [run] at h
 | succ n =>
  simp only [run] at h
  rw [if_neg (by rw [hno]; decide), if_neg (by rw [hno]; decide)] at h
  split at h
  · exact call_eo ht h (by unfold pNamed; rw [if_pos hk]; exact hE)
  · exact chain_eo ht h hk hE
theorem named_eo (ht : ToksOk ts) {n l : Nat} {s : PS} {r : List Nat × PS} (h : run src ts n (.named l) s = some r) (hE : EO ts m (pNamed ts s)) : EO ts m r.2 := by
 cases n with
 | zero => simp [run] at h
 | succ n =>
  simp only [run] at h
  split at h
  · simp only [Option.map_eq_some_iff] at h
    obtain ⟨q, hq, rfl⟩ := h
    exact ((call_eo ht hq hE).must ht _).put ..
  · split at h
    · rename_i i1
      simp only [Option.bind_eq_some_iff, Option.map_eq_some_iff] at h
      obtain ⟨q, hq, u, hu, rfl⟩ := h
      exact ((run_eo ht _ _ _ _ hu (((run_eo ht _ _ _ _ hq ((hE.downIs ht i1).must ht _)).must ht _).up.must ht _)).must ht _).put ..
    · simp only [Option.map_eq_some_iff] at h
      obtain ⟨q, hq, rfl⟩ := h
      exact ((run_eo ht _ _ _ _ hq (hE.must ht _)).must ht _).put ..
theorem Rl.calls2 {s s' : PS} (hm : Mt ts ts' d m) (ho : PSOk ts s) (ht : ToksOk ts) (h : Rl ts ts' d m b P s s') : pCalls ts' s' = pCalls ts s ∨ (pKind ts 3 s = true ∧ EO ts m (pGo s)) := by
 by_cases hk : pKind ts 3 s = true
 · by_cases hi : s.i + 1 < m
   · exact .inl (h.calls hm hi)
   · exact .inr ⟨hk, ho.goKind ht (pKind_kind hk).2 (by decide), .inl ⟨(pKind_kind hk).1, by show m ≤ s.i + 1; omega⟩⟩
 · refine .inl ?_
   unfold pCalls
   rw [h.kind hm, show pKind ts 3 s = false by simpa using hk]
   rfl
set_option maxHeartbeats 4000000 in
theorem run_rel (hm : Mt ts ts' d m) (hP : P.length = b) (ht : ToksOk ts) : ∀ (n : Nat) (k : Task) (s : PS) (r : List Nat × PS), run src ts n k s = some r → ∀ (k' : Task) (s' : PS), TR b s k k' → PSOk ts s → Rl ts ts' d m b P s s' → RR src' ts ts' d m b P n k' s' r := by
 intro n
 induction n with
 | zero => intro k s r h; simp [run] at h
 | succ n ih =>
  intro k s r h k' s' hk ho hl
  have sub : ∀ {k k' : Task} {u u' : PS} {q : List Nat × PS}, S2 ts ts' d m b P u u' → run src ts n k u = some q → TR b u k k' → RR src' ts ts' d m b P n k' u' q := by
   intro k k' u u' q hs hq hk
   rcases hs with hs | ⟨ho, hl⟩
   · exact .inl (run_eo ht _ _ _ _ hq hs)
   · exact ih _ _ _ hq _ _ hk ho hl
  have h2 : S2 ts ts' d m b P s s' := .inr ⟨ho, hl⟩
  have hI := fun x => hl.is hm x
  cases hk with
  | atom =>
   simp only [run] at h
   by_cases he : s.e ≠ 0
   · rw [if_pos he] at h
     simp only [Option.some.injEq] at h
     subst h
     exact (h2.err _ [0] he).rr (by simp only [run]; rw [if_pos (by rw [hl.e]; exact he)])
   · rw [if_neg he] at h
     have h0 : s.e = 0 := by omega
     have he' : ¬ s'.e ≠ 0 := by rw [hl.e]; exact he
     obtain ⟨tk, tt⟩ := hl.tok hm h0
     by_cases k1 : (pTok ts s).kind = 1
     · rw [if_pos k1] at h
       simp only [Option.some.injEq] at h
       subst h
       exact ((h2.go (ho.goKind ht k1 (by decide))).put hP 1 _ _ (pLine src' ts' s') [] (l' := []) (fun _ => rfl)).rr (by simp only [run]; rw [if_neg he', tk, if_pos k1, tt])
     · rw [if_neg k1] at h
       by_cases k2 : (pTok ts s).kind = 2
       · rw [if_pos k2] at h
         simp only [Option.some.injEq] at h
         subst h
         exact ((h2.go (ho.goKind ht k2 (by decide))).put hP 3 _ _ (pLine src' ts' s') _ (l' := []) (fun _ => rfl)).rr (by simp only [run]; rw [if_neg he', tk, if_neg k1, if_pos k2, tt])
       · rw [if_neg k2] at h
         by_cases k3 : (pTok ts s).kind = 3
         · rw [if_pos k3] at h
           rcases h2.go (ho.goKind ht k3 (by decide)) with hE | ⟨ho1, hl1⟩
           · -- past what is alike
             refine .inl ?_
             by_cases i1 : pIs ts [91] (pGo s) = true
             · rw [if_pos i1] at h
               simp only [Option.map_eq_some_iff] at h
               obtain ⟨q, hq, rfl⟩ := h
               exact ((run_eo ht _ _ _ _ hq ((hE.downIs ht i1).must ht _)).must ht _).up.put ..
             · rw [if_neg i1] at h
               simp only [Option.some.injEq] at h
               subst h
               exact hE.put ..
           · by_cases i1 : pIs ts [91] (pGo s) = true
             · rw [if_pos i1] at h
               simp only [Option.map_eq_some_iff] at h
               obtain ⟨q, hq, rfl⟩ := h
               rcases sub (S2.must hm (S2.downIs (.inr ⟨ho1, hl1⟩) ht i1) ht [91]) hq (TR.chain 0) with hE | ⟨q', hq', a, c, e⟩
               · exact .inl ((hE.must ht _).up.put ..)
               · exact ((S2.must hm (.inr ⟨a, c⟩) ht [93]).up.put hP 5 0 _ (pLine src' ts' s') _ (fun e0 => e (((Ext.refl q.2).must (ts := ts) [93]).up.e0 e0))).rr (by
                   simp only [run]; rw [if_neg he', tk, if_neg k1, if_neg k2, if_pos k3, hl1.is hm, if_pos i1, hq', tt]; rfl)
             · rw [if_neg i1] at h
               simp only [Option.some.injEq] at h
               subst h
               exact (S2.put hP (.inr ⟨ho1, hl1⟩) 4 _ _ (pLine src' ts' s') _ (l' := []) (fun _ => rfl)).rr (by
                   simp only [run]; rw [if_neg he', tk, if_neg k1, if_neg k2, if_pos k3, hl1.is hm, if_neg i1, tt])
         · rw [if_neg k3] at h
           by_cases i1 : pIs ts [116, 114, 117, 101] s = true
           · rw [if_pos i1] at h
             simp only [Option.some.injEq] at h
             subst h
             exact ((h2.go (ho.goIs ht i1)).put hP 2 _ _ (pLine src' ts' s') [] (l' := []) (fun _ => rfl)).rr (by simp only [run]; rw [if_neg he', tk, if_neg k1, if_neg k2, if_neg k3, hI, if_pos i1])
           · rw [if_neg i1] at h
             by_cases i2 : pIs ts [102, 97, 108, 115, 101] s = true
             · rw [if_pos i2] at h
               simp only [Option.some.injEq] at h
               subst h
               exact ((h2.go (ho.goIs ht i2)).put hP 2 _ _ (pLine src' ts' s') [] (l' := []) (fun _ => rfl)).rr (by simp only [run]; rw [if_neg he', tk, if_neg k1, if_neg k2, if_neg k3, hI, if_neg i1, hI, if_pos i2])
             · rw [if_neg i2] at h
               by_cases i3 : pIs ts [108, 101, 110] s = true
               · rw [if_pos i3] at h
                 rcases h2.go (ho.goIs ht i3) with hE | ⟨ho1, hl1⟩
                 · refine .inl ?_
                   by_cases i4 : pIs ts [40] (pGo s) = true
                   · rw [if_pos i4] at h
                     simp only [Option.map_eq_some_iff] at h
                     obtain ⟨q, hq, rfl⟩ := h
                     exact ((run_eo ht _ _ _ _ hq ((hE.downIs ht i4).must ht _)).must ht _).up.put ..
                   · rw [if_neg i4] at h
                     simp only [Option.some.injEq] at h
                     subst h
                     exact hE.fail ht 20 (by decide) (by decide)
                 · by_cases i4 : pIs ts [40] (pGo s) = true
                   · rw [if_pos i4] at h
                     simp only [Option.map_eq_some_iff] at h
                     obtain ⟨q, hq, rfl⟩ := h
                     rcases sub (S2.must hm (S2.downIs (.inr ⟨ho1, hl1⟩) ht i4) ht [40]) hq (TR.chain 0) with hE | ⟨q', hq', a, c, e⟩
                     · exact .inl ((hE.must ht _).up.put ..)
                     · exact ((S2.must hm (.inr ⟨a, c⟩) ht [41]).up.put hP 6 0 _ (pLine src' ts' s') _ (fun e0 => e (((Ext.refl q.2).must (ts := ts) [41]).up.e0 e0))).rr (by
                        simp only [run]; rw [if_neg he', tk, if_neg k1, if_neg k2, if_neg k3, hI, if_neg i1, hI, if_neg i2, hI, if_pos i3, hl1.is hm, if_pos i4, hq']; rfl)
                   · rw [if_neg i4] at h
                     simp only [Option.some.injEq] at h
                     subst h
                     exact ((S2.fail (.inr ⟨ho1, hl1⟩) ht 20 (by decide) (by decide)).err _ [0] (fail_e 20 (by decide) _)).rr (by
                        simp only [run]; rw [if_neg he', tk, if_neg k1, if_neg k2, if_neg k3, hI, if_neg i1, hI, if_neg i2, hI, if_pos i3, hl1.is hm, if_neg i4])
               · rw [if_neg i3] at h
                 by_cases i4 : pIs ts [40] s = true
                 · rw [if_pos i4] at h
                   simp only [Option.map_eq_some_iff] at h
                   obtain ⟨q, hq, rfl⟩ := h
                   rcases sub (S2.must hm (h2.downIs ht i4) ht [40]) hq (TR.chain 0) with hE | ⟨q', hq', a, c, e⟩
                   · exact .inl (hE.must ht _).up
                   · exact ((S2.must hm (.inr ⟨a, c⟩) ht [41]).up.ok (l := q.1) (l' := q'.1) (fun e0 => e (((Ext.refl q.2).must (ts := ts) [41]).up.e0 e0))).rr (by
                       simp only [run]; rw [if_neg he', tk, if_neg k1, if_neg k2, if_neg k3, hI, if_neg i1, hI, if_neg i2, hI, if_neg i3, hI, if_pos i4, hq']; rfl)
                 · rw [if_neg i4] at h
                   simp only [Option.some.injEq] at h
                   subst h
                   exact ((h2.fail ht 20 (by decide) (by decide)).err _ [0] (fail_e 20 (by decide) _)).rr (by
                       simp only [run]; rw [if_neg he', tk, if_neg k1, if_neg k2, if_neg k3, hI, if_neg i1, hI, if_neg i2, hI, if_neg i3, hI, if_neg i4])
  | factor =>
   simp only [run] at h
   by_cases i1 : pIs ts [45] s = true
   · rw [if_pos i1] at h
     simp only [Option.map_eq_some_iff] at h
     obtain ⟨q, hq, rfl⟩ := h
     rcases sub ((h2.downIs ht i1).go (ho.goDown ht i1)) hq TR.factor with hE | ⟨q', hq', a, c, e⟩
     · exact .inl (hE.up.put ..)
     · exact ((S2.up (.inr ⟨a, c⟩)).put hP 7 0 _ (pLine src' ts' s') _ (fun e0 => e e0)).rr (by simp only [run]; rw [hI, if_pos i1, hq']; rfl)
   · rw [if_neg i1] at h
     by_cases i2 : pIs ts [33] s = true
     · rw [if_pos i2] at h
       simp only [Option.map_eq_some_iff] at h
       obtain ⟨q, hq, rfl⟩ := h
       rcases sub ((h2.downIs ht i2).go (ho.goDown ht i2)) hq TR.factor with hE | ⟨q', hq', a, c, e⟩
       · exact .inl (hE.up.put ..)
       · exact ((S2.up (.inr ⟨a, c⟩)).put hP 8 0 _ (pLine src' ts' s') _ (fun e0 => e e0)).rr (by simp only [run]; rw [hI, if_neg i1, hI, if_pos i2, hq']; rfl)
     · rw [if_neg i2] at h
       rcases sub h2 h TR.atom with hE | ⟨q', hq', a, c, e⟩
       · exact .inl hE
       · exact .inr ⟨q', by simp only [run]; rw [hI, if_neg i1, hI, if_neg i2, hq'], a, c, e⟩
  | chain lv =>
   simp only [run] at h
   by_cases h5 : lv = 5
   · rw [if_pos h5] at h
     rcases sub h2 h TR.factor with hE | ⟨q', hq', a, c, e⟩
     · exact .inl hE
     · exact .inr ⟨q', by simp only [run]; rw [if_pos h5, hq'], a, c, e⟩
   · rw [if_neg h5] at h
     simp only [Option.bind_eq_some_iff] at h
     obtain ⟨q, hq, h⟩ := h
     rcases sub h2 hq (TR.chain (lv + 1)) with hE | ⟨q', hq', a, c, e⟩
     · exact .inl (run_eo ht _ _ _ _ h hE)
     · rcases sub (.inr ⟨a, c⟩) h (TR.more lv (pLine src ts s) (pLine src' ts' s') (q.1.headD 0) (q'.1.headD 0) (fun e0 => head_rel (run_one _ _ _ _ hq trivial) (e e0))) with hE | ⟨r', hr', a2, c2, e2⟩
       · exact .inl hE
       · exact .inr ⟨r', by simp only [run]; rw [if_neg h5, hq']; exact hr', a2, c2, e2⟩
  | more lv l l' x x' hx =>
   simp only [run] at h
   have hn := hl.next hm lv
   by_cases hp : pNext ts lv s = []
   · rw [if_pos hp] at h
     simp only [Option.some.injEq] at h
     subst h
     exact (h2.ok (l := [x]) (l' := [x']) (fun e0 => by rw [hx e0]; rfl)).rr (by simp only [run]; rw [hn, if_pos hp])
   · rw [if_neg hp] at h
     simp only [Option.bind_eq_some_iff] at h
     obtain ⟨q, hq, h⟩ := h
     have h0 := (pNext_kind hp).1
     rcases sub (h2.go (ho.goNext ht hp)) hq (TR.chain (lv + 1)) with hE | ⟨q', hq', a, c, e⟩
     · refine .inl ?_
       by_cases h2' : lv = 2
       · rw [if_pos h2'] at h
         simp only [Option.some.injEq] at h
         subst h
         exact hE.put ..
       · rw [if_neg h2'] at h
         exact run_eo ht _ _ _ _ h (hE.put ..)
     · have hput := S2.put hP (.inr ⟨a, c⟩) 9 0 l l' (pNext ts lv s) (l := [x, q.1.headD 0]) (l' := [x', q'.1.headD 0]) (fun e0 => by rw [hx h0, head_rel (run_one _ _ _ _ hq trivial) (e e0)]; rfl)
       by_cases h2' : lv = 2
       · rw [if_pos h2'] at h
         simp only [Option.some.injEq] at h
         subst h
         exact hput.rr (by simp only [run]; rw [hn, if_neg hp, hq']; simp only [Option.bind_some]; rw [if_pos h2'])
       · rw [if_neg h2'] at h
         rcases hput with hE | ⟨a3, c3, e3⟩
         · exact .inl (run_eo ht _ _ _ _ h hE)
         · rcases sub (.inr ⟨a3, c3⟩) h (TR.more lv l l' _ _ (fun e0 => head_rel rfl (e3 e0))) with hE | ⟨r', hr', a2, c2, e2⟩
           · exact .inl hE
           · exact .inr ⟨r', by simp only [run]; rw [hn, if_neg hp, hq']; simp only [Option.bind_some]; rw [if_neg h2']; exact hr', a2, c2, e2⟩
  | args l l' hx =>
   simp only [run] at h
   simp only [Option.bind_eq_some_iff] at h
   obtain ⟨q, hq, h⟩ := h
   rcases sub h2 hq (TR.chain 0) with hE | ⟨q', hq', a, c, e⟩
   · refine .inl ?_
     by_cases i1 : pIs ts [44] q.2 = true
     · rw [if_pos i1] at h
       exact run_eo ht _ _ _ _ h (hE.goIs ht i1)
     · rw [if_neg i1] at h
       simp only [Option.some.injEq] at h
       subst h
       exact hE
   · have hll : q.2.e = 0 → l' ++ q'.1 = (l ++ q.1).map (· + b) := fun e0 => by rw [List.map_append, e e0, hx ((run_ext _ _ _ _ hq).e0 e0)]
     by_cases i1 : pIs ts [44] q.2 = true
     · rw [if_pos i1] at h
       rcases sub (S2.go (.inr ⟨a, c⟩) (a.goIs ht i1)) h (TR.args (l ++ q.1) (l' ++ q'.1) (fun e0 => hll e0)) with hE | ⟨r', hr', a2, c2, e2⟩
       · exact .inl hE
       · exact .inr ⟨r', by simp only [run]; rw [hq']; simp only [Option.bind_some]; rw [c.is hm, if_pos i1]; exact hr', a2, c2, e2⟩
     · rw [if_neg i1] at h
       simp only [Option.some.injEq] at h
       subst h
       exact (S2.ok (.inr ⟨a, c⟩) hll).rr (by simp only [run]; rw [hq']; simp only [Option.bind_some]; rw [c.is hm, if_neg i1])
  | call =>
   simp only [run, Option.map_eq_some_iff] at h
   obtain ⟨q, hq, rfl⟩ := h
   have hs2 := S2.must hm (S2.named hm h2 ht) ht [40]
   rcases hs2 with hE | ⟨a, c⟩
   · refine .inl (EO.put (EO.must ?_ ht _) ..)
     split at hq
     · exact run_eo ht _ _ _ _ hq hE
     · simp only [Option.some.injEq] at hq
       subst hq
       exact hE
   · by_cases hc : pIs ts [41] (pMust ts [40] (pNamed ts s)) = false ∧ (pMust ts [40] (pNamed ts s)).e = 0
     · rw [if_pos hc] at hq
       rcases sub (.inr ⟨a, c⟩) hq (TR.args [] [] (fun _ => rfl)) with hE | ⟨q', hq', a2, c2, e2⟩
       · exact .inl ((hE.must ht _).put ..)
       · exact ((S2.must hm (.inr ⟨a2, c2⟩) ht [41]).put hP 21 0 _ (pLine src' ts' s') _ (fun e0 => e2 (((Ext.refl q.2).must (ts := ts) [41]).e0 e0))).rr (by
           simp only [run]; rw [c.is hm, c.e, if_pos hc, hq', hl.name hm]; rfl)
     · rw [if_neg hc] at hq
       simp only [Option.some.injEq] at hq
       subst hq
       exact ((S2.must hm (.inr ⟨a, c⟩) ht [41]).put hP 21 0 _ (pLine src' ts' s') _ (l := []) (l' := []) (fun e0 => rfl)).rr (by
           simp only [run]; rw [c.is hm, c.e, if_neg hc, hl.name hm]; rfl)
  | right =>
   rcases hl.calls2 hm ho ht with hc | ⟨hk3, hE⟩
   case inr => exact .inl (right_eo ht h hk3 hE)
   simp only [run] at h
   by_cases i1 : pIs ts [105, 110, 112, 117, 116] s = true
   · rw [if_pos i1] at h
     simp only [Option.some.injEq] at h
     subst h
     exact ((h2.go (ho.goIs ht i1)).put hP 19 0 _ (pLine src' ts' s') [] (l' := []) (fun _ => rfl)).rr (by simp only [run]; rw [hI, if_pos i1])
   · rw [if_neg i1] at h
     by_cases i2 : pIs ts [110, 101, 119] s = true
     · rw [if_pos i2] at h
       simp only [Option.map_eq_some_iff] at h
       obtain ⟨q, hq, rfl⟩ := h
       rcases sub (S2.must hm (h2.go (ho.goIs ht i2)) ht [40]) hq (TR.chain 0) with hE | ⟨q', hq', a, c, e⟩
       · exact .inl ((hE.must ht _).put ..)
       · exact ((S2.must hm (.inr ⟨a, c⟩) ht [41]).put hP 20 0 _ (pLine src' ts' s') _ (fun e0 => e (((Ext.refl q.2).must (ts := ts) [41]).e0 e0))).rr (by simp only [run]; rw [hI, if_neg i1, hI, if_pos i2, hq']; rfl)
     · rw [if_neg i2] at h
       by_cases i3 : pCalls ts s = true
       · rw [if_pos i3] at h
         rcases sub h2 h TR.call with hE | ⟨q', hq', a, c, e⟩
         · exact .inl hE
         · exact .inr ⟨q', by simp only [run]; rw [hI, if_neg i1, hI, if_neg i2, hc, if_pos i3, hq'], a, c, e⟩
       · rw [if_neg i3] at h
         rcases sub h2 h (TR.chain 0) with hE | ⟨q', hq', a, c, e⟩
         · exact .inl hE
         · exact .inr ⟨q', by simp only [run]; rw [hI, if_neg i1, hI, if_neg i2, hc, if_neg i3, hq'], a, c, e⟩
  | block =>
   simp only [run] at h
   by_cases i1 : pIs ts [123] s = true
   · rw [if_pos i1] at h
     simp only [Option.map_eq_some_iff] at h
     obtain ⟨q, hq, rfl⟩ := h
     rcases sub (S2.must hm (h2.downIs ht i1) ht [123]) hq (TR.stmts [] [] (fun _ => rfl)) with hE | ⟨q', hq', a, c, e⟩
     · exact .inl ((hE.must ht _).up.put ..)
     · exact ((S2.must hm (.inr ⟨a, c⟩) ht [125]).up.put hP 18 0 _ (pLine src' ts' s') _ (fun e0 => e (((Ext.refl q.2).must (ts := ts) [125]).up.e0 e0))).rr (by simp only [run]; rw [hI, if_pos i1, hq']; rfl)
   · rw [if_neg i1] at h
     simp only [Option.some.injEq] at h
     subst h
     exact ((h2.fail ht 20 (by decide) (by decide)).err _ [0] (fail_e 20 (by decide) _)).rr (by simp only [run]; rw [hI, if_neg i1])
  | stmts l l' hx =>
   simp only [run] at h
   by_cases he : s.e ≠ 0
   · rw [if_pos he] at h
     simp only [Option.some.injEq] at h
     subst h
     exact (h2.err _ l' he).rr (by simp only [run]; rw [if_pos (by rw [hl.e]; exact he)])
   · rw [if_neg he] at h
     have he' : ¬ s'.e ≠ 0 := by rw [hl.e]; exact he
     by_cases i1 : pIs ts [125] s = true
     · rw [if_pos i1] at h
       simp only [Option.some.injEq] at h
       subst h
       exact (h2.ok hx).rr (by simp only [run]; rw [if_neg he', hI, if_pos i1])
     · rw [if_neg i1] at h
       simp only [Option.bind_eq_some_iff] at h
       obtain ⟨q, hq, h⟩ := h
       rcases sub h2 hq TR.stmt with hE | ⟨q', hq', a, c, e⟩
       · exact .inl (run_eo ht _ _ _ _ h hE)
       · rcases sub (.inr ⟨a, c⟩) h (TR.stmts (l ++ q.1) (l' ++ q'.1) (fun e0 => by rw [List.map_append, e e0, hx ((run_ext _ _ _ _ hq).e0 e0)])) with hE | ⟨r', hr', a2, c2, e2⟩
         · exact .inl hE
         · exact .inr ⟨r', by simp only [run]; rw [if_neg he', hI, if_neg i1, hq']; exact hr', a2, c2, e2⟩
  | named l l' =>
   rcases hl.calls2 hm ho ht with hc | ⟨hk3, hE⟩
   case inr => exact .inl (named_eo ht h (by unfold pNamed; rw [if_pos hk3]; exact hE))
   simp only [run] at h
   by_cases i1 : pCalls ts s = true
   · rw [if_pos i1] at h
     simp only [Option.map_eq_some_iff] at h
     obtain ⟨q, hq, rfl⟩ := h
     rcases sub h2 hq TR.call with hE | ⟨q', hq', a, c, e⟩
     · exact .inl ((hE.must ht _).put ..)
     · exact ((S2.must hm (.inr ⟨a, c⟩) ht [59]).put hP 13 0 l l' _ (fun e0 => e (((Ext.refl q.2).must (ts := ts) [59]).e0 e0))).rr (by simp only [run]; rw [hc, if_pos i1, hq']; rfl)
   · rw [if_neg i1] at h
     rcases S2.named hm h2 ht with hE | ⟨ho1, hl1⟩
     · refine .inl ?_
       by_cases i2 : pIs ts [91] (pNamed ts s) = true
       · rw [if_pos i2] at h
         simp only [Option.bind_eq_some_iff, Option.map_eq_some_iff] at h
         obtain ⟨q, hq, u, hu, rfl⟩ := h
         exact ((run_eo ht _ _ _ _ hu (((run_eo ht _ _ _ _ hq ((hE.downIs ht i2).must ht _)).must ht _).up.must ht _)).must ht _).put ..
       · rw [if_neg i2] at h
         simp only [Option.map_eq_some_iff] at h
         obtain ⟨q, hq, rfl⟩ := h
         exact ((run_eo ht _ _ _ _ hq (hE.must ht _)).must ht _).put ..
     · by_cases i2 : pIs ts [91] (pNamed ts s) = true
       · rw [if_pos i2] at h
         simp only [Option.bind_eq_some_iff, Option.map_eq_some_iff] at h
         obtain ⟨q, hq, u, hu, rfl⟩ := h
         rcases sub (S2.must hm (S2.downIs (.inr ⟨ho1, hl1⟩) ht i2) ht [91]) hq (TR.chain 0) with hE | ⟨q', hq', a, c, e⟩
         · exact .inl (((run_eo ht _ _ _ _ hu ((hE.must ht _).up.must ht _)).must ht _).put ..)
         · rcases sub (S2.must hm (S2.up (S2.must hm (.inr ⟨a, c⟩) ht [93])) ht [61]) hu (TR.chain 0) with hE | ⟨u', hu', a2, c2, e2⟩
           · exact .inl ((hE.must ht _).put ..)
           · exact ((S2.must hm (.inr ⟨a2, c2⟩) ht [59]).put hP 12 0 l l' _ (l := q.1 ++ u.1) (l' := q'.1 ++ u'.1) (fun e0 => by
               have h5 := ((Ext.refl u.2).must (ts := ts) [59]).e0 e0
               have h6 := ((Ext.refl _).must (ts := ts) [61]).e0 ((run_ext _ _ _ _ hu).e0 h5)
               rw [List.map_append, e2 h5, e (((Ext.refl q.2).must (ts := ts) [93]).up.e0 h6)])).rr (by
                 simp only [run]; rw [hc, if_neg i1, hl1.is hm, if_pos i2, hq']; simp only [Option.bind_some]; rw [hu', hl.name hm]; rfl)
       · rw [if_neg i2] at h
         simp only [Option.map_eq_some_iff] at h
         obtain ⟨q, hq, rfl⟩ := h
         rcases sub (S2.must hm (.inr ⟨ho1, hl1⟩) ht [61]) hq TR.right with hE | ⟨q', hq', a, c, e⟩
         · exact .inl ((hE.must ht _).put ..)
         · exact ((S2.must hm (.inr ⟨a, c⟩) ht [59]).put hP 11 0 l l' _ (fun e0 => e (((Ext.refl q.2).must (ts := ts) [59]).e0 e0))).rr (by
             simp only [run]; rw [hc, if_neg i1, hl1.is hm, if_neg i2, hq', hl.name hm]; rfl)
  | stmt =>
   simp only [run] at h
   have hw := hl.word hm
   by_cases j0 : pWord ts s = [108, 101, 116]
   · rw [if_pos j0] at h
     simp only [Option.map_eq_some_iff] at h
     obtain ⟨q, hq, rfl⟩ := h
     rcases h2.go (ho.goWord ht j0 (by decide)) with hE | ⟨ho1, hl1⟩
     · exact .inl (((run_eo ht _ _ _ _ hq ((hE.named ht).must ht _)).must ht _).put ..)
     · rcases sub (S2.must hm (S2.named hm (.inr ⟨ho1, hl1⟩) ht) ht [61]) hq TR.right with hE | ⟨q', hq', a, c, e⟩
       · exact .inl ((hE.must ht _).put ..)
       · exact ((S2.must hm (.inr ⟨a, c⟩) ht [59]).put hP 10 0 _ (pLine src' ts' s') _ (fun e0 => e (((Ext.refl q.2).must (ts := ts) [59]).e0 e0))).rr (by
           simp only [run]; rw [hw, if_pos j0, hq', hl1.name hm]; rfl)
   · rw [if_neg j0] at h
     by_cases j1 : pWord ts s = [112, 114, 105, 110, 116]
     · rw [if_pos j1] at h
       simp only [Option.map_eq_some_iff] at h
       obtain ⟨q, hq, rfl⟩ := h
       rcases sub (h2.go (ho.goWord ht j1 (by decide))) hq (TR.chain 0) with hE | ⟨q', hq', a, c, e⟩
       · exact .inl ((hE.must ht _).put ..)
       · exact ((S2.must hm (.inr ⟨a, c⟩) ht [59]).put hP 14 0 _ (pLine src' ts' s') _ (fun e0 => e (((Ext.refl q.2).must (ts := ts) [59]).e0 e0))).rr (by
           simp only [run]; rw [hw, if_neg j0, if_pos j1, hq']; rfl)
     · rw [if_neg j1] at h
       by_cases j2 : pWord ts s = [119, 104, 105, 108, 101]
       · rw [if_pos j2] at h
         simp only [Option.bind_eq_some_iff, Option.map_eq_some_iff] at h
         obtain ⟨q, hq, u, hu, rfl⟩ := h
         rcases sub (h2.go (ho.goWord ht j2 (by decide))) hq (TR.chain 0) with hE | ⟨q', hq', a, c, e⟩
         · exact .inl ((run_eo ht _ _ _ _ hu hE).put ..)
         · rcases sub (.inr ⟨a, c⟩) hu TR.block with hE | ⟨u', hu', a2, c2, e2⟩
           · exact .inl (hE.put ..)
           · exact (S2.put hP (.inr ⟨a2, c2⟩) 16 0 _ (pLine src' ts' s') _ (l := q.1 ++ u.1) (l' := q'.1 ++ u'.1) (fun e0 => by
               rw [List.map_append, e2 e0, e ((run_ext _ _ _ _ hu).e0 e0)])).rr (by
                 simp only [run]; rw [hw, if_neg j0, if_neg j1, if_pos j2, hq']; simp only [Option.bind_some]; rw [hu']; rfl)
       · rw [if_neg j2] at h
         by_cases j3 : pWord ts s = [105, 102]
         · rw [if_pos j3] at h
           simp only [Option.bind_eq_some_iff] at h
           obtain ⟨q, hq, u, hu, h⟩ := h
           rcases sub (h2.go (ho.goWord ht j3 (by decide))) hq (TR.chain 0) with hE | ⟨q', hq', a, c, e⟩
           · refine .inl ?_
             have hE2 := run_eo ht _ _ _ _ hu hE
             split at h
             · rename_i ie
               simp only [Option.map_eq_some_iff] at h
               obtain ⟨v, hv, rfl⟩ := h
               exact (run_eo ht _ _ _ _ hv (hE2.goIs ht ie)).put ..
             · simp only [Option.some.injEq] at h
               subst h
               exact hE2.put ..
           · rcases sub (.inr ⟨a, c⟩) hu TR.block with hE | ⟨u', hu', a2, c2, e2⟩
             · refine .inl ?_
               split at h
               · rename_i ie
                 simp only [Option.map_eq_some_iff] at h
                 obtain ⟨v, hv, rfl⟩ := h
                 exact (run_eo ht _ _ _ _ hv (hE.goIs ht ie)).put ..
               · simp only [Option.some.injEq] at h
                 subst h
                 exact hE.put ..
             · by_cases ie : pIs ts [101, 108, 115, 101] u.2 = true
               · rw [if_pos ie] at h
                 simp only [Option.map_eq_some_iff] at h
                 obtain ⟨v, hv, rfl⟩ := h
                 rcases sub (S2.go (.inr ⟨a2, c2⟩) (a2.goIs ht ie)) hv TR.block with hE | ⟨v', hv', a3, c3, e3⟩
                 · exact .inl (hE.put ..)
                 · exact (S2.put hP (.inr ⟨a3, c3⟩) 15 0 _ (pLine src' ts' s') _ (l := q.1 ++ u.1 ++ v.1) (l' := q'.1 ++ u'.1 ++ v'.1) (fun e0 => by
                     have h5 := (pIs_kind ie).1
                     rw [List.map_append, List.map_append, e3 e0, e2 h5, e ((run_ext _ _ _ _ hu).e0 h5)])).rr (by
                       simp only [run]; rw [hw, if_neg j0, if_neg j1, if_neg j2, if_pos j3, hq']; simp only [Option.bind_some]; rw [hu']; simp only [Option.bind_some]; rw [c2.is hm, if_pos ie, hv']; rfl)
               · rw [if_neg ie] at h
                 simp only [Option.some.injEq] at h
                 subst h
                 exact (S2.put hP (.inr ⟨a2, c2⟩) 15 0 _ (pLine src' ts' s') _ (l := q.1 ++ u.1) (l' := q'.1 ++ u'.1) (fun e0 => by
                     rw [List.map_append, e2 e0, e ((run_ext _ _ _ _ hu).e0 e0)])).rr (by
                       simp only [run]; rw [hw, if_neg j0, if_neg j1, if_neg j2, if_pos j3, hq']; simp only [Option.bind_some]; rw [hu']; simp only [Option.bind_some]; rw [c2.is hm, if_neg ie])
         · rw [if_neg j3] at h
           by_cases j4 : pWord ts s = [114, 101, 116, 117, 114, 110]
           · rw [if_pos j4] at h
             rcases h2.go (ho.goWord ht j4 (by decide)) with hE | ⟨ho1, hl1⟩
             · refine .inl ?_
               split at h
               · simp only [Option.some.injEq] at h
                 subst h
                 exact (hE.must ht _).put ..
               · simp only [Option.map_eq_some_iff] at h
                 obtain ⟨q, hq, rfl⟩ := h
                 exact ((run_eo ht _ _ _ _ hq hE).must ht _).put ..
             · by_cases ie : pIs ts [59] (pGo s) = true
               · rw [if_pos ie] at h
                 simp only [Option.some.injEq] at h
                 subst h
                 exact ((S2.must hm (.inr ⟨ho1, hl1⟩) ht [59]).put hP 17 0 _ (pLine src' ts' s') [] (l' := []) (fun _ => rfl)).rr (by
                   simp only [run]; rw [hw, if_neg j0, if_neg j1, if_neg j2, if_neg j3, if_pos j4, hl1.is hm, if_pos ie])
               · rw [if_neg ie] at h
                 simp only [Option.map_eq_some_iff] at h
                 obtain ⟨q, hq, rfl⟩ := h
                 rcases sub (.inr ⟨ho1, hl1⟩) hq (TR.chain 0) with hE | ⟨q', hq', a, c, e⟩
                 · exact .inl ((hE.must ht _).put ..)
                 · exact ((S2.must hm (.inr ⟨a, c⟩) ht [59]).put hP 17 0 _ (pLine src' ts' s') _ (fun e0 => e (((Ext.refl q.2).must (ts := ts) [59]).e0 e0))).rr (by
                     simp only [run]; rw [hw, if_neg j0, if_neg j1, if_neg j2, if_neg j3, if_pos j4, hl1.is hm, if_neg ie, hq']; rfl)
           · rw [if_neg j4] at h
             rcases sub h2 h (TR.named (pLine src ts s) (pLine src' ts' s')) with hE | ⟨q', hq', a, c, e⟩
             · exact .inl hE
             · exact .inr ⟨q', by simp only [run]; rw [hw, if_neg j0, if_neg j1, if_neg j2, if_neg j3, if_neg j4, hq'], a, c, e⟩
end
def LeO {α : Type} (a b : Option α) : Prop := ∀ r, a = some r → b = some r
theorem LeO.refl {α : Type} (a : Option α) : LeO a a := fun _ h => h
theorem LeO.map {α β : Type} {a b : Option α} (h : LeO a b) (f : α → β) : LeO (a.map f) (b.map f) := fun r hr => by
 rw [Option.map_eq_some_iff] at hr ⊢
 obtain ⟨q, hq, e⟩ := hr
 exact ⟨q, h q hq, e⟩
theorem LeO.bind {α β : Type} {a b : Option α} {f g : α → Option β} (h : LeO a b) (hf : ∀ q, LeO (f q) (g q)) : LeO (a.bind f) (b.bind g) := fun r hr => by
 rw [Option.bind_eq_some_iff] at hr ⊢
 obtain ⟨q, hq, e⟩ := hr
 exact ⟨q, h q hq, hf q r e⟩
theorem LeO.ite {α : Type} {c : Prop} [Decidable c] {a b a' b' : Option α} (h : LeO a a') (g : LeO b b') : LeO (if c then a else b) (if c then a' else b') := by
 split
 · exact h
 · exact g
section
variable {src : List UInt8} {ts : List Tok}
theorem run_le {n m : Nat} (ih : ∀ k s, LeO (run src ts n k s) (run src ts m k s)) (k : Task) (s : PS) : LeO (run src ts (n + 1) k s) (run src ts (m + 1) k s) := by
 cases k <;> simp only [run] <;>
  (repeat (first
    | exact ih _ _
    | exact LeO.refl _
    | apply LeO.ite
    | apply LeO.map
    | (apply LeO.bind)
    | intro _))
theorem run_step : ∀ (n : Nat) (k : Task) (s : PS), LeO (run src ts n k s) (run src ts (n + 1) k s)
 | 0, _, _ => fun r h => by simp [run] at h
 | n + 1, k, s => run_le (run_step n) k s
theorem run_mono {n m : Nat} (h : n ≤ m) (k : Task) (s : PS) : LeO (run src ts n k s) (run src ts m k s) := by
 induction h with
 | refl => exact LeO.refl _
 | step _ ih => exact fun r hr => run_step _ _ _ r (ih r hr)
end
section
variable {src : List UInt8} {ts : List Tok} {s t : PS}
theorem params_le : ∀ {n m : Nat}, n ≤ m → ∀ (acc : List (List UInt8 × Nat)) (s : PS), LeO (runParams ts n acc s) (runParams ts m acc s)
 | 0, _, _, _, _ => fun r h => by simp [runParams] at h
 | n + 1, 0, h, _, _ => by omega
 | n + 1, m + 1, h, acc, s => by
  simp only [runParams]
  exact LeO.ite (params_le (by omega) _ _) (LeO.refl _)
theorem func_le {n m : Nat} (h : n ≤ m) (s : PS) : LeO (runFunc src ts n s) (runFunc src ts m s) := by
 simp only [runFunc]
 exact LeO.bind (LeO.ite (params_le h _ _) (LeO.refl _)) (fun p => LeO.map (run_mono h _ _) _)
theorem fns_le : ∀ {n m : Nat}, n ≤ m → ∀ (acc : List FuncM) (s : PS), LeO (runFns src ts n acc s) (runFns src ts m acc s)
 | 0, _, _, _, _ => fun r h => by simp [runFns] at h
 | n + 1, 0, h, _, _ => by omega
 | n + 1, m + 1, h, acc, s => by
  simp only [runFns]
  exact LeO.ite (LeO.refl _) (LeO.ite (LeO.refl _) (LeO.bind (func_le (by omega) _) (fun r => fns_le (by omega) _ _)))
variable (src ts) in
def RunsF (s : PS) (r : FuncM × PS) : Prop := ∃ n, runFunc src ts n s = some r
variable (src ts) in
def RunsL (acc : List FuncM) (s : PS) (r : List FuncM × PS) : Prop := ∃ n, runFns src ts n acc s = some r
theorem l_more {acc : List FuncM} {f : FuncM × PS} {z : List FuncM × PS} (he : s.e = 0) (h : pKind ts 0 s = false) (h1 : RunsF src ts s f) (h2 : RunsL src ts (acc ++ [f.1]) f.2 z) : RunsL src ts acc s z := by
 obtain ⟨n, a⟩ := h1
 obtain ⟨m, c⟩ := h2
 have a := func_le (Nat.le_max_left n m) _ _ a
 have c := fns_le (Nat.le_max_right n m) _ _ _ c
 exact ⟨max n m + 1, by simp only [runFns]; rw [if_neg (by simp [he]), if_neg (by rw [h]; decide), a]; exact c⟩
def s00 : PS := ⟨0, [], 0, 0, 0⟩
theorem parse_of {l : List UInt8} (hl : lexM l = .good ts) {z : List FuncM × PS} (h : RunsL l ts [] s00 z) :
  parseM l = some (if z.2.e ≠ 0 then .bad z.2.place z.2.e else if 300 < z.2.nodes.length ∨ 6 < z.1.length ∨ z.1.any (fun f => decide (3 < f.params.length)) = true then .bad 0 4 else .good z.2.nodes z.1) := by
 obtain ⟨r, hr⟩ := parse_some l
 have h2 := hr
 unfold parseM at h2
 rw [hl] at h2
 simp only [parseT, Option.map_eq_some_iff] at h2
 obtain ⟨z', hz, e⟩ := h2
 obtain ⟨n, hn⟩ := h
 have a := fns_le (Nat.le_max_left n (parseFuel ts)) _ _ _ hn
 have c := fns_le (Nat.le_max_right n (parseFuel ts)) _ _ _ hz
 have e2 : z = z' := by
  have c : runFns l ts (max n (parseFuel ts)) [] s00 = some z' := c
  rw [a] at c; exact Option.some.inj c
 rw [hr, e2, ← e]
end
structure FR (b : Nat) (f f' : FuncM) : Prop where
 name : f'.name = f.name
 params : f'.params = f.params
 ret : f'.ret = f.ret
 body : f'.body = f.body + b
section
variable {src src' : List UInt8} {ts ts' : List Tok} {d m b : Nat} {P : List NodeM}
theorem params_eo (ht : ToksOk ts) : ∀ (n : Nat) (acc : List (List UInt8 × Nat)) (s : PS) (p : List (List UInt8 × Nat) × PS), runParams ts n acc s = some p → EO ts m s → EO ts m p.2
 | 0, _, _, _, h, _ => by simp [runParams] at h
 | n + 1, acc, s, p, h, hE => by
  simp only [runParams] at h
  have h2 := (hE.named ht).typed ht
  by_cases i1 : pIs ts [44] (pTyped ts (pNamed ts s)) = true
  · rw [if_pos i1] at h
    exact params_eo ht n _ _ _ h (h2.goIs ht i1)
  · rw [if_neg i1] at h
    simp only [Option.some.injEq] at h
    subst h
    exact h2
theorem params_rel (hm : Mt ts ts' d m) (ht : ToksOk ts) : ∀ (n : Nat) (acc : List (List UInt8 × Nat)) (s s' : PS) (p : List (List UInt8 × Nat) × PS), runParams ts n acc s = some p → S2 ts ts' d m b P s s' →
  EO ts m p.2 ∨ ∃ p', runParams ts' n acc s' = some p' ∧ PSOk ts p.2 ∧ Rl ts ts' d m b P p.2 p'.2 ∧ p'.1 = p.1
 | 0, _, _, _, _, h, _ => by simp [runParams] at h
 | n + 1, acc, s, s', p, h, hs => by
  have h' := h
  simp only [runParams] at h
  rcases hs with hE | ⟨ho, hl⟩
  · exact .inl (params_eo ht _ _ _ _ h' hE)
  · rcases S2.named hm (.inr ⟨ho, hl⟩) ht with hE | ⟨ho1, hl1⟩
    · refine .inl ?_
      have h2 := hE.typed ht
      by_cases i1 : pIs ts [44] (pTyped ts (pNamed ts s)) = true
      · rw [if_pos i1] at h
        exact params_eo ht _ _ _ _ h (h2.goIs ht i1)
      · rw [if_neg i1] at h
        simp only [Option.some.injEq] at h
        subst h
        exact h2
    · have hacc : acc ++ [(pName ts' s', pType ts' (pNamed ts' s'))] = acc ++ [(pName ts s, pType ts (pNamed ts s))] := by rw [hl.name hm, hl1.type hm]
      have h2 := S2.typed hm (.inr ⟨ho1, hl1⟩) ht
      by_cases i1 : pIs ts [44] (pTyped ts (pNamed ts s)) = true
      · rw [if_pos i1] at h
        rcases h2 with hE | ⟨ho2, hl2⟩
        · exact .inl (params_eo ht _ _ _ _ h (hE.goIs ht i1))
        · rcases params_rel hm ht n _ _ _ _ h (hl2.go (ho2.goIs ht i1)) with hE | ⟨p', a, c, e, f⟩
          · exact .inl hE
          · exact .inr ⟨p', by simp only [runParams]; rw [hl2.is hm, if_pos i1, hacc, a], c, e, f⟩
      · rw [if_neg i1] at h
        simp only [Option.some.injEq] at h
        subst h
        rcases h2 with hE | ⟨ho2, hl2⟩
        · exact .inl hE
        · exact .inr ⟨(acc ++ [(pName ts s, pType ts (pNamed ts s))], pTyped ts' (pNamed ts' s')), by simp only [runParams]; rw [hl2.is hm, if_neg i1, hacc], ho2, hl2, rfl⟩
theorem head_rel2 (hm : Mt ts ts' d m) (ht : ToksOk ts) {n : Nat} {s s' : PS} {p : List (List UInt8 × Nat) × PS} (hs : S2 ts ts' d m b P s s')
   (hp : (if pIs ts [41] (pMust ts [40] (pNamed ts (pMust ts [102, 110] s))) = false ∧ (pMust ts [40] (pNamed ts (pMust ts [102, 110] s))).e = 0 then runParams ts n [] (pMust ts [40] (pNamed ts (pMust ts [102, 110] s))) else some ([], pMust ts [40] (pNamed ts (pMust ts [102, 110] s)))) = some p) :
   EO ts m (pMust ts [41] p.2) ∨ ∃ p', (if pIs ts' [41] (pMust ts' [40] (pNamed ts' (pMust ts' [102, 110] s'))) = false ∧ (pMust ts' [40] (pNamed ts' (pMust ts' [102, 110] s'))).e = 0 then runParams ts' n [] (pMust ts' [40] (pNamed ts' (pMust ts' [102, 110] s'))) else some ([], pMust ts' [40] (pNamed ts' (pMust ts' [102, 110] s')))) = some p' ∧
     pName ts' (pMust ts' [102, 110] s') = pName ts (pMust ts [102, 110] s) ∧ p'.1 = p.1 ∧ PSOk ts (pMust ts [41] p.2) ∧ Rl ts ts' d m b P (pMust ts [41] p.2) (pMust ts' [41] p'.2) := by
 have peo : EO ts m (pMust ts [40] (pNamed ts (pMust ts [102, 110] s))) → EO ts m (pMust ts [41] p.2) := fun hE => by
   refine EO.must ?_ ht _
   split at hp
   · exact params_eo ht _ _ _ _ hp hE
   · simp only [Option.some.injEq] at hp
     subst hp
     exact hE
 rcases S2.must hm hs ht [102, 110] with hE | ⟨ho1, hl1⟩
 · exact .inl (peo ((hE.named ht).must ht _))
 · rcases S2.must hm (S2.named hm (.inr ⟨ho1, hl1⟩) ht) ht [40] with hE | ⟨ho3, hl3⟩
   · exact .inl (peo hE)
   · have hfin : ∀ p', p'.1 = p.1 → S2 ts ts' d m b P p.2 p'.2 → (if pIs ts' [41] (pMust ts' [40] (pNamed ts' (pMust ts' [102, 110] s'))) = false ∧ (pMust ts' [40] (pNamed ts' (pMust ts' [102, 110] s'))).e = 0 then runParams ts' n [] (pMust ts' [40] (pNamed ts' (pMust ts' [102, 110] s'))) else some ([], pMust ts' [40] (pNamed ts' (pMust ts' [102, 110] s')))) = some p' →
         EO ts m (pMust ts [41] p.2) ∨ ∃ p', (if pIs ts' [41] (pMust ts' [40] (pNamed ts' (pMust ts' [102, 110] s'))) = false ∧ (pMust ts' [40] (pNamed ts' (pMust ts' [102, 110] s'))).e = 0 then runParams ts' n [] (pMust ts' [40] (pNamed ts' (pMust ts' [102, 110] s'))) else some ([], pMust ts' [40] (pNamed ts' (pMust ts' [102, 110] s')))) = some p' ∧
          pName ts' (pMust ts' [102, 110] s') = pName ts (pMust ts [102, 110] s) ∧ p'.1 = p.1 ∧ PSOk ts (pMust ts [41] p.2) ∧ Rl ts ts' d m b P (pMust ts [41] p.2) (pMust ts' [41] p'.2) := fun p' h1 h2 h3 => by
       rcases S2.must hm h2 ht [41] with hE | ⟨a, c⟩
       · exact .inl hE
       · exact .inr ⟨p', h3, hl1.name hm, h1, a, c⟩
     by_cases hc : pIs ts [41] (pMust ts [40] (pNamed ts (pMust ts [102, 110] s))) = false ∧ (pMust ts [40] (pNamed ts (pMust ts [102, 110] s))).e = 0
     · rw [if_pos hc] at hp
       rcases params_rel hm ht n [] _ _ p hp (.inr ⟨ho3, hl3⟩) with hE | ⟨p', a, c, e, f⟩
       · exact .inl (hE.must ht _)
       · exact hfin p' f (.inr ⟨c, e⟩) (by rw [hl3.is hm, hl3.e, if_pos hc, a])
     · rw [if_neg hc] at hp
       simp only [Option.some.injEq] at hp
       subst hp
       exact hfin ([], pMust ts' [40] (pNamed ts' (pMust ts' [102, 110] s'))) rfl (.inr ⟨ho3, hl3⟩) (by rw [hl3.is hm, hl3.e, if_neg hc])
theorem type_rel (hm : Mt ts ts' d m) (ht : ToksOk ts) {s s' : PS} (ho : PSOk ts s) (hl : Rl ts ts' d m b P s s') :
   (if pIs ts' [123] s' = true then 0 else pType ts' s') = (if pIs ts [123] s = true then 0 else pType ts s) ∧ S2 ts ts' d m b P (if pIs ts [123] s = true then s else pTyped ts s) (if pIs ts' [123] s' = true then s' else pTyped ts' s') := by
 rw [hl.is hm, hl.type hm]
 refine ⟨rfl, ?_⟩
 by_cases hp : pIs ts [123] s = true
 · rw [if_pos hp, if_pos hp]; exact .inr ⟨ho, hl⟩
 · rw [if_neg hp, if_neg hp]; exact S2.typed hm (.inr ⟨ho, hl⟩) ht
theorem type_eo (ht : ToksOk ts) {s : PS} (hE : EO ts m s) : EO ts m (if pIs ts [123] s = true then s else pTyped ts s) := by
 split
 · exact hE
 · exact hE.typed ht
theorem func_eo (ht : ToksOk ts) {n : Nat} {s : PS} {fr : FuncM × PS} (h : runFunc src ts n s = some fr) (hE : EO ts m s) : EO ts m fr.2 := by
 simp only [runFunc, Option.bind_eq_some_iff, Option.map_eq_some_iff] at h
 obtain ⟨p, hp, q, hq, rfl⟩ := h
 refine run_eo ht _ _ _ _ hq (type_eo ht (EO.must ?_ ht _))
 have h3 := ((hE.must ht [102, 110]).named ht).must ht [40]
 split at hp
 · exact params_eo ht _ _ _ _ hp h3
 · simp only [Option.some.injEq] at hp
   subst hp
   exact h3
theorem func_rel (hm : Mt ts ts' d m) (hP : P.length = b) (ht : ToksOk ts) {n : Nat} {s s' : PS} {fr : FuncM × PS} (h : runFunc src ts n s = some fr) (hs : S2 ts ts' d m b P s s') :
   EO ts m fr.2 ∨ ∃ fr', runFunc src' ts' n s' = some fr' ∧ PSOk ts fr.2 ∧ Rl ts ts' d m b P fr.2 fr'.2 ∧ (fr.2.e = 0 → FR b fr.1 fr'.1) := by
 rcases hs with hE | ⟨ho, hl⟩
 · exact .inl (func_eo ht h hE)
 simp only [runFunc, Option.bind_eq_some_iff, Option.map_eq_some_iff] at h
 obtain ⟨p, hp, q, hq, rfl⟩ := h
 rcases head_rel2 hm ht (.inr ⟨ho, hl⟩) hp with hE | ⟨p', hp', hn, h1, ho4, hl4⟩
 · exact .inl (run_eo ht _ _ _ _ hq (type_eo ht hE))
 · obtain ⟨hty, hs5⟩ := type_rel hm ht ho4 hl4
   rcases hs5 with hE | ⟨ho5, hl5⟩
   · exact .inl (run_eo ht _ _ _ _ hq hE)
   · rcases run_rel (src' := src') hm hP ht n _ _ _ hq .block _ TR.block ho5 hl5 with hE | ⟨q', hq', a, c, e⟩
     · exact .inl hE
     · refine .inr ⟨(⟨pName ts' (pMust ts' [102, 110] s'), pLine src' ts' s', p'.1, (if pIs ts' [123] (pMust ts' [41] p'.2) = true then 0 else pType ts' (pMust ts' [41] p'.2)), q'.1.headD 0⟩, q'.2), ?_, a, c, fun e0 => ⟨hn, h1, hty, head_rel (run_one _ _ _ _ hq trivial) (e e0)⟩⟩
       simp only [runFunc]
       rw [hp']
       simp only [Option.bind_some]
       rw [hq']
       rfl
theorem fns_eo (ht : ToksOk ts) : ∀ (n : Nat) (acc : List FuncM) (s : PS) (r : List FuncM × PS), runFns src ts n acc s = some r → EO ts m s → EO ts m r.2 := by
 intro n
 induction n with
 | zero => intro acc s r h; simp [runFns] at h
 | succ n ih =>
  intro acc s r h hE
  simp only [runFns] at h
  split at h
  · simp only [Option.some.injEq] at h; subst h; exact hE
  · split at h
    · simp only [Option.some.injEq] at h; subst h; exact hE
    · simp only [Option.bind_eq_some_iff] at h
      obtain ⟨f, hf, h⟩ := h
      exact ih _ _ _ h (func_eo ht hf hE)
theorem fns_all (hm : Mt ts ts' d ts.length) (hP : P.length = b) (ht : ToksOk ts) : ∀ (n : Nat) (acc acc' : List FuncM) (s s' : PS) (r : List FuncM × PS), runFns src ts n acc s = some r → r.2.e = 0 → PSOk ts s → Rl ts ts' d ts.length b P s s' →
  ∃ fs gs s2, r.1 = acc ++ fs ∧ runFns src' ts' n acc' s' = some (acc' ++ gs, s2) ∧ Rl ts ts' d ts.length b P r.2 s2 ∧ fs.length = gs.length ∧ ∀ (i : Nat) (f g : FuncM), fs[i]? = some f → gs[i]? = some g → FR b f g
 | 0, _, _, _, _, _, h, _, _, _ => by simp [runFns] at h
 | n + 1, acc, acc', s, s', r, h, hr, ho, hl => by
  simp only [runFns] at h
  by_cases he : s.e ≠ 0
  · rw [if_pos he] at h
    simp only [Option.some.injEq] at h
    subst h
    exact absurd hr he
  · rw [if_neg he] at h
    by_cases hk : pKind ts 0 s = true
    · rw [if_pos hk] at h
      simp only [Option.some.injEq] at h
      subst h
      exact ⟨[], [], s', by simp, by simp only [runFns]; rw [if_neg (by rw [hl.e]; exact he), hl.kind hm, if_pos hk]; simp, hl, rfl, fun i f g h => by simp at h⟩
    · rw [if_neg hk] at h
      simp only [Option.bind_eq_some_iff] at h
      obtain ⟨f, hf, h⟩ := h
      have hno : ∀ {t : PS}, EO ts ts.length t → t.e = 0 → False := fun hE h0 => by
        rcases hE.esc with ⟨_, hi⟩ | ⟨h1, _⟩
        · have := hE.ok.room; omega
        · exact h1 h0
      rcases func_rel (src' := src') hm hP ht hf (.inr ⟨ho, hl⟩) with hE | ⟨f', hf', a, c, hfr⟩
      · exact (hno (fns_eo ht _ _ _ _ h hE) hr).elim
      · obtain ⟨fs, gs, s2, e1, e2, e3, e4, e5⟩ := fns_all hm hP ht n _ (acc' ++ [f'.1]) _ f'.2 _ h hr a c
        have hf0 : f.2.e = 0 := (fns_ext _ _ _ _ h).e0 hr
        refine ⟨f.1 :: fs, f'.1 :: gs, s2, by rw [e1]; simp, ?_, e3, by simp [e4], fun i x y hx hy => ?_⟩
        · simp only [runFns]
          rw [if_neg (by rw [hl.e]; exact he), hl.kind hm, if_neg hk, hf']
          simp only [Option.bind_some]
          rw [e2]; simp
        · cases i with
          | zero => simp at hx hy; subst hx; subst hy; exact hfr hf0
          | succ i => exact e5 i x y (by simpa using hx) (by simpa using hy)
end
def Tok.from (t : Tok) : Nat := if t.kind = 2 then t.place + 1 else t.place
def EndN (r : List UInt8) : Prop := r = [] ∨ ∃ r', r = 10 :: r'
theorem runN_inside (q : Int → Bool) (x r : List UInt8) (h : runN q x < x.length) : runN q (x ++ r) = runN q x := by
 induction x with
 | nil => simp at h
 | cons a x ih =>
  unfold runN at ih h ⊢
  rw [List.cons_append, List.takeWhile_cons]
  rw [List.takeWhile_cons] at h ⊢
  by_cases ha : q a.toNat = true
  · rw [if_pos ha] at h ⊢
    rw [if_pos ha, List.length_cons, List.length_cons]
    rw [List.length_cons, List.length_cons] at h
    rw [ih (by omega)]
  · rw [if_neg ha, if_neg ha]
theorem runN_whole (q : Int → Bool) (x : List UInt8) (h : ¬ runN q x < x.length) : ∀ b ∈ x, q b.toNat = true := by
 induction x with
 | nil => intro b hb; cases hb
 | cons a x ih =>
  unfold runN at ih h
  rw [List.takeWhile_cons] at h
  by_cases ha : q a.toNat = true
  · rw [if_pos ha, List.length_cons, List.length_cons] at h
    intro b hb
    rcases List.mem_cons.1 hb with rfl | hb
    · exact ha
    · exact ih (by omega) b hb
  · rw [if_neg ha] at h; simp at h
theorem runN_end (q : Int → Bool) (x r : List UInt8) (hq : q ((10 : UInt8).toNat : Int) = false) (hr : EndN r) : runN q (x ++ r) = runN q x := by
 by_cases h : runN q x < x.length
 · exact runN_inside q x r h
 · have ha := runN_whole q x h
   rw [runN_append q x r ha, run_all q x ha]
   rcases hr with rfl | ⟨r', rfl⟩
   · rfl
   · rw [runN_zero q 10 r' hq]; rfl
theorem byteAt_append (x r : List UInt8) {k : Nat} (h : k < x.length) : byteAt (x ++ r) k = byteAt x k := by
 unfold byteAt
 rw [List.getD, List.getD, List.getElem?_append_left h]
theorem two_newline (c : UInt8) : twoB [c, 10] = false := by
 unfold twoB isIn
 apply decide_eq_false
 intro h
 simp [twosS] at h
theorem firstM_app {x r : List UInt8} {k o m n : Nat} (h0 : 0 < x.length) (h : firstM x = .ok k o m n) (hr : EndN r) : firstM (x ++ r) = .ok k o m n := by
 unfold firstM at h ⊢
 rw [byteAt_append x r h0]
 split at h
 · rename_i hd
   rw [if_pos hd]
   unfold numberM at h ⊢
   rw [runN_end digitI x r (by decide) hr, List.take_append_of_le_length (runN_le digitI x)]
   exact h
 · rename_i hd
   rw [if_neg hd]
   split at h
   · rename_i hl
     rw [if_pos hl]
     unfold nameM at h ⊢
     rw [runN_end withinI x r (by decide) hr, List.take_append_of_le_length (runN_le withinI x)]
     exact h
   · rename_i hl
     rw [if_neg hl]
     split at h
     · rename_i ht
       rw [if_pos ht]
       unfold textM at h ⊢
       rw [List.drop_append_of_le_length (by omega)]
       by_cases hc : x.length ≤ runN plainI (x.drop 1) + 1 ∨ byteAt x (runN plainI (x.drop 1) + 1) ≠ 34
       · rw [if_pos hc] at h; cases h
       · rw [if_neg hc] at h
         have h1 : ¬ x.length ≤ runN plainI (x.drop 1) + 1 := fun e => hc (.inl e)
         have h2 : ¬ byteAt x (runN plainI (x.drop 1) + 1) ≠ 34 := fun e => hc (.inr e)
         rw [runN_inside plainI (x.drop 1) r (by rw [List.length_drop]; omega), byteAt_append x r (by omega), if_neg]
         · exact h
         · rintro (e | e)
           · rw [List.length_append] at e; omega
           · exact h2 e
     · rename_i ht
       rw [if_neg ht]
       unfold signM at h ⊢
       rw [byteAt_append x r h0]
       by_cases h2 : 1 < x.length ∧ twoB (x.take 2) = true
       · rw [if_pos h2] at h
         rw [List.take_append_of_le_length (by omega), List.length_append, if_pos ⟨by omega, h2.2⟩]
         exact h
       · rw [if_neg h2] at h
         by_cases h1 : oneB (byteAt x 0) = true
         · rw [if_pos h1] at h ⊢
           rw [if_neg]
           · exact h
           · rintro ⟨e1, e2⟩
             by_cases hx2 : 1 < x.length
             · rw [List.take_append_of_le_length (by omega)] at e2
               exact h2 ⟨hx2, e2⟩
             have hx1 : x.length = 1 := by omega
             rcases hr with rfl | ⟨r', rfl⟩
             · rw [List.append_nil] at e1; omega
             · match x, hx1 with
               | [c], _ =>
                rw [show ([c] ++ 10 :: r').take 2 = [c, 10] from rfl, two_newline] at e2
                cases e2
         · rw [if_neg h1] at h; cases h
theorem remark_iff (l : List UInt8) : remarkB l = true ↔ [47, 47] <+: l := by
 unfold remarkB Lib.hasPrefix
 exact List.isPrefixOf_iff_prefix
theorem remark_app {x r : List UInt8} (h0 : 0 < x.length) (h : remarkB x = false) (hr : EndN r) : remarkB (x ++ r) = false := by
 rcases hr with rfl | ⟨r', rfl⟩
 · rwa [List.append_nil]
 · unfold remarkB Lib.hasPrefix at h ⊢
   match x, h0 with
   | [a], _ => simp [List.isPrefixOf]
   | a :: b :: y, _ => simpa [List.isPrefixOf] using h
theorem blank_nl (r : List UInt8) : blankI (byteAt (10 :: r) 0) = true := by rw [byteAt_zero]; decide
theorem lex_join (b : List UInt8) : ∀ (n : Nat) (l : List UInt8) (p : Nat) (K : List Tok), l.length ≤ n → lexFrom l p = .good K → K ≠ [] ∧ lexFrom (l ++ 10 :: b) p = (lexFrom b (p + l.length + 1)).pre K.dropLast := by
 intro n
 induction n with
 | zero =>
  intro l p K h hl
  have : l = [] := List.eq_nil_of_length_eq_zero (by omega)
  subst this
  rw [lex_nil] at hl
  injection hl with hl
  subst hl
  refine ⟨by simp, ?_⟩
  rw [List.nil_append, lex_blank (by simp) (blank_nl b), show List.dropLast [(⟨0, [], p⟩ : Tok)] = [] from rfl, pre_nil]
  rfl
 | succ n ih =>
  intro l p K h
  refine lex_step (Mo := fun l p => l.length ≤ n + 1 → lexFrom l p = .good K → K ≠ [] ∧ lexFrom (l ++ 10 :: b) p = (lexFrom b (p + l.length + 1)).pre K.dropLast) l p ?_ ?_ ?_ ?_ ?_ h
  · intro _ _ hl
    rw [lex_nil] at hl
    injection hl with hl
    subst hl
    refine ⟨by simp, ?_⟩
    rw [List.nil_append, lex_blank (by simp) (blank_nl b), show List.dropLast [(⟨0, [], _⟩ : Tok)] = [] from rfl, pre_nil]
    rfl
  · intro h0 hb h hl
    rw [lex_blank h0 hb] at hl
    obtain ⟨a1, a2⟩ := ih _ _ K (by rw [List.length_drop]; omega) hl
    refine ⟨a1, ?_⟩
    rw [lex_blank (by rw [List.length_append]; omega) (by rw [byteAt_append _ _ h0]; exact hb), List.drop_append_of_le_length (by omega), a2, List.length_drop]
    congr 2
    omega
  · intro h0 hb hr h1 h hl
    rw [lex_remark h0 hb hr] at hl
    obtain ⟨a1, a2⟩ := ih _ _ K (by rw [List.length_drop]; omega) hl
    refine ⟨a1, ?_⟩
    have hle := runN_le lineI l
    have hrn : runN lineI (l ++ 10 :: b) = runN lineI l := runN_end lineI l _ (by decide) (.inr ⟨_, rfl⟩)
    have hr2 : remarkB (l ++ 10 :: b) = true := (remark_iff _).2 (((remark_iff _).1 hr).trans (List.prefix_append _ _))
    rw [lex_remark (by rw [List.length_append]; omega) (by rw [byteAt_append _ _ h0]; exact hb) hr2, hrn, List.drop_append_of_le_length hle, a2, List.length_drop]
    congr 2
    omega
  · intro e h0 hb hr hf _ hl
    rw [lex_err h0 hb hr hf] at hl; cases hl
  · intro k o m n' h0 hb hr hf h hl
    obtain ⟨hn1, hn2, hom⟩ := firstM_ok h0 hf
    rw [lex_ok h0 hb hr hf] at hl
    cases hx : lexFrom (l.drop n') (p + n') with
    | bad i e' => rw [hx] at hl; cases hl
    | good J =>
     rw [hx] at hl
     injection hl with hl
     subst hl
     obtain ⟨a1, a2⟩ := ih _ _ J (by rw [List.length_drop]; omega) hx
     refine ⟨by simp, ?_⟩
     have hend : EndN (10 :: b) := .inr ⟨_, rfl⟩
     rw [lex_ok (by rw [List.length_append]; omega) (by rw [byteAt_append _ _ h0]; exact hb) (remark_app h0 hr hend) (firstM_app h0 hf hend), List.drop_append_of_le_length hn2, a2,
      List.singleton_append, List.dropLast_cons_of_ne_nil a1, List.drop_append_of_le_length (by omega), List.take_append_of_le_length (by rw [List.length_drop]; omega), pre_pre, List.length_drop, List.singleton_append]
     congr 2
     omega
structure Rw (d m b : Nat) (P : List NodeM) (s s' : PS) : Prop where
 e : s.e = 0
 e' : s'.e = 0
 deep : s'.deep = s.deep
 i : s'.i = s.i + d
 nodes : s'.nodes.map zlN = P ++ s.nodes.map (shN b)
 le : s.i ≤ m
section
variable {src src' : List UInt8} {ts ts' : List Tok} {d m b : Nat} {P : List NodeM}
theorem Rw.rl {s s' : PS} (h : Rw d m b P s s') (hi : s.i < m) : Rl ts ts' d m b P s s' := ⟨by rw [h.e, h.e'], h.deep, fun _ => h.i, fun _ => h.nodes, fun he => absurd h.e he, fun _ => hi⟩
theorem end_tok {s : PS} (hl : m + 1 = ts.length) (hz : (ts.getD m tok0).kind = 0) (hE : EO ts m s) (h0 : s.e = 0) : (pTok ts s).kind = 0 := by
 rcases hE.esc with ⟨_, hi⟩ | ⟨h1, _⟩
 · have := hE.ok.room
   have e : s.i = m := by omega
   unfold pTok
   rw [e]; exact hz
 · exact absurd h0 h1
theorem block_no (hl : m + 1 = ts.length) (hz : (ts.getD m tok0).kind = 0) {n : Nat} {s : PS} {q : List Nat × PS} (hE : EO ts m s) (h : run src ts n .block s = some q) : q.2.e ≠ 0 := by
 by_cases h0 : s.e = 0
 · have hk := end_tok hl hz hE h0
   cases n with
   | zero => simp [run] at h
   | succ n =>
    simp only [run] at h
    rw [if_neg (fun e => (pIs_kind e).2.1 hk)] at h
    simp only [Option.some.injEq] at h
    subst h
    exact fail_e 20 (by decide) _
 · rw [((run_ext _ _ _ _ h).err h0).1]; exact h0
theorem must_ok {x : List UInt8} {s : PS} (h : (pMust ts x s).e = 0) : pIs ts x s = true := by
 by_cases hp : pIs ts x s = true
 · exact hp
 · unfold pMust at h
   rw [if_neg hp] at h
   exact absurd h (fail_e 20 (by decide) _)
theorem func_w (hm : Mt ts ts' d m) (hP : P.length = b) (ht : ToksOk ts) (hl : m + 1 = ts.length) (hz : (ts.getD m tok0).kind = 0) {n : Nat} {s s' : PS} {fr : FuncM × PS} (h : runFunc src ts n s = some fr) (h0 : fr.2.e = 0) (ho : PSOk ts s) (hs : Rl ts ts' d m b P s s') :
   ∃ fr', runFunc src' ts' n s' = some fr' ∧ PSOk ts fr.2 ∧ Rw d m b P fr.2 fr'.2 ∧ FR b fr.1 fr'.1 := by
 simp only [runFunc, Option.bind_eq_some_iff, Option.map_eq_some_iff] at h
 obtain ⟨p, hp, q, hq, rfl⟩ := h
 have h0 : q.2.e = 0 := h0
 rcases head_rel2 hm ht (.inr ⟨ho, hs⟩) hp with hE | ⟨p', hp', hn, h1, ho4, hl4⟩
 · exact absurd h0 (block_no hl hz (type_eo ht hE) hq)
 · obtain ⟨hty, hs5⟩ := type_rel hm ht ho4 hl4
   rcases hs5 with hE | ⟨ho5, hl5⟩
   · exact absurd h0 (block_no hl hz hE hq)
   · generalize hs5 : (if pIs ts [123] (pMust ts [41] p.2) = true then pMust ts [41] p.2 else pTyped ts (pMust ts [41] p.2)) = s5 at *
     generalize hs5' : (if pIs ts' [123] (pMust ts' [41] p'.2) = true then pMust ts' [41] p'.2 else pTyped ts' (pMust ts' [41] p'.2)) = s5' at *
     have hq0 := hq
     cases n with
     | zero => simp [run] at hq
     | succ n =>
      simp only [run] at hq
      by_cases i1 : pIs ts [123] s5 = true
      · rw [if_pos i1] at hq
        simp only [Option.map_eq_some_iff] at hq
        obtain ⟨u, hu, rfl⟩ := hq
        have hue : (pMust ts [125] u.2).e = 0 := h0
        have hip := must_ok hue
        rcases S2.must hm (S2.downIs (.inr ⟨ho5, hl5⟩) ht i1) ht [123] with hE | ⟨ho6, hl6⟩
        · exact absurd (end_tok hl hz (run_eo ht _ _ _ _ hu hE) (pIs_kind hip).1) (pIs_kind hip).2.1
        · rcases run_rel (src' := src') hm hP ht n _ _ _ hu (.stmts []) _ (TR.stmts [] [] (fun _ => rfl)) ho6 hl6 with hE | ⟨u', hu', a, c, e⟩
          · exact absurd (end_tok hl hz hE (pIs_kind hip).1) (pIs_kind hip).2.1
          · have hu0 := (pIs_kind hip).1
            have hip' : pIs ts' [125] u'.2 = true := by rw [c.is hm]; exact hip
            have e1 : pMust ts [125] u.2 = pGo u.2 := by unfold pMust; rw [if_pos hip]
            have e2 : pMust ts' [125] u'.2 = pGo u'.2 := by unfold pMust; rw [if_pos hip']
            have hlen := congrArg List.length (c.nodes hu0)
            simp only [List.length_map, List.length_append] at hlen
            have hru' : run src' ts' (n + 1) .block s5' = some (pPut 18 (pLine src' ts' s5') 0 [] u'.1 (pUp (pMust ts' [125] u'.2))) := by
              simp only [run]; rw [hl5.is hm, if_pos i1, hu']; rfl
            refine ⟨(⟨pName ts' (pMust ts' [102, 110] s'), pLine src' ts' s', p'.1, (if pIs ts' [123] (pMust ts' [41] p'.2) = true then 0 else pType ts' (pMust ts' [41] p'.2)), (pPut 18 (pLine src' ts' s5') 0 [] u'.1 (pUp (pMust ts' [125] u'.2))).1.headD 0⟩, (pPut 18 (pLine src' ts' s5') 0 [] u'.1 (pUp (pMust ts' [125] u'.2))).2), ?_, ?_, ?_, ⟨hn, h1, hty, ?_⟩⟩
            · simp only [runFunc]
              rw [hp']
              simp only [Option.bind_some]
              rw [hs5', hru']
              rfl
            · rw [e1]
              exact ((a.goIs ht hip).up).put ..
            · rw [e1, e2]
              refine ⟨hu0, by show u'.2.e = 0; rw [c.e]; exact hu0, by show u'.2.deep - 1 = u.2.deep - 1; rw [c.deep], by show u'.2.i + 1 = u.2.i + 1 + d; have := c.i hu0; omega, ?_, by show u.2.i + 1 ≤ m; have := c.lt hu0; omega⟩
              show (u'.2.nodes ++ [_]).map zlN = P ++ (u.2.nodes ++ [_]).map (shN b)
              rw [List.map_append, List.map_append, c.nodes hu0, List.append_assoc, e hu0]
              rfl
            · rw [e1, e2]
              show u'.2.nodes.length = u.2.nodes.length + b
              rw [hlen, hP, Nat.add_comm]
      · rw [if_neg i1] at hq
        simp only [Option.some.injEq] at hq
        subst hq
        exact absurd h0 (fail_e 20 (by decide) _)
theorem fns_w (hm : Mt ts ts' d m) (hP : P.length = b) (ht : ToksOk ts) (hl : m + 1 = ts.length) (hz : (ts.getD m tok0).kind = 0) (hnz : ∀ i, i < m → (ts.getD i tok0).kind ≠ 0) : ∀ (n : Nat) (acc acc' : List FuncM) (s s' : PS) (r : List FuncM × PS), runFns src ts n acc s = some r → r.2.e = 0 → PSOk ts s → Rw d m b P s s' →
  ∃ fs gs s2, r.1 = acc ++ fs ∧ Rw d m b P r.2 s2 ∧ r.2.i = m ∧ fs.length = gs.length ∧ (∀ (i : Nat) (f g : FuncM), fs[i]? = some f → gs[i]? = some g → FR b f g) ∧ ∀ z, RunsL src' ts' (acc' ++ gs) s2 z → RunsL src' ts' acc' s' z
 | 0, _, _, _, _, _, h, _, _, _ => by simp [runFns] at h
 | n + 1, acc, acc', s, s', r, h, hr, ho, hw => by
  simp only [runFns] at h
  rw [if_neg (by simp [hw.e])] at h
  by_cases hk : pKind ts 0 s = true
  · rw [if_pos hk] at h
    simp only [Option.some.injEq] at h
    subst h
    refine ⟨[], [], s', by simp, hw, ?_, rfl, fun i f g h => by simp at h, fun z hz => by simpa using hz⟩
    by_cases hi : s.i < m
    · exact absurd (pKind_kind hk).2 (hnz _ hi)
    · have := hw.le; show s.i = m; omega
  · rw [if_neg hk] at h
    simp only [Option.bind_eq_some_iff] at h
    obtain ⟨f, hf, h⟩ := h
    have hi : s.i < m := by
      by_cases hi : s.i < m
      · exact hi
      · have e : s.i = m := by have := hw.le; omega
        refine absurd ?_ hk
        unfold pKind pTok
        rw [e, hz, hw.e]; rfl
    have hf0 : f.2.e = 0 := (fns_ext _ _ _ _ h).e0 hr
    obtain ⟨f', hf', a, c, hfr⟩ := func_w (src' := src') hm hP ht hl hz hf hf0 ho (hw.rl hi)
    obtain ⟨fs, gs, s2, e1, e2, e3, e4, e5, e6⟩ := fns_w hm hP ht hl hz hnz n _ (acc' ++ [f'.1]) _ f'.2 _ h hr a c
    refine ⟨f.1 :: fs, f'.1 :: gs, s2, by rw [e1]; simp, e2, e3, by simp [e4], fun i x y hx hy => ?_, fun z hz2 => ?_⟩
    · cases i with
      | zero => simp at hx hy; subst hx; subst hy; exact hfr
      | succ i => exact e5 i x y (by simpa using hx) (by simpa using hy)
    · have hk' : pKind ts' 0 s' = false := by rw [(hw.rl (ts := ts) (ts' := ts') hi).kind hm]; simpa using hk
      exact l_more hw.e' hk' ⟨n, hf'⟩ (e6 z (by simpa using hz2))
theorem params_deep : ∀ (n : Nat) (acc : List (List UInt8 × Nat)) (s : PS) (p : List (List UInt8 × Nat) × PS), runParams ts n acc s = some p → p.2.deep = s.deep
 | 0, _, _, _, h => by simp [runParams] at h
 | n + 1, acc, s, p, h => by
  have ht : ∀ s, (pTyped ts s).deep = s.deep := fun s => by unfold pTyped; split; exact deep_fail 20 s; rfl
  simp only [runParams] at h
  split at h
  · have := params_deep n _ _ _ h
    rw [this, deep_go, ht, deep_named]
  · simp only [Option.some.injEq] at h
    subst h
    show (pTyped ts (pNamed ts s)).deep = s.deep
    rw [ht, deep_named]
theorem fns_deep : ∀ (n : Nat) (acc : List FuncM) (s : PS) (r : List FuncM × PS), runFns src ts n acc s = some r → r.2.deep = s.deep
 | 0, _, _, _, h => by simp [runFns] at h
 | n + 1, acc, s, r, h => by
  simp only [runFns] at h
  split at h
  · simp only [Option.some.injEq] at h; subst h; rfl
  · split at h
    · simp only [Option.some.injEq] at h; subst h; rfl
    · simp only [Option.bind_eq_some_iff] at h
      obtain ⟨f, hf, h⟩ := h
      rw [fns_deep n _ _ _ h]
      simp only [runFunc, Option.bind_eq_some_iff, Option.map_eq_some_iff] at hf
      obtain ⟨p, hp, q, hq, rfl⟩ := hf
      have ht : ∀ s, (pTyped ts s).deep = s.deep := fun s => by unfold pTyped; split; exact deep_fail 20 s; rfl
      have h1 := run_deep _ _ _ _ hq
      have h2 : p.2.deep = s.deep := by
        split at hp
        · rw [params_deep _ _ _ _ hp, deep_must, deep_named, deep_must]
        · simp only [Option.some.injEq] at hp
          subst hp
          show (pMust ts [40] (pNamed ts (pMust ts [102, 110] s))).deep = _
          rw [deep_must, deep_named, deep_must]
      show q.2.deep = s.deep
      rw [h1]
      split
      · rw [deep_must, h2]
      · rw [ht, deep_must, h2]
end
theorem good_of {a : List UInt8} {ns : List NodeM} {fs : List FuncM} (h : parseM a = some (.good ns fs)) : ∃ ts q, lexM a = .good ts ∧ runFns a ts (parseFuel ts) [] s00 = some q ∧ q.2.e = 0 ∧ ns = q.2.nodes ∧ fs = q.1 := by
 unfold parseM at h
 cases hl : lexM a with
 | bad p e => rw [hl] at h; simp at h
 | good ts =>
  rw [hl] at h
  simp only [parseT, Option.map_eq_some_iff] at h
  obtain ⟨q, hq, h⟩ := h
  split at h
  · cases h
  · rename_i he
    split at h
    · cases h
    · injection h with h1 h2
      exact ⟨ts, q, rfl, hq, by omega, h1.symm, h2.symm⟩
theorem toks_end {a : List UInt8} {ts : List Tok} (h : lexM a = .good ts) : ∃ K q, ts = K ++ [⟨0, [], q⟩] ∧ ∀ t ∈ K, t.kind ≠ 0 := by
 unfold lexM at h
 split at h
 · cases h
 · exact (lex_shape a.length a 0 600 ts (Nat.le_refl _) (by omega) h).2.2
theorem getD_app {K J : List Tok} {i : Nat} (h : i < K.length) : (K ++ J).getD i tok0 = K.getD i tok0 := by
 rw [List.getD, List.getD, List.getElem?_append_left h]
theorem getD_app2 {K J : List Tok} {i : Nat} : (K ++ J).getD (i + K.length) tok0 = J.getD i tok0 := by
 rw [List.getD, List.getD, List.getElem?_append_right (by omega), Nat.add_sub_cancel]
theorem start_ok {ts : List Tok} (ht : ToksOk ts) : PSOk ts s00 := ⟨ht.pos, by decide, fun _ => by decide, by decide, by decide⟩
theorem parse_join {a b : List UInt8} {nsa nsb : List NodeM} {fsa fsb : List FuncM} (ha : parseM a = some (.good nsa fsa)) (hb : parseM b = some (.good nsb fsb)) (hlen : (a ++ 10 :: b).length ≤ 600) :
  ∃ ns fs gs, ns.map zlN = nsa.map (shN 0) ++ nsb.map (shN nsa.length) ∧ fsa.length = fs.length ∧ fsb.length = gs.length ∧ (∀ (i : Nat) (f g : FuncM), fsa[i]? = some f → fs[i]? = some g → FR 0 f g) ∧ (∀ (i : Nat) (f g : FuncM), fsb[i]? = some f → gs[i]? = some g → FR nsa.length f g) ∧
   parseM (a ++ 10 :: b) = some (if 300 < ns.length ∨ 6 < (fs ++ gs).length ∨ (fs ++ gs).any (fun f => decide (3 < f.params.length)) = true then .bad 0 4 else .good ns (fs ++ gs)) := by
 obtain ⟨ta, qa, la, ra, ea, rfl, rfl⟩ := good_of ha
 obtain ⟨tb, qb, lb, rb, eb, rfl, rfl⟩ := good_of hb
 obtain ⟨K, p, hK, hnz⟩ := toks_end la
 have hta := lexM_toks la
 have htb := lexM_toks lb
 have l1 : lexFrom a 0 = .good ta := by unfold lexM at la; split at la; cases la; exact la
 have l2 : lexFrom b 0 = .good tb := by unfold lexM at lb; split at lb; cases lb; exact lb
 have hdl : ta.dropLast = K := by rw [hK]; simp
 have hj := (lex_join b a.length a 0 ta (Nat.le_refl _) l1).2
 rw [hdl, Nat.zero_add] at hj
 have hu := lex_up (a.length + 1) b.length b 0 (Nat.le_refl _)
 rw [Nat.zero_add] at hu
 rw [hu, l2] at hj
 have hl' : lexM (a ++ 10 :: b) = .good (K ++ tb.map (Tok.up (a.length + 1))) := by
  unfold lexM
  rw [if_neg (by omega), hj]; rfl
 have hlen2 : K.length + 1 = ta.length := by rw [hK]; simp
 have hz : (ta.getD K.length tok0).kind = 0 := by rw [hK, List.getD, List.getElem?_append_right (Nat.le_refl _), Nat.sub_self]; rfl
 have hm1 : Mt ta (K ++ tb.map (Tok.up (a.length + 1))) 0 K.length := fun i hi => by
  have e : i + 0 = i := rfl
  rw [e, getD_app hi, hK, getD_app hi]
  exact ⟨rfl, rfl⟩
 have hm2 : Mt tb (K ++ tb.map (Tok.up (a.length + 1))) K.length tb.length := fun i hi => by
  rw [getD_app2, List.getD, List.getD, List.getElem?_map, List.getElem?_eq_getElem hi]
  exact ⟨rfl, rfl⟩
 have hnz2 : ∀ i, i < K.length → (ta.getD i tok0).kind ≠ 0 := fun i hi => by
  rw [hK, getD_app hi, List.getD, List.getElem?_eq_getElem hi]
  exact hnz _ (List.getElem_mem hi)
 obtain ⟨fs, gs0, s2, e1, e2, e3, e4, e5, e6⟩ := fns_w (src' := a ++ 10 :: b) (P := []) (b := 0) hm1 rfl hta hlen2 hz hnz2 _ [] [] s00 s00 qa ra ea (start_ok hta) ⟨rfl, rfl, rfl, rfl, rfl, Nat.zero_le _⟩
 have hd := fns_deep _ _ _ _ ra
 have hnl := congrArg List.length e2.nodes
 simp only [List.length_map, List.nil_append] at hnl
 obtain ⟨fs2, gs2, s3, c1, c2, c3, c4, c5⟩ := fns_all (src' := a ++ 10 :: b) (P := s2.nodes.map zlN) (b := qa.2.nodes.length) hm2 (by simp [hnl]) htb _ [] gs0 s00 s2 qb rb eb (start_ok htb)
  ⟨e2.e', by rw [e2.deep, hd], fun _ => by rw [e2.i, e3]; simp [s00], fun _ => by simp [s00], fun h => absurd rfl h, fun _ => htb.pos⟩
 rw [List.nil_append] at e1 c1
 have hR := e6 (gs0 ++ gs2, s3) ⟨_, by simpa using c2⟩
 refine ⟨s3.nodes, gs0, gs2, by rw [c3.nodes eb, e2.nodes]; simp, by rw [e1, e4], by rw [c1, c4], fun i f g hf hg => e5 i f g (by rw [← e1]; exact hf) hg, fun i f g hf hg => c5 i f g (by rw [← c1]; exact hf) hg, ?_⟩
 have h := parse_of hl' hR
 rw [h, if_neg (by show ¬ s3.e ≠ 0; rw [c3.e]; omega)]
end Go.Proofs.YtlbjicjinnnboaaDoor
