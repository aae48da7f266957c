/- MCb: ChE, CbA, CbB. -/
import Derived.Test.YtlbjicjinnnboaaDoorMSg
import Derived.Test.YtlbjicjinnnboaaDoorMCd
import Derived.Test.YtlbjicjinnnboaaDoorMRl
set_option linter.unusedVariables false
set_option linter.unusedSimpArgs false
/- The checker, of a tree with more behind: what was good stays as it was. -/
namespace Go.Proofs.YtlbjicjinnnboaaDoor
open Go.RowKit
open Pw
structure SE (N : Nat) (s s' : CkS) : Prop where
 ty : s'.types.take N = s.types
 sl : s'.slots.take N = s.slots
 fn : s'.fn.take N = s.fn
 vars : s'.vars = s.vars
 size : s'.size = s.size
def NE (ns ns' : List NodeM) : Prop := ∀ (x : Nat) (nd : NodeM), ns[x]? = some nd → ∃ line, ns'[x]? = some ⟨nd.kind, line, nd.n, nd.name, nd.l⟩
structure FE (fs fs' : List FuncM) : Prop where
 find : ∀ y j, findF fs y = some j → findF fs' y = some j
 get : ∀ (j : Nat) (f : FuncM), fs[j]? = some f → ∃ f', fs'[j]? = some f' ∧ f'.name = f.name ∧ f'.params = f.params ∧ f'.ret = f.ret ∧ f'.body = f.body
section
variable {N k : Nat} {ns ns' : List NodeM} {fs fs' : List FuncM}
def SimE (N : Nat) (ex ex' : Nat → CkS → CkR (Nat × CkS)) : Prop := ∀ (x : Nat) (s s' : CkS) (t : Nat) (r : CkS), SE N s s' → ex x s = .good (t, r) → ∃ r', ex' x s' = .good (t, r') ∧ SE N r r'
def SimB (N : Nat) (bl bl' : Nat → CkS → CkR CkS) : Prop := ∀ (x : Nat) (s s' r : CkS), SE N s s' → bl x s = .good r → ∃ r', bl' x s' = .good r' ∧ SE N r r'
theorem SE.setFn {s s' : CkS} (h : SE N s s') (x : Nat) : SE N { s with fn := s.fn.set x k } { s' with fn := s'.fn.set x k } :=
 ⟨h.ty, h.sl, by show (s'.fn.set x k).take N = _; rw [List.take_set, h.fn], h.vars, h.size⟩
theorem SE.setTy {s s' : CkS} (h : SE N s s') (x t : Nat) : SE N { s with types := s.types.set x t, fn := s.fn.set x k } { s' with types := s'.types.set x t, fn := s'.fn.set x k } :=
 ⟨by show (s'.types.set x t).take N = _; rw [List.take_set, h.ty], h.sl, by show (s'.fn.set x k).take N = _; rw [List.take_set, h.fn], h.vars, h.size⟩
theorem named_sim {x : Nat} {y : List UInt8} {s s' r : CkS} {t : Nat} (h : SE N s s') (e : namedC x y s = .good (t, r)) : ∃ r', namedC x y s' = .good (t, r') ∧ SE N r r' := by
 unfold namedC at e ⊢
 rw [h.vars]
 cases hf : findV s.vars y with
 | none => rw [hf] at e; cases e
 | some v =>
  rw [hf] at e
  injection e with e
  injection e with e1 e2
  subst e1; subst e2
  exact ⟨_, rfl, h.ty, by show (s'.slots.set x v.slot).take N = _; rw [List.take_set, h.sl], h.fn, rfl, h.size⟩
section
variable {ex ex' : Nat → CkS → CkR (Nat × CkS)} (hx : SimE N ex ex')
include hx
theorem args_sim : ∀ (l : List Nat) (s s' : CkS) (ts : List Nat) (r : CkS), SE N s s' → argsC ex l s = .good (ts, r) → ∃ r', argsC ex' l s' = .good (ts, r') ∧ SE N r r'
 | [], s, s', ts, r, h, e => by
  injection e with e
  injection e with e1 e2
  subst e1; subst e2
  exact ⟨s', rfl, h⟩
 | a :: l, s, s', ts, r, h, e => by
  obtain ⟨⟨t, s1⟩, h1, e⟩ := CkR.bind_eq e
  obtain ⟨⟨us, s2⟩, h2, e⟩ := CkR.map_eq e
  injection e with e1 e2
  subst e1; subst e2
  obtain ⟨s1', g1, k1⟩ := hx a s s' t s1 h h1
  obtain ⟨s2', g2, k2⟩ := args_sim l s1 s1' us s2 k1 h2
  exact ⟨s2', by unfold argsC; rw [g1]; simp only [CkR.bind_good]; rw [g2]; rfl, k2⟩
theorem call_sim (hF : FE fs fs') {x : Nat} {nd : NodeM} {s s' r : CkS} {t : Nat} (h : SE N s s') (e : callC fs ex x nd s = .good (t, r)) : ∃ r', callC fs' ex' x nd s' = .good (t, r') ∧ SE N r r' := by
 unfold callC at e ⊢
 cases hf : findF fs nd.name with
 | none => rw [hf] at e; cases e
 | some j =>
  rw [hf] at e
  simp only at e
  obtain ⟨⟨ts, s1⟩, h1, e⟩ := CkR.bind_eq e
  obtain ⟨s1', g1, k1⟩ := args_sim hx nd.l s s' ts s1 h h1
  obtain ⟨f, hj⟩ : ∃ f, fs[j]? = some f := by
    have : j < fs.length := (List.findIdx?_eq_some_iff_findIdx_eq.1 hf).1
    exact ⟨_, List.getElem?_eq_getElem this⟩
  obtain ⟨f', hj', _, hp, hr, _⟩ := hF.get j f hj
  rw [hF.find _ _ hf]
  simp only
  rw [g1]
  simp only [CkR.bind_good, hj, hj', Option.map_some, Option.getD_some] at e ⊢
  rw [hp, hr]
  split at e
  · cases e
  · rename_i c1
    rw [if_neg c1]
    split at e
    · cases e
    · rename_i c2
      rw [if_neg c2]
      injection e with e
      injection e with e1 e2
      subst e1; subst e2
      exact ⟨s1', rfl, k1⟩
theorem tells_sim (hF : FE fs fs') {x : Nat} {nd : NodeM} (line : Nat) {s s' r : CkS} {t : Nat} (h : SE N s s') (e : tellsC fs ex x nd s = .good (t, r)) : ∃ r', tellsC fs' ex' x ⟨nd.kind, line, nd.n, nd.name, nd.l⟩ s' = .good (t, r') ∧ SE N r r' := by
 unfold tellsC at e ⊢
 dsimp only at e ⊢
 have pure : ∀ {u : Nat}, (CkR.good (u, s) : CkR (Nat × CkS)) = .good (t, r) → ∃ r', (CkR.good (u, s') : CkR (Nat × CkS)) = .good (t, r') ∧ SE N r r' := fun {u} e => by
   injection e with e
   injection e with e1 e2
   subst e1; subst e2
   exact ⟨s', rfl, h⟩
 by_cases c1 : nd.kind = 1 ∨ nd.kind = 19
 · rw [if_pos c1] at e ⊢; exact pure e
 rw [if_neg c1] at e ⊢
 by_cases c2 : nd.kind = 2
 · rw [if_pos c2] at e ⊢; exact pure e
 rw [if_neg c2] at e ⊢
 by_cases c3 : nd.kind = 3
 · rw [if_pos c3] at e ⊢; exact pure e
 rw [if_neg c3] at e ⊢
 by_cases c4 : nd.kind = 4
 · rw [if_pos c4] at e ⊢; exact named_sim h e
 rw [if_neg c4] at e ⊢
 by_cases c5 : nd.kind = 21
 · rw [if_pos c5] at e ⊢
   exact call_sim hx hF (nd := ⟨nd.kind, line, nd.n, nd.name, nd.l⟩) h e
 rw [if_neg c5] at e ⊢
 by_cases c6 : nd.kind = 5
 · rw [if_pos c6] at e ⊢
   obtain ⟨⟨u, s1⟩, h1, e⟩ := CkR.bind_eq e
   obtain ⟨⟨v, s2⟩, h2, e⟩ := CkR.bind_eq e
   obtain ⟨s1', g1, k1⟩ := named_sim h h1
   obtain ⟨s2', g2, k2⟩ := hx _ _ _ _ _ k1 h2
   rw [g1]; simp only [CkR.bind_good] at e ⊢
   rw [g2]; simp only [CkR.bind_good] at e ⊢
   by_cases c : u = 4 ∧ v = 1
   · rw [if_pos c] at e ⊢; injection e with e; injection e with e1 e2; subst e1; subst e2; exact ⟨_, rfl, k2⟩
   · rw [if_neg c] at e; cases e
 rw [if_neg c6] at e ⊢
 by_cases c7 : nd.kind = 9
 · rw [if_pos c7] at e ⊢
   obtain ⟨⟨u, s1⟩, h1, e⟩ := CkR.bind_eq e
   obtain ⟨⟨v, s2⟩, h2, e⟩ := CkR.bind_eq e
   obtain ⟨s1', g1, k1⟩ := hx _ _ _ _ _ h h1
   obtain ⟨s2', g2, k2⟩ := hx _ _ _ _ _ k1 h2
   rw [g1]; simp only [CkR.bind_good] at e ⊢
   rw [g2]; simp only [CkR.bind_good] at e ⊢
   by_cases c : binT nd.name u v = 0
   · rw [if_pos c] at e; cases e
   · rw [if_neg c] at e ⊢; injection e with e; injection e with e1 e2; subst e1; subst e2; exact ⟨_, rfl, k2⟩
 rw [if_neg c7] at e ⊢
 obtain ⟨⟨u, s1⟩, h1, e⟩ := CkR.bind_eq e
 obtain ⟨s1', g1, k1⟩ := hx _ _ _ _ _ h h1
 rw [g1]; simp only [CkR.bind_good] at e ⊢
 have fin : ∀ {v : Nat}, (CkR.good (v, s1) : CkR (Nat × CkS)) = .good (t, r) → ∃ r', (CkR.good (v, s1') : CkR (Nat × CkS)) = .good (t, r') ∧ SE N r r' := fun {v} e => by
   injection e with e
   injection e with e1 e2
   subst e1; subst e2
   exact ⟨s1', rfl, k1⟩
 have two : ∀ {c : Prop} [Decidable c] {v : Nat}, (if c then CkR.good (v, s1) else CkR.bad 42 x : CkR (Nat × CkS)) = .good (t, r) → ∃ r', (if c then CkR.good (v, s1') else CkR.bad 42 x : CkR (Nat × CkS)) = .good (t, r') ∧ SE N r r' := fun {c} _ {v} e => by
   by_cases h : c
   · rw [if_pos h] at e ⊢; exact fin e
   · rw [if_neg h] at e; cases e
 by_cases d1 : nd.kind = 6
 · rw [if_pos d1] at e ⊢; exact two e
 rw [if_neg d1] at e ⊢
 by_cases d2 : nd.kind = 7
 · rw [if_pos d2] at e ⊢; exact two e
 rw [if_neg d2] at e ⊢
 by_cases d3 : nd.kind = 8
 · rw [if_pos d3] at e ⊢; exact two e
 rw [if_neg d3] at e ⊢
 exact two e
end
theorem expr_sim (hN : NE ns ns') (hF : FE fs fs') : ∀ (f f' : Nat), f ≤ f' → SimE N (exprC ns fs k f) (exprC ns' fs' k f')
 | 0, _, _ => fun x s s' t r _ e => by cases e
 | f + 1, 0, h => absurd h (by omega)
 | f + 1, f' + 1, h => fun x s s' t r hs e => by
  have ih := expr_sim hN hF f f' (by omega)
  unfold exprC at e ⊢
  cases hx : ns[x]? with
  | none => rw [hx] at e; cases e
  | some nd =>
   rw [hx] at e
   obtain ⟨⟨u, s1⟩, h1, e⟩ := CkR.map_eq e
   injection e with e1 e2
   subst e1; subst e2
   obtain ⟨line, hx'⟩ := hN x nd hx
   obtain ⟨s1', g1, k1⟩ := tells_sim ih hF line hs h1
   rw [hx']
   simp only
   rw [g1]
   exact ⟨_, rfl, k1.setTy x u⟩
section
variable {ex ex' : Nat → CkS → CkR (Nat × CkS)} {bl bl' : Nat → CkS → CkR CkS} (hx : SimE N ex ex')
theorem seq_sim {st st' : Nat → CkS → CkR CkS} (hs : SimB N st st') : ∀ (l : List Nat) (s s' r : CkS), SE N s s' → seqC st l s = .good r → ∃ r', seqC st' l s' = .good r' ∧ SE N r r'
 | [], s, s', r, h, e => by injection e with e; subst e; exact ⟨s', rfl, h⟩
 | a :: l, s, s', r, h, e => by
  obtain ⟨s1, h1, e⟩ := CkR.bind_eq e
  obtain ⟨s1', g1, k1⟩ := hs a s s' s1 h h1
  obtain ⟨r', g2, k2⟩ := seq_sim hs l s1 s1' r k1 e
  exact ⟨r', by unfold seqC; rw [g1]; exact g2, k2⟩
include hx
theorem let_sim {x : Nat} {nd : NodeM} (line : Nat) {s s' r : CkS} (h : SE N s s') (e : letC ex x nd s = .good r) : ∃ r', letC ex' x ⟨nd.kind, line, nd.n, nd.name, nd.l⟩ s' = .good r' ∧ SE N r r' := by
 unfold letC at e ⊢
 obtain ⟨⟨t, s1⟩, h1, e⟩ := CkR.bind_eq e
 obtain ⟨s1', g1, k1⟩ := hx _ _ _ _ _ h h1
 dsimp only at e ⊢
 rw [g1]; simp only [CkR.bind_good] at e ⊢
 rw [k1.vars, k1.size]
 split at e
 · cases e
 rename_i c1; rw [if_neg c1]
 split at e
 · cases e
 rename_i c2; rw [if_neg c2]
 split at e
 · cases e
 rename_i c3; rw [if_neg c3]
 injection e with e
 subst e
 exact ⟨_, rfl, k1.ty, by show (s1'.slots.set x (s1.size : Int)).take N = _; rw [List.take_set, k1.sl], k1.fn, rfl, rfl⟩
theorem ret_sim (hF : FE fs fs') {x : Nat} {nd : NodeM} (line : Nat) (hk : k < fs.length) {s s' r : CkS} (h : SE N s s') (e : retC fs k ex x nd s = .good r) : ∃ r', retC fs' k ex' x ⟨nd.kind, line, nd.n, nd.name, nd.l⟩ s' = .good r' ∧ SE N r r' := by
 obtain ⟨f', hj', _, _, hr, _⟩ := hF.get k fs[k] (List.getElem?_eq_getElem hk)
 have hret : (fs'[k]?.map (·.ret)).getD 0 = (fs[k]?.map (·.ret)).getD 0 := by rw [hj', List.getElem?_eq_getElem hk]; exact hr
 unfold retC at e ⊢
 dsimp only at e ⊢
 rw [hret]
 split at e
 · rename_i c1
   rw [if_pos c1]
   split at e
   · rename_i c2
     rw [if_pos c2]
     obtain ⟨⟨t, s1⟩, h1, e⟩ := CkR.bind_eq e
     obtain ⟨s1', g1, k1⟩ := hx _ _ _ _ _ h h1
     rw [g1]; simp only [CkR.bind_good] at e ⊢
     split at e
     · rename_i c3; rw [if_pos c3]; injection e with e; subst e; exact ⟨_, rfl, k1⟩
     · cases e
   · rename_i c2; rw [if_neg c2]; injection e with e; subst e; exact ⟨_, rfl, h⟩
 · cases e
theorem stm_sim (hb : SimB N bl bl') (hF : FE fs fs') {x : Nat} {nd : NodeM} (line : Nat) (hk : k < fs.length) {s s' r : CkS} (h : SE N s s') (e : stmC fs k ex bl x nd s = .good r) : ∃ r', stmC fs' k ex' bl' x ⟨nd.kind, line, nd.n, nd.name, nd.l⟩ s' = .good r' ∧ SE N r r' := by
 have h := h.setFn (k := k) x
 unfold stmC at e ⊢
 dsimp only at e ⊢
 split at e
 · rename_i c; rw [if_pos c]; exact let_sim hx line h e
 rename_i c1; rw [if_neg c1]
 split at e
 · rename_i c
   rw [if_pos c]
   obtain ⟨⟨t, s1⟩, h1, e⟩ := CkR.bind_eq e
   obtain ⟨⟨u, s2⟩, h2, e⟩ := CkR.bind_eq e
   obtain ⟨s1', g1, k1⟩ := named_sim h h1
   obtain ⟨s2', g2, k2⟩ := hx _ _ _ _ _ k1 h2
   rw [g1]; simp only [CkR.bind_good] at e ⊢
   rw [g2]; simp only [CkR.bind_good] at e ⊢
   split at e
   · rename_i c3; rw [if_pos c3]; injection e with e; subst e; exact ⟨_, rfl, k2⟩
   · cases e
 rename_i c2; rw [if_neg c2]
 split at e
 · rename_i c
   rw [if_pos c]
   obtain ⟨⟨t, s1⟩, h1, e⟩ := CkR.bind_eq e
   obtain ⟨⟨u, s2⟩, h2, e⟩ := CkR.bind_eq e
   obtain ⟨⟨v, s3⟩, h3, e⟩ := CkR.bind_eq e
   obtain ⟨s1', g1, k1⟩ := named_sim h h1
   obtain ⟨s2', g2, k2⟩ := hx _ _ _ _ _ k1 h2
   obtain ⟨s3', g3, k3⟩ := hx _ _ _ _ _ k2 h3
   rw [g1]; simp only [CkR.bind_good] at e ⊢
   rw [g2]; simp only [CkR.bind_good] at e ⊢
   rw [g3]; simp only [CkR.bind_good] at e ⊢
   split at e
   · rename_i c3; rw [if_pos c3]; injection e with e; subst e; exact ⟨_, rfl, k3⟩
   · cases e
 rename_i c3; rw [if_neg c3]
 split at e
 · rename_i c
   rw [if_pos c]
   obtain ⟨⟨t, s1⟩, h1, e⟩ := CkR.map_eq e
   subst e
   obtain ⟨s1', g1, k1⟩ := hx _ _ _ _ _ h h1
   rw [g1]
   exact ⟨_, rfl, k1⟩
 rename_i c4; rw [if_neg c4]
 split at e
 · rename_i c
   rw [if_pos c]
   obtain ⟨⟨t, s1⟩, h1, e⟩ := CkR.bind_eq e
   obtain ⟨s1', g1, k1⟩ := hx _ _ _ _ _ h h1
   rw [g1]; simp only [CkR.bind_good] at e ⊢
   split at e
   · rename_i c5; rw [if_pos c5]; injection e with e; subst e; exact ⟨_, rfl, k1⟩
   · cases e
 rename_i c5; rw [if_neg c5]
 split at e
 · rename_i c; rw [if_pos c]; exact ret_sim hx hF line hk h e
 rename_i c6; rw [if_neg c6]
 obtain ⟨⟨t, s1⟩, h1, e⟩ := CkR.bind_eq e
 obtain ⟨s1', g1, k1⟩ := hx _ _ _ _ _ h h1
 rw [g1]; simp only [CkR.bind_good] at e ⊢
 split at e
 · rename_i c7; rw [if_pos c7]; exact seq_sim hb _ _ _ _ k1 e
 · cases e
end
theorem block_sim (hN : NE ns ns') (hle : ns.length ≤ ns'.length) (hF : FE fs fs') (hk : k < fs.length) : ∀ (f f' : Nat), f ≤ f' → SimB N (blockC ns fs k f) (blockC ns' fs' k f')
 | 0, _, _ => fun x s s' r _ e => by cases e
 | f + 1, 0, h => absurd h (by omega)
 | f + 1, f' + 1, h => fun x s s' r hs e => by
  have ih := block_sim hN hle hF hk f f' (by omega)
  unfold blockC at e ⊢
  cases hx : ns[x]? with
  | none => rw [hx] at e; cases e
  | some nd =>
   rw [hx] at e
   obtain ⟨s1, h1, e⟩ := CkR.map_eq e
   subst e
   obtain ⟨line, hx'⟩ := hN x nd hx
   obtain ⟨s1', g1, k1⟩ := seq_sim (N := N) (st' := fun a s => match ns'[a]? with
    | none => .bad 95 0
    | some na => stmC fs' k (exprC ns' fs' k ns'.length) (blockC ns' fs' k f') a na s) (fun a s s' r hs e => by
     cases ha : ns[a]? with
     | none => simp only [ha] at e; cases e
     | some na =>
      simp only [ha] at e
      obtain ⟨la, ha'⟩ := hN a na ha
      simp only [ha']
      exact stm_sim (expr_sim hN hF _ _ hle) ih hF la hk hs e) nd.l _ _ _ (hs.setFn x) h1
   rw [hx']
   refine ⟨{ s1' with vars := s1'.vars.take s'.vars.length }, congrArg (CkR.map fun r : CkS => { r with vars := r.vars.take s'.vars.length }) g1, k1.ty, k1.sl, k1.fn, by show s1'.vars.take s'.vars.length = s1.vars.take s.vars.length; rw [k1.vars, hs.vars], k1.size⟩
theorem func_sim (hN : NE ns ns') (hle : ns.length ≤ ns'.length) (hF : FE fs fs') (hk : k < fs.length) {f f' : FuncM} (hp : f'.params = f.params) (hb : f'.body = f.body) {s s' r : CkS} (h : SE N s s') (e : funcC ns fs k f s = .good r) : ∃ r', funcC ns' fs' k f' s' = .good r' ∧ SE N r r' := by
 unfold funcC at e ⊢
 obtain ⟨vs, h1, e⟩ := CkR.bind_eq e
 rw [hp, hb, h1]
 have hs : SE N { s with vars := vs, size := vs.length } { s' with vars := vs, size := vs.length } := ⟨h.ty, h.sl, h.fn, rfl, rfl⟩
 exact block_sim hN hle hF hk _ _ hle f.body _ _ r hs e
theorem funcs_sim (hN : NE ns ns') (hle : ns.length ≤ ns'.length) (hF : FE fs fs') (more : List FuncM) : ∀ (l l' : List FuncM) (k : Nat) (zs zs1 : List Nat) (s s' r : CkS), l'.length = l.length → (∀ (i : Nat) (f f' : FuncM), l[i]? = some f → l'[i]? = some f' → f'.params = f.params ∧ f'.body = f.body) → k + l.length ≤ fs.length → SE N s s' → funcsC ns fs k l zs s = .good (zs1, r) →
  ∃ r', SE N r r' ∧ funcsC ns' fs' k (l' ++ more) zs s' = funcsC ns' fs' (k + l.length) more zs1 r'
 | [], l', k, zs, zs1, s, s', r, hl, _, _, h, e => by
  have : l' = [] := List.eq_nil_of_length_eq_zero hl
  subst this
  injection e with e
  injection e with e1 e2
  subst e1; subst e2
  exact ⟨s', h, rfl⟩
 | f :: l, [], _, _, _, _, _, _, hl, _, _, _, _ => by simp at hl
 | f :: l, f' :: l', k, zs, zs1, s, s', r, hl, hr, hk, h, e => by
  obtain ⟨s1, h1, e⟩ := CkR.bind_eq e
  obtain ⟨hp, hb⟩ := hr 0 f f' rfl rfl
  simp only [List.length_cons] at hk hl ⊢
  obtain ⟨s1', g1, k1⟩ := func_sim hN hle hF (by omega) hp hb h h1
  obtain ⟨r', q1, q2⟩ := funcs_sim hN hle hF more l l' (k + 1) (zs ++ [s1.size]) zs1 s1 s1' r (by omega) (fun i g g' a b => hr (i + 1) g g' (by simpa using a) (by simpa using b)) (by omega) k1 e
  refine ⟨r', q1, ?_⟩
  rw [List.cons_append]
  show (funcC ns' fs' k f' s').bind _ = _
  rw [g1]
  simp only [CkR.bind_good]
  rw [k1.size, q2, show k + 1 + l.length = k + (l.length + 1) by omega]
end
structure PExt (p q : ProgM) : Prop where
 node : NE p.ns q.ns
 slot : ∀ x, x < p.ns.length → slotP q x = slotP p x
 type : ∀ x, x < p.ns.length → typeP q x = typeP p x
 fns : FE p.fs q.fs
section
variable {p q : ProgM}
theorem Cd.ext (h : PExt p q) {t : Tk} {a b at_ : Nat} {l : List InsM} (c : Cd p t a b at_ l) : Cd q t a b at_ l := by
 have lt : ∀ {x : Nat} {nd : NodeM}, p.ns[x]? = some nd → x < p.ns.length := fun hx => (List.getElem?_eq_some_iff.1 hx).1
 induction c with
 | leaf x at_ nd i hx hl hi =>
  obtain ⟨line, hx'⟩ := h.node x nd hx
  refine .leaf x at_ _ i hx' hl ?_
  unfold LeafI at hi ⊢
  rw [h.slot x (lt hx), h.type x (lt hx)]
  exact hi
 | un x at_ a u nd i l hx hl hi hc ih =>
  obtain ⟨line, hx'⟩ := h.node x nd hx
  refine .un x at_ a u _ i l hx' hl ?_ ih
  unfold UnI at hi ⊢
  rw [h.slot x (lt hx)]
  exact hi
 | bin x at_ a b u v line y l m hx hy h1 h2 hu hv ihu ihv =>
  obtain ⟨line', hx'⟩ := h.node x _ hx
  exact .bin x at_ a b u v line' y l m hx' hy h1 h2 ihu ihv
 | early x at_ a b u v line o y l m hx hy hu hv ihu ihv =>
  obtain ⟨line', hx'⟩ := h.node x _ hx
  exact .early x at_ a b u v line' o y l m hx' hy ihu ihv
 | call x at_ a line j f y ks l hx hj hf hp hc ih =>
  obtain ⟨line', hx'⟩ := h.node x _ hx
  obtain ⟨f', hf', _, hp', _, _⟩ := h.fns.get j f hf
  exact .call x at_ a line' j f' y ks l hx' (h.fns.find _ _ hj) hf' (by rw [hp']; exact hp) ih
 | argN a at_ => exact .argN a at_
 | argC u at_ a b c ks l m hc h2 ih ih2 => exact .argC u at_ a b c ks l m ih ih2
 | plain x at_ a nd i l hx hi hc ih =>
  obtain ⟨line', hx'⟩ := h.node x _ hx
  refine .plain x at_ a ⟨nd.kind, line', nd.n, nd.name, nd.l⟩ i l hx' ?_ ih
  unfold PlainI at hi ⊢
  rw [h.slot x (lt hx)]
  exact hi
 | if2 x at_ a b u v line l m hx hu hv ihu ihv =>
  obtain ⟨line', hx'⟩ := h.node x _ hx
  exact .if2 x at_ a b u v line' l m hx' ihu ihv
 | if3 x at_ a b c u v t line l m n hx hu hv ht ihu ihv iht =>
  obtain ⟨line', hx'⟩ := h.node x _ hx
  exact .if3 x at_ a b c u v t line' l m n hx' ihu ihv iht
 | loop x at_ a b u v line l m hx hu hv ihu ihv =>
  obtain ⟨line', hx'⟩ := h.node x _ hx
  exact .loop x at_ a b u v line' l m hx' ihu ihv
 | blk x at_ a line ks l hx hc ih =>
  obtain ⟨line', hx'⟩ := h.node x _ hx
  exact .blk x at_ a line' ks l hx' ih
 | seqN a at_ => exact .seqN a at_
 | seqC u at_ a b c ks l m hc h2 ih ih2 => exact .seqC u at_ a b c ks l m ih ih2
theorem Cd.det {t : Tk} {a b at_ : Nat} {l : List InsM} (c : Cd p t a b at_ l) : ∀ {a' b' : Nat} {l' : List InsM}, Cd p t a' b' at_ l' → l = l' := by
 have same : ∀ {x : Nat} {nd nd' : NodeM}, p.ns[x]? = some nd → p.ns[x]? = some nd' → nd = nd' := fun h h' => by rw [h] at h'; injection h'
 induction c with
 | leaf x at_ nd i hx hl hi =>
  intro a' b' l' h'
  cases h' with
  | leaf _ _ nd' i' hx' hl' hi' =>
   have := same hx hx'; subst this
   rcases hi with ⟨k, rfl⟩ | ⟨k, rfl⟩ | ⟨k, rfl⟩ | ⟨k, rfl⟩ | ⟨k, rfl⟩ <;> rcases hi' with ⟨k', rfl⟩ | ⟨k', rfl⟩ | ⟨k', rfl⟩ | ⟨k', rfl⟩ | ⟨k', rfl⟩ <;> first | rfl | (exfalso; omega)
  | un _ _ _ u nd' i' l' hx' hl' hi' hc' => have := same hx hx'; subst this; rw [hl] at hl'; cases hl'
  | bin _ _ _ _ _ _ _ _ _ _ hx' => have := same hx hx'; subst this; cases hl
  | early _ _ _ _ _ _ _ _ _ _ _ hx' => have := same hx hx'; subst this; cases hl
  | call _ _ _ _ _ _ _ _ _ hx' => have := same hx hx'; subst this; unfold LeafI at hi; dsimp only at hi; omega
 | un x at_ a u nd i l hx hl hi hc ih =>
  intro a' b' l' h'
  cases h' with
  | leaf _ _ nd' i' hx' hl' hi' => have := same hx hx'; subst this; rw [hl] at hl'; cases hl'
  | un _ _ _ u' nd' i' l' hx' hl' hi' hc' =>
   have := same hx hx'; subst this
   rw [hl] at hl'; injection hl' with hl'; subst hl'
   rw [ih hc']
   congr 1
   rcases hi with ⟨k, rfl⟩ | ⟨k, rfl⟩ | ⟨k, rfl⟩ | ⟨k, rfl⟩ | ⟨k, rfl⟩ <;> rcases hi' with ⟨k', rfl⟩ | ⟨k', rfl⟩ | ⟨k', rfl⟩ | ⟨k', rfl⟩ | ⟨k', rfl⟩ <;> first | rfl | (exfalso; omega)
  | bin _ _ _ _ _ _ _ _ _ _ hx' => have := same hx hx'; subst this; cases hl
  | early _ _ _ _ _ _ _ _ _ _ _ hx' => have := same hx hx'; subst this; cases hl
  | call _ _ _ _ _ _ _ _ _ hx' => have := same hx hx'; subst this; unfold UnI at hi; dsimp only at hi; omega
 | bin x at_ a b u v line y l m hx hy h1 h2 hu hv ihu ihv =>
  intro a' b' l' h'
  cases h' with
  | leaf _ _ nd' i' hx' hl' hi' => have := same hx hx'; subst this; cases hl'
  | un _ _ _ u' nd' i' l' hx' hl' hi' hc' => have := same hx hx'; subst this; cases hl'
  | bin _ _ _ _ _ _ _ _ l' m' hx' _ _ _ hu' hv' =>
   have := same hx hx'; injection this with _ _ _ e1 e2
   subst e1
   simp only [List.cons.injEq, and_true] at e2
   obtain ⟨rfl, rfl⟩ := e2
   have := ihu hu'; subst this
   have := ihv hv'; subst this
   rfl
  | early _ _ _ _ _ _ _ _ _ _ _ hx' hy' =>
   have := same hx hx'; injection this with _ _ _ e1 e2
   subst e1
   rcases hy' with ⟨e, _⟩ | ⟨e, _⟩
   · exact absurd e h1
   · exact absurd e h2
  | call _ _ _ _ _ _ _ _ _ hx' => have := same hx hx'; injection this with e; cases e
 | early x at_ a b u v line o y l m hx hy hu hv ihu ihv =>
  intro a' b' l' h'
  cases h' with
  | leaf _ _ nd' i' hx' hl' hi' => have := same hx hx'; subst this; cases hl'
  | un _ _ _ u' nd' i' l' hx' hl' hi' hc' => have := same hx hx'; subst this; cases hl'
  | bin _ _ _ _ _ _ _ _ l' m' hx' _ h1 h2 hu' hv' =>
   have := same hx hx'; injection this with _ _ _ e1 e2
   subst e1
   rcases hy with ⟨e, _⟩ | ⟨e, _⟩
   · exact absurd e h1
   · exact absurd e h2
  | early _ _ _ _ _ _ _ o' _ l' m' hx' hy' hu' hv' =>
   have := same hx hx'; injection this with _ _ _ e1 e2
   subst e1
   simp only [List.cons.injEq, and_true] at e2
   obtain ⟨rfl, rfl⟩ := e2
   have := ihu hu'; subst this
   have := ihv hv'; subst this
   have : o = o' := by
     rcases hy with ⟨rfl, rfl⟩ | ⟨rfl, rfl⟩ <;> rcases hy' with ⟨e, rfl⟩ | ⟨e, rfl⟩ <;> first | rfl | (exact absurd e (by decide))
   subst this
   rfl
  | call _ _ _ _ _ _ _ _ _ hx' => have := same hx hx'; injection this with e; cases e
 | call x at_ a line j f y ks l hx hj hf hp hc ih =>
  intro a' b' l' h'
  cases h' with
  | leaf _ _ nd' i' hx' hl' hi' => have := same hx hx'; subst this; unfold LeafI at hi'; dsimp only at hi'; omega
  | un _ _ _ u' nd' i' l' hx' hl' hi' hc' => have := same hx hx'; subst this; unfold UnI at hi'; dsimp only at hi'; omega
  | bin _ _ _ _ _ _ _ _ _ _ hx' => have := same hx hx'; injection this with e; cases e
  | early _ _ _ _ _ _ _ _ _ _ _ hx' => have := same hx hx'; injection this with e; cases e
  | call _ _ _ _ j' f' y' ks' l' hx' hj' hf' hp' hc' =>
   have := same hx hx'; injection this with _ _ _ e1 e2
   subst e1; subst e2
   rw [hj] at hj'; injection hj' with hj'; subst hj'
   rw [ih hc']
 | argN a at_ => intro a' b' l' h'; cases h'; rfl
 | argC u at_ a b c ks l m hc h2 ih ih2 =>
  intro a' b' l' h'
  cases h' with
  | argC _ _ _ _ _ _ l' m' hc' h2' =>
   have := ih hc'; subst this
   have := ih2 h2'; subst this
   rfl
 | plain x at_ a nd i l hx hi hc ih =>
  intro a' b' l' h'
  cases h' with
  | plain _ _ _ nd' i' l' hx' hi' hc' =>
   have := same hx hx'; subst this
   have := ih hc'; subst this
   congr 3
   unfold PlainI at hi hi'
   rcases hi with ⟨k, k2, rfl⟩ | ⟨k, k2, rfl⟩ | ⟨k, k2, rfl⟩ | ⟨k, k2, rfl⟩ | ⟨k, k2, rfl⟩ | ⟨k, k2, rfl⟩ <;> rcases hi' with ⟨k', k3, rfl⟩ | ⟨k', k3, rfl⟩ | ⟨k', k3, rfl⟩ | ⟨k', k3, rfl⟩ | ⟨k', k3, rfl⟩ | ⟨k', k3, rfl⟩ <;> first | rfl | (exfalso; omega)
  | if2 _ _ _ _ _ _ _ _ _ hx' => have := same hx hx'; subst this; unfold PlainI at hi; dsimp only at hi; omega
  | if3 _ _ _ _ _ _ _ _ _ _ _ _ hx' => have := same hx hx'; subst this; unfold PlainI at hi; dsimp only at hi; omega
  | loop _ _ _ _ _ _ _ _ _ hx' => have := same hx hx'; subst this; unfold PlainI at hi; dsimp only at hi; omega
 | if2 x at_ a b u v line l m hx hu hv ihu ihv =>
  intro a' b' l' h'
  cases h' with
  | plain _ _ _ nd' i' l' hx' hi' hc' => have := same hx hx'; subst this; unfold PlainI at hi'; dsimp only at hi'; omega
  | if2 _ _ _ _ _ _ _ l' m' hx' hu' hv' =>
   have := same hx hx'; injection this with _ _ _ e1 e2
   simp only [List.cons.injEq, and_true] at e2
   obtain ⟨rfl, rfl⟩ := e2
   have := ihu hu'; subst this
   have := ihv hv'; subst this
   rfl
  | if3 _ _ _ _ _ _ _ _ _ _ _ _ hx' => have := same hx hx'; injection this with _ _ _ _ e2; cases e2
  | loop _ _ _ _ _ _ _ _ _ hx' => have := same hx hx'; injection this with e; cases e
 | if3 x at_ a b c u v t line l m n hx hu hv ht ihu ihv iht =>
  intro a' b' l' h'
  cases h' with
  | plain _ _ _ nd' i' l' hx' hi' hc' => have := same hx hx'; subst this; unfold PlainI at hi'; dsimp only at hi'; omega
  | if2 _ _ _ _ _ _ _ _ _ hx' => have := same hx hx'; injection this with _ _ _ _ e2; cases e2
  | if3 _ _ _ _ _ _ _ _ _ l' m' n' hx' hu' hv' ht' =>
   have := same hx hx'; injection this with _ _ _ e1 e2
   simp only [List.cons.injEq, and_true] at e2
   obtain ⟨rfl, rfl, rfl⟩ := e2
   have := ihu hu'; subst this
   have := ihv hv'; subst this
   have := iht ht'; subst this
   rfl
  | loop _ _ _ _ _ _ _ _ _ hx' => have := same hx hx'; injection this with e; cases e
 | loop x at_ a b u v line l m hx hu hv ihu ihv =>
  intro a' b' l' h'
  cases h' with
  | plain _ _ _ nd' i' l' hx' hi' hc' => have := same hx hx'; subst this; unfold PlainI at hi'; dsimp only at hi'; omega
  | if2 _ _ _ _ _ _ _ _ _ hx' => have := same hx hx'; injection this with e; cases e
  | if3 _ _ _ _ _ _ _ _ _ _ _ _ hx' => have := same hx hx'; injection this with e; cases e
  | loop _ _ _ _ _ _ _ l' m' hx' hu' hv' =>
   have := same hx hx'; injection this with _ _ _ e1 e2
   simp only [List.cons.injEq, and_true] at e2
   obtain ⟨rfl, rfl⟩ := e2
   have := ihu hu'; subst this
   have := ihv hv'; subst this
   rfl
 | blk x at_ a line ks l hx hc ih =>
  intro a' b' l' h'
  cases h' with
  | blk _ _ _ _ ks' l' hx' hc' =>
   have := same hx hx'; injection this with _ _ _ e1 e2
   subst e2
   exact ih hc'
 | seqN a at_ => intro a' b' l' h'; cases h'; rfl
 | seqC u at_ a b c ks l m hc h2 ih ih2 =>
  intro a' b' l' h'
  cases h' with
  | seqC _ _ _ _ _ _ l' m' hc' h2' =>
   have := ih hc'; subst this
   have := ih2 h2'; subst this
   rfl
end
theorem source_check {src : List UInt8} {p : ProgM} (h : sourceM src = some (.good p)) : ∃ ns fs zs r, parseM src = some (.good ns fs) ∧ headsC fs = .good () ∧ funcsC ns fs 0 fs [] (startC ns) = .good (zs, r) ∧ p = ⟨ns, fs, r.types, r.slots, r.fn, zs⟩ := by
 unfold sourceM at h
 rw [Option.map_eq_some_iff] at h
 obtain ⟨r, hr, h⟩ := h
 cases r with
 | bad p e => cases h
 | good ns fs =>
  cases hc : checkT ns fs with
  | bad e x =>
   simp only [hc] at h
   split at h <;> cases h
  | good q =>
   simp only [hc] at h
   injection h with h
   subst h
   unfold checkT at hc
   obtain ⟨u, h1, hc⟩ := CkR.bind_eq hc
   obtain ⟨⟨zs, r⟩, h2, hc⟩ := CkR.map_eq hc
   exact ⟨ns, fs, zs, r, hr, h1, h2, hc.symm⟩
theorem findF_map {fs gs : List FuncM} (h : fs.map (·.name) = gs.map (·.name)) (y : List UInt8) : findF fs y = findF gs y := by
 have e : ∀ l : List FuncM, findF l y = (l.map (·.name)).findIdx? fun n => decide (n = y) := fun l => by
  unfold findF
  rw [List.findIdx?_map]; rfl
 rw [e, e, h]
theorem findF_app {fs gs : List FuncM} {y : List UInt8} {j : Nat} (h : findF fs y = some j) : findF (fs ++ gs) y = some j := by
 unfold findF at h ⊢
 rw [List.findIdx?_append, h]; rfl
section
variable {p q : ProgM}
theorem FnsCd.ext (h : PExt p q) {k a b at_ : Nat} {l : List FuncM} {code : List InsM} {en : List Nat} (c : FnsCd p k l a b at_ code en) : ∀ {l' gs : List FuncM} {a' b' : Nat} {code' : List InsM} {en' : List Nat}, l'.length = l.length → (∀ (i : Nat) (f f' : FuncM), l[i]? = some f → l'[i]? = some f' → f'.ret = f.ret ∧ f'.body = f.body) → FnsCd q k (l' ++ gs) a' b' at_ code' en' →
  ∃ c2 e2 a2, code' = code ++ c2 ∧ en' = en ++ e2 ∧ FnsCd q (k + l.length) gs a2 b' (at_ + code.length) c2 e2 := by
 induction c with
 | nil k a at_ =>
  intro l' gs a' b' code' en' hl _ hc
  have : l' = [] := List.eq_nil_of_length_eq_zero hl
  subst this
  exact ⟨code', en', a', rfl, rfl, hc⟩
 | cons k a c b at_ f l m n en hm h2 ih =>
  intro l' gs a' b' code' en' hl hr hc
  cases l' with
  | nil => simp at hl
  | cons f' l' =>
   obtain ⟨e1, e2⟩ := hr 0 f f' rfl rfl
   rw [List.cons_append] at hc
   cases hc with
   | cons _ _ c' _ _ _ _ m' n' en' hm' h2' =>
    rw [e2] at hm'
    have := (hm.ext h).det hm'
    subst this
    obtain ⟨c2, e3, a2, g1, g2, g3⟩ := ih (by simpa using hl) (fun i g g' x y => hr (i + 1) g g' (by simpa using x) (by simpa using y)) h2'
    refine ⟨c2, e3, a2, ?_, ?_, ?_⟩
    · rw [g1, e1]; simp only [List.append_assoc]
    · rw [g2]; rfl
    · simp only [List.length_cons, List.length_append, List.length_nil]
      rw [show k + (l.length + 1) = k + 1 + l.length by omega, show at_ + (m.length + (0 + 1) + n.length) = at_ + m.length + 1 + n.length by omega]
      exact g3
end
def zzS : List UInt8 := [102, 110, 32, 122, 122, 40, 41, 123, 112, 114, 105, 110, 116, 32, 49, 59, 125]
theorem zz_parse : parseM zzS = some (.good [⟨1, 1, 1, [], []⟩, ⟨14, 1, 0, [], [0]⟩, ⟨18, 1, 0, [], [1]⟩] [⟨[122, 122], 1, [], 0, 2⟩]) := by kernel_rfl
structure Behind (p q : ProgM) : Prop where
 ins : (compM q).ins = (compM p).ins ++ [⟨1, ((p.ns.length + 1 : Nat) : Int), 0, []⟩, ⟨2, 1, 0, []⟩, ⟨15, 0, 0, []⟩, ⟨22, 0, 0, []⟩]
 ent : (compM q).entry = (compM p).entry ++ [(compM p).ins.length]
 main : ∃ k f, findF p.fs [109, 97, 105, 110] = some k ∧ findF q.fs [109, 97, 105, 110] = some k ∧ p.fs[k]? = some f ∧ f.name = [109, 97, 105, 110]
theorem main_some {fs : List FuncM} (h : headsC fs = .good ()) : ∃ k f, findF fs [109, 97, 105, 110] = some k ∧ fs[k]? = some f ∧ f.name = [109, 97, 105, 110] := by
 have hany : fs.any isMain = true := by
  unfold headsC at h
  split at h
  · cases h
  · split at h
    · assumption
    · cases h
 cases hf : findF fs [109, 97, 105, 110] with
 | none =>
  unfold findF at hf
  rw [List.findIdx?_eq_none_iff] at hf
  obtain ⟨g, hg, hm⟩ := List.any_eq_true.1 hany
  have := hf g hg
  unfold isMain at hm
  simp only [Bool.and_eq_true, decide_eq_true_eq] at hm
  rw [decide_eq_true hm.1.1] at this
  cases this
 | some k =>
  unfold findF at hf
  rw [List.findIdx?_eq_some_iff_getElem] at hf
  obtain ⟨hlt, hn, _⟩ := hf
  exact ⟨k, fs[k], rfl, List.getElem?_eq_getElem hlt, by simpa using hn⟩
theorem behind_law {src : List UInt8} {p q : ProgM} (hp : sourceM src = some (.good p)) (hq : sourceM (src ++ 10 :: zzS) = some (.good q)) (hip : ProgIs p) (hiq : ProgIs q) (hlen : (src ++ 10 :: zzS).length ≤ 600) : Behind p q := by
 obtain ⟨ns, fs, zs, r, hP, hH, hC, rfl⟩ := source_check hp
 obtain ⟨ns', fs', zs', r', hP', hH', hC', rfl⟩ := source_check hq
 obtain ⟨ms, gs, hs, j1, j2, j3, j4, j5, j6⟩ := parse_join hP zz_parse hlen
 rw [hP'] at j6
 split at j6
 · injection j6 with j6; cases j6
 injection j6 with j6
 injection j6 with j6 j7
 subst j6; subst j7
 obtain ⟨z, rfl⟩ := List.length_eq_one_iff.1 j3.symm
 obtain ⟨zn, zp, zr, zb⟩ := j5 0 _ z rfl rfl
 dsimp only at zn zp zr zb
 -- the nodes
 have hlN : ns'.length = ns.length + 3 := by have := congrArg List.length j1; simpa using this
 have hz : ∀ x nd, ns'[x]? = some nd → (ns.map (shN 0) ++ [⟨1, 1, 1, [], []⟩, ⟨14, 1, 0, [], [0]⟩, ⟨18, 1, 0, [], [1]⟩].map (shN ns.length))[x]? = some (zlN nd) := fun x nd hx => by
   rw [← j1, List.getElem?_map, hx]; rfl
 have hNE : NE ns ns' := fun x nd hx => by
   have hlt := (List.getElem?_eq_some_iff.1 hx).1
   obtain ⟨nd', hx'⟩ : ∃ nd', ns'[x]? = some nd' := ⟨_, List.getElem?_eq_getElem (by omega)⟩
   have h := hz x nd' hx'
   rw [List.getElem?_append_left (by rw [List.length_map]; exact hlt), List.getElem?_map, hx] at h
   injection h with h
   unfold shN zlN at h
   obtain ⟨a1, a2, a3, a4, a5⟩ := nd
   obtain ⟨b1, b2, b3, b4, b5⟩ := nd'
   injection h with h1 h2 h3 h4 h5
   have h5 : a5.map (· + 0) = b5 := h5
   refine ⟨b2, ?_⟩
   rw [hx', h1, h3, h4, ← h5]
   simp
 have more : ∀ (i : Nat) (nd0 : NodeM), ([⟨1, 1, 1, [], []⟩, ⟨14, 1, 0, [], [0]⟩, ⟨18, 1, 0, [], [1]⟩] : List NodeM)[i]? = some nd0 → ∃ line, ns'[ns.length + i]? = some ⟨nd0.kind, line, nd0.n, nd0.name, nd0.l.map (· + ns.length)⟩ := fun i nd0 h0 => by
   have hi : i < 3 := (List.getElem?_eq_some_iff.1 h0).1
   obtain ⟨nd', hx'⟩ : ∃ nd', ns'[ns.length + i]? = some nd' := ⟨_, List.getElem?_eq_getElem (by omega)⟩
   have h := hz _ nd' hx'
   rw [List.getElem?_append_right (by rw [List.length_map]; omega), List.length_map, Nat.add_sub_cancel_left, List.getElem?_map, h0] at h
   injection h with h
   unfold shN zlN at h
   obtain ⟨a1, a2, a3, a4, a5⟩ := nd0
   obtain ⟨b1, b2, b3, b4, b5⟩ := nd'
   injection h with h1 h2 h3 h4 h5
   dsimp only at h1 h2 h3 h4 h5 ⊢
   exact ⟨b2, by rw [hx', h1, h3, h4, h5]⟩
 obtain ⟨la, n0⟩ := more 0 _ rfl
 obtain ⟨lb, n1⟩ := more 1 _ rfl
 obtain ⟨lc, n2⟩ := more 2 _ rfl
 have n0 : ns'[ns.length]? = some ⟨1, la, 1, [], []⟩ := by simpa using n0
 have n1 : ns'[ns.length + 1]? = some ⟨14, lb, 0, [], [ns.length]⟩ := by simpa using n1
 have n2 : ns'[ns.length + 2]? = some ⟨18, lc, 0, [], [ns.length + 1]⟩ := by simpa [Nat.add_comm] using n2
 -- the functions
 have hnm : gs.map (·.name) = fs.map (·.name) := List.ext_getElem? fun i => by
   rw [List.getElem?_map, List.getElem?_map]
   by_cases hi : i < fs.length
   · rw [List.getElem?_eq_getElem hi, List.getElem?_eq_getElem (by omega)]
     have := (j4 i _ _ (List.getElem?_eq_getElem hi) (List.getElem?_eq_getElem (by omega : i < gs.length))).name
     simp [this]
   · rw [List.getElem?_eq_none (by omega), List.getElem?_eq_none (by omega)]
 have hFE : FE fs (gs ++ [z]) := ⟨fun y j h => findF_app (by rw [findF_map hnm y]; exact h), fun j f hf => by
   have hj := (List.getElem?_eq_some_iff.1 hf).1
   obtain ⟨f', hf'⟩ : ∃ f', gs[j]? = some f' := ⟨_, List.getElem?_eq_getElem (by omega)⟩
   obtain ⟨e1, e2, e3, e4⟩ := j4 j f f' hf hf'
   exact ⟨f', by rw [List.getElem?_append_left (by omega)]; exact hf', e1, e2, e3, by rw [e4]; rfl⟩⟩
 have hSE : SE ns.length (startC ns) (startC ns') := by
   have hm : min ns.length ns'.length = ns.length := by omega
   exact ⟨by simp [startC, List.take_replicate, hm], by simp [startC, List.take_replicate, hm], by simp [startC, List.take_replicate, hm], rfl, rfl⟩
 obtain ⟨s1, k1, k2⟩ := funcs_sim hNE (by omega) hFE [z] fs gs 0 [] zs (startC ns) (startC ns') r (by omega) (fun i f f' hf hf' => by
   obtain ⟨e1, e2, e3, e4⟩ := j4 i f f' hf hf'
   exact ⟨e2, by rw [e4]; rfl⟩) (by omega) hSE hC
 rw [k2] at hC'
 obtain ⟨s2, g1, hC'⟩ := CkR.bind_eq hC'
 injection hC' with hC'
 injection hC' with _ hC'
 subst hC'
 -- the function more
 have hex : ∀ K s, exprC ns' (gs ++ [z]) K ns'.length ns.length s = .good (1, { s with types := s.types.set ns.length 1, fn := s.fn.set ns.length K }) := fun K s => by
   rw [hlN]
   show exprC ns' (gs ++ [z]) K (ns.length + 2 + 1) ns.length s = _
   unfold exprC
   rw [n0]
   simp [tellsC]
 have hst : ∀ K bl s, stmC (gs ++ [z]) K (exprC ns' (gs ++ [z]) K ns'.length) bl (ns.length + 1) ⟨14, lb, 0, [], [ns.length]⟩ s = .good { s with types := s.types.set ns.length 1, fn := (s.fn.set (ns.length + 1) K).set ns.length K } := fun K bl s => by
   simp [stmC, hex]
 have hbl : ∀ K s, ∃ s3, blockC ns' (gs ++ [z]) K ns'.length (ns.length + 2) s = .good s3 ∧ s3.slots = s.slots ∧ s3.types = s.types.set ns.length 1 := fun K s => by
   refine ⟨{ types := s.types.set ns.length 1, slots := s.slots, fn := ((s.fn.set (ns.length + 2) K).set (ns.length + 1) K).set ns.length K, vars := s.vars.take s.vars.length, size := s.size }, ?_, rfl, rfl⟩
   have e : ns'.length = ns.length + 2 + 1 := hlN
   have h := hst K (blockC ns' (gs ++ [z]) K (ns.length + 2)) { s with fn := s.fn.set (ns.length + 2) K }
   rw [show blockC ns' (gs ++ [z]) K ns'.length (ns.length + 2) s = blockC ns' (gs ++ [z]) K (ns.length + 2 + 1) (ns.length + 2) s from by rw [e]]
   unfold blockC
   rw [n2]
   simp only [seqC, n1]
   rw [h]
   rfl
 have hs2 : s2.slots = s1.slots ∧ s2.types = s1.types.set ns.length 1 := by
   unfold funcC at g1
   rw [zp, zb] at g1
   simp only [parsC, CkR.bind_good] at g1
   rw [show 2 + ns.length = ns.length + 2 by omega] at g1
   obtain ⟨s3, h1, h2, h3⟩ := hbl (0 + fs.length) { types := s1.types, slots := s1.slots, fn := s1.fn, vars := [], size := ([] : List VarM).length }
   rw [h1] at g1
   injection g1 with g1
   subst g1
   exact ⟨h2, h3⟩
 have hX : PExt ⟨ns, fs, r.types, r.slots, r.fn, zs⟩ ⟨ns', gs ++ [z], s2.types, s2.slots, s2.fn, zs'⟩ := ⟨hNE, fun x hx => by
     have hx : x < ns.length := hx
     unfold slotP
     dsimp only
     rw [hs2.1, ← k1.sl, List.getD_eq_getElem?_getD, List.getD_eq_getElem?_getD, List.getElem?_take, if_pos hx], fun x hx => by
     have hx : x < ns.length := hx
     unfold typeP
     dsimp only
     rw [hs2.2, ← k1.ty, List.getD_eq_getElem?_getD, List.getD_eq_getElem?_getD, List.getElem?_take, if_pos hx, List.getElem?_set_ne (by omega)], hFE⟩
 have c1 := comp_cd hip
 have c2 := comp_cd hiq
 obtain ⟨m, e2, a2, d1, d2, d3⟩ := c1.ext hX (l' := gs) (gs := [z]) (by dsimp only; omega) (fun i f f' hf hf' => by
   obtain ⟨e1, e2, e3, e4⟩ := j4 i f f' hf hf'
   exact ⟨e3, by rw [e4]; rfl⟩) c2
 cases d3 with
 | cons _ _ c' _ _ _ _ m' n' en' hm' h2' =>
   cases h2'
   rw [zb] at hm'
   have hcd : ∀ at_, Cd ⟨ns', gs ++ [z], s2.types, s2.slots, s2.fn, zs'⟩ (.blk (2 + ns.length)) ns.length (2 + ns.length + 1) at_ [⟨1, ((ns.length + 1 : Nat) : Int), 0, []⟩, ⟨2, 1, 0, []⟩, ⟨15, 0, 0, []⟩] := fun at_ => by
     rw [show 2 + ns.length = ns.length + 2 by omega]
     have h1 := Cd.leaf (p := ⟨ns', gs ++ [z], s2.types, s2.slots, s2.fn, zs'⟩) ns.length (at_ + 1) _ ⟨2, 1, 0, []⟩ n0 rfl (.inl ⟨rfl, rfl⟩)
     have h2 := Cd.plain (p := ⟨ns', gs ++ [z], s2.types, s2.slots, s2.fn, zs'⟩) (ns.length + 1) at_ ns.length _ ⟨15, 0, 0, []⟩ [⟨2, 1, 0, []⟩] n1 (.inr (.inr (.inr (.inl ⟨rfl, rfl, rfl⟩)))) (cd_one h1)
     have h3 := Cd.seqC (p := ⟨ns', gs ++ [z], s2.types, s2.slots, s2.fn, zs'⟩) (ns.length + 1) at_ ns.length (ns.length + 2) (ns.length + 2) [] _ [] h2 (.seqN _ _)
     exact Cd.blk (ns.length + 2) at_ ns.length lc [ns.length + 1] _ n2 h3
   have := hm'.det (hcd _)
   subst this
   refine ⟨?_, ?_, ?_⟩
   · rw [d1, zr]; rfl
   · rw [d2, Nat.zero_add]
   · obtain ⟨k, f, g1, g2, g3⟩ := main_some hH
     exact ⟨k, f, g1, hFE.find _ _ g1, g2, g3⟩
end Go.Proofs.YtlbjicjinnnboaaDoor
