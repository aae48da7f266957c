/- MCd: CdA, CdS, CdF. -/
import Derived.Test.YtlbjicjinnnboaaGreatDoorMSg
/- Programs as instructions: how codes are made of codes of parts. -/
namespace Go.Proofs.YtlbjicjinnnboaaGreatDoor
open Go.RowKit
open Pw
set_option linter.unusedVariables false
set_option linter.unusedSimpArgs false
inductive Tk where
  | ex (x : Nat)
  | args (l : List Nat)
  | stm (x : Nat)
  | blk (x : Nat)
  | seq (l : List Nat)
section
variable (p : ProgM)
def LeafI (x : Nat) (nd : NodeM) (i : InsM) : Prop :=
  (nd.kind = 1 ∧ i = ⟨2, nd.n, 0, []⟩) ∨ (nd.kind = 2 ∧ i = ⟨3, nd.n, 0, []⟩) ∨ (nd.kind = 3 ∧ i = ⟨4, 0, 0, nd.name⟩) ∨ (nd.kind = 4 ∧ i = ⟨5, slotP p x, typeP p x, []⟩) ∨ (nd.kind = 19 ∧ i = ⟨14, 0, 0, []⟩)
def UnI (x k : Nat) (i : InsM) : Prop :=
  (k = 5 ∧ i = ⟨11, slotP p x, 0, []⟩) ∨ (k = 6 ∧ i = ⟨10, 0, 0, []⟩) ∨ (k = 7 ∧ i = ⟨8, 0, 0, []⟩) ∨ (k = 8 ∧ i = ⟨9, 0, 0, []⟩) ∨ (k = 20 ∧ i = ⟨13, 0, 0, []⟩)
def PlainI (x : Nat) (nd : NodeM) (i : InsM) : Prop :=
  ((nd.kind = 10 ∨ nd.kind = 11) ∧ nd.l.length = 1 ∧ i = ⟨6, slotP p x, 0, []⟩) ∨ (nd.kind = 12 ∧ nd.l.length = 2 ∧ i = ⟨12, slotP p x, 0, []⟩) ∨ (nd.kind = 13 ∧ nd.l.length = 1 ∧ i = ⟨23, 0, 0, []⟩) ∨
  (nd.kind = 14 ∧ nd.l.length = 1 ∧ i = ⟨15, 0, 0, []⟩) ∨ (nd.kind = 17 ∧ nd.l.length = 0 ∧ i = ⟨22, 0, 0, []⟩) ∨ (nd.kind = 17 ∧ nd.l.length = 1 ∧ i = ⟨21, 0, 0, []⟩)
inductive Cd : Tk → Nat → Nat → Nat → List InsM → Prop where
  | leaf (x at_ : Nat) (nd : NodeM) (i : InsM) (hx : p.ns[x]? = some nd) (hl : nd.l = []) (hi : LeafI p x nd i) : Cd (.ex x) x (x + 1) at_ [i]
  | un (x at_ a u : Nat) (nd : NodeM) (i : InsM) (l : List InsM) (hx : p.ns[x]? = some nd) (hl : nd.l = [u]) (hi : UnI p x nd.kind i) (h : Cd (.ex u) a x at_ l) : Cd (.ex x) a (x + 1) at_ (l ++ [i])
  | bin (x at_ a b u v line : Nat) (y : List UInt8) (l m : List InsM) (hx : p.ns[x]? = some ⟨9, line, 0, y, [u, v]⟩) (hy : y ∈ allSigns) (h1 : y ≠ [38, 38]) (h2 : y ≠ [124, 124]) (hu : Cd (.ex u) a b at_ l) (hv : Cd (.ex v) b x (at_ + l.length) m) : Cd (.ex x) a (x + 1) at_ (l ++ m ++ [⟨7, 0, 0, y⟩])
  | early (x at_ a b u v line o : Nat) (y : List UInt8) (l m : List InsM) (hx : p.ns[x]? = some ⟨9, line, 0, y, [u, v]⟩) (hy : (y = [38, 38] ∧ o = 18) ∨ (y = [124, 124] ∧ o = 19)) (hu : Cd (.ex u) a b at_ l) (hv : Cd (.ex v) b x (at_ + l.length + 1) m) : Cd (.ex x) a (x + 1) at_ (l ++ [⟨o, ((at_ + l.length + 1 + m.length : Nat) : Int), 0, []⟩] ++ m)
  | call (x at_ a line j : Nat) (f : FuncM) (y : List UInt8) (ks : List Nat) (l : List InsM) (hx : p.ns[x]? = some ⟨21, line, 0, y, ks⟩) (hj : findF p.fs y = some j) (hf : p.fs[j]? = some f) (hp : f.params.length = ks.length) (h : Cd (.args ks) a x at_ l) : Cd (.ex x) a (x + 1) at_ (l ++ [⟨20, (j : Int), ks.length, []⟩])
  | argN (a at_ : Nat) : Cd (.args []) a a at_ []
  | argC (u at_ a b c : Nat) (ks : List Nat) (l m : List InsM) (h : Cd (.ex u) a b at_ l) (h2 : Cd (.args ks) b c (at_ + l.length) m) : Cd (.args (u :: ks)) a c at_ (l ++ m)
  | plain (x at_ a : Nat) (nd : NodeM) (i : InsM) (l : List InsM) (hx : p.ns[x]? = some nd) (hi : PlainI p x nd i) (h : Cd (.args nd.l) a x (at_ + 1) l) : Cd (.stm x) a (x + 1) at_ (⟨1, (x : Int), 0, []⟩ :: (l ++ [i]))
  | if2 (x at_ a b u v line : Nat) (l m : List InsM) (hx : p.ns[x]? = some ⟨15, line, 0, [], [u, v]⟩) (hu : Cd (.ex u) a b (at_ + 1) l) (hv : Cd (.blk v) b x (at_ + 1 + l.length + 1) m) : Cd (.stm x) a (x + 1) at_ (⟨1, (x : Int), 0, []⟩ :: (l ++ [⟨17, ((at_ + 1 + l.length + 1 + m.length : Nat) : Int), 0, []⟩] ++ m))
  | if3 (x at_ a b c u v t line : Nat) (l m n : List InsM) (hx : p.ns[x]? = some ⟨15, line, 0, [], [u, v, t]⟩) (hu : Cd (.ex u) a b (at_ + 1) l) (hv : Cd (.blk v) b c (at_ + 1 + l.length + 1) m) (ht : Cd (.blk t) c x (at_ + 1 + l.length + 1 + m.length + 1) n) :
      Cd (.stm x) a (x + 1) at_ (⟨1, (x : Int), 0, []⟩ :: (l ++ [⟨17, ((at_ + 1 + l.length + 1 + m.length + 1 : Nat) : Int), 0, []⟩] ++ (m ++ [⟨16, ((at_ + 1 + l.length + 1 + m.length + 1 + n.length : Nat) : Int), 0, []⟩]) ++ n))
  | loop (x at_ a b u v line : Nat) (l m : List InsM) (hx : p.ns[x]? = some ⟨16, line, 0, [], [u, v]⟩) (hu : Cd (.ex u) a b (at_ + 1) l) (hv : Cd (.blk v) b x (at_ + 1 + l.length + 1) m) : Cd (.stm x) a (x + 1) at_ (⟨1, (x : Int), 0, []⟩ :: (l ++ [⟨17, ((at_ + 1 + l.length + 1 + m.length + 1 : Nat) : Int), 0, []⟩] ++ (m ++ [⟨16, (at_ : Int), 0, []⟩])))
  | blk (x at_ a line : Nat) (ks : List Nat) (l : List InsM) (hx : p.ns[x]? = some ⟨18, line, 0, [], ks⟩) (h : Cd (.seq ks) a x at_ l) : Cd (.blk x) a (x + 1) at_ l
  | seqN (a at_ : Nat) : Cd (.seq []) a a at_ []
  | seqC (u at_ a b c : Nat) (ks : List Nat) (l m : List InsM) (h : Cd (.stm u) a b at_ l) (h2 : Cd (.seq ks) b c (at_ + l.length) m) : Cd (.seq (u :: ks)) a c at_ (l ++ m)
end
section
variable {p : ProgM}
def CallsOk (p : ProgM) : Prop := ∀ (x : Nat) (nd : NodeM), p.ns[x]? = some nd → nd.kind = 21 → ∃ j f, findF p.fs nd.name = some j ∧ p.fs[j]? = some f ∧ f.params.length = nd.l.length
theorem cd_ex (hn : NodesOk p.ns) : ∀ (f x : Nat) (nd : NodeM) (a at_ : Nat), p.ns[x]? = some nd → clsE nd.kind = true → Seg p.ns a nd.l x → x < f → Cd p (.ex x) a (x + 1) at_ (exprL p f x at_)
  | 0, x, nd, a, at_, _, _, _, h => absurd h (Nat.not_lt_zero _)
  | f + 1, x, nd, a, at_, hx, hc, hs, hf => by
    have ih := cd_ex hn f
    have hN := hn x nd hx
    have un : ∀ {u : Nat}, nd.l = [u] → Kid (p.ns.take x) clsE u → Cd p (.ex u) a x at_ (exprL p f u at_) := fun {u} e hu => by
      rw [e] at hs
      obtain ⟨n1, h1, h2, h3⟩ := seg1 hs
      rw [h3]
      exact ih u n1 a at_ h1 (kidTake hu h1) h2 (by omega)
    have h0 : nd.l = [] → a = x := fun e => by rw [e] at hs; exact (seg0 hs).symm
    simp only [exprL, hx]
    cases hN with
    | int line n h => have := h0 rfl; subst this; exact .leaf _ _ _ _ hx rfl (.inl ⟨rfl, by simp⟩)
    | bool line n h => have := h0 rfl; subst this; exact .leaf _ _ _ _ hx rfl (.inr (.inl ⟨rfl, by simp⟩))
    | text line y => have := h0 rfl; subst this; exact .leaf _ _ _ _ hx rfl (.inr (.inr (.inl ⟨rfl, by simp⟩)))
    | var line y => have := h0 rfl; subst this; exact .leaf _ _ _ _ hx rfl (.inr (.inr (.inr (.inl ⟨rfl, by simp⟩))))
    | index line y u hu =>
      have e : exprN p (exprL p f) x ⟨5, line, 0, y, [u]⟩ at_ = exprL p f u at_ ++ [⟨11, slotP p x, 0, []⟩] := by simp [exprN]
      rw [e]; exact .un _ _ _ _ _ _ _ hx rfl (.inl ⟨rfl, rfl⟩) (un rfl hu)
    | len line u hu =>
      have e : exprN p (exprL p f) x ⟨6, line, 0, [], [u]⟩ at_ = exprL p f u at_ ++ [⟨10, 0, 0, []⟩] := by simp [exprN]
      rw [e]; exact .un _ _ _ _ _ _ _ hx rfl (.inr (.inl ⟨rfl, rfl⟩)) (un rfl hu)
    | neg line u hu =>
      have e : exprN p (exprL p f) x ⟨7, line, 0, [], [u]⟩ at_ = exprL p f u at_ ++ [⟨8, 0, 0, []⟩] := by simp [exprN]
      rw [e]; exact .un _ _ _ _ _ _ _ hx rfl (.inr (.inr (.inl ⟨rfl, rfl⟩))) (un rfl hu)
    | not line u hu =>
      have e : exprN p (exprL p f) x ⟨8, line, 0, [], [u]⟩ at_ = exprL p f u at_ ++ [⟨9, 0, 0, []⟩] := by simp [exprN]
      rw [e]; exact .un _ _ _ _ _ _ _ hx rfl (.inr (.inr (.inr (.inl ⟨rfl, rfl⟩)))) (un rfl hu)
    | bin line y u v hy hu hv =>
      obtain ⟨n1, n2, h1, h2, h3, h4, h5⟩ := seg2 hs
      have b2 := h4.le
      have c1 := ih u n1 a at_ h1 (kidTake hu h1) h2 (by omega)
      have c2 := fun at_ => ih v n2 (u + 1) at_ h3 (kidTake hv h3) h4 (by omega)
      rw [show v + 1 = x by omega] at c2
      by_cases e1 : y = [38, 38]
      · subst e1
        have e : exprN p (exprL p f) x ⟨9, line, 0, [38, 38], [u, v]⟩ at_ = exprL p f u at_ ++ [⟨18, ((at_ + (exprL p f u at_).length + 1 + (exprL p f v (at_ + (exprL p f u at_).length + 1)).length : Nat) : Int), 0, []⟩] ++ exprL p f v (at_ + (exprL p f u at_).length + 1) := by simp [exprN, opBin]
        rw [e]; exact .early _ _ _ _ _ _ _ _ _ _ _ hx (.inl ⟨rfl, rfl⟩) c1 (c2 _)
      · by_cases e2 : y = [124, 124]
        · subst e2
          have e : exprN p (exprL p f) x ⟨9, line, 0, [124, 124], [u, v]⟩ at_ = exprL p f u at_ ++ [⟨19, ((at_ + (exprL p f u at_).length + 1 + (exprL p f v (at_ + (exprL p f u at_).length + 1)).length : Nat) : Int), 0, []⟩] ++ exprL p f v (at_ + (exprL p f u at_).length + 1) := by simp [exprN, opBin]
          rw [e]; exact .early _ _ _ _ _ _ _ _ _ _ _ hx (.inr ⟨rfl, rfl⟩) c1 (c2 _)
        · have e : exprN p (exprL p f) x ⟨9, line, 0, y, [u, v]⟩ at_ = exprL p f u at_ ++ exprL p f v (at_ + (exprL p f u at_).length) ++ [⟨7, 0, 0, y⟩] := by simp [exprN, opBin, e1, e2]
          rw [e]; exact .bin _ _ _ _ _ _ _ _ _ _ hx hy e1 e2 c1 (c2 _)
    | _ => simp [clsE] at hc
theorem cd_args (hn : NodesOk p.ns) : ∀ {l : List Nat} {a b : Nat} (at_ : Nat), Seg p.ns a l b → (∀ u ∈ l, ∃ nd, p.ns[u]? = some nd ∧ clsE nd.kind = true) → b ≤ p.ns.length → Cd p (.args l) a b at_ (seqL (exprL p p.ns.length) l at_)
  | [], a, b, at_, h, _, _ => by rw [seg0 h]; exact .argN _ _
  | u :: l, a, b, at_, h, hk, hb => by
    cases h with
    | cons _ _ _ _ nd hx h h2 =>
      obtain ⟨nd', hx', hc⟩ := hk u (List.mem_cons_self ..)
      rw [hx] at hx'; injection hx' with hx'; subst hx'
      have := h2.le
      exact .argC _ _ _ _ _ _ _ _ (cd_ex hn p.ns.length u nd a at_ hx hc h (by omega)) (cd_args hn _ h2 (fun y hy => hk y (List.mem_cons_of_mem _ hy)) hb)
theorem kids_some {x : Nat} {l : List Nat} {cls : Nat → Bool} (h : ∀ u ∈ l, Kid (p.ns.take x) cls u) : ∀ u ∈ l, ∃ nd, p.ns[u]? = some nd ∧ cls nd.kind = true := fun u hu => kid_some (h u hu)
theorem cd_call (hn : NodesOk p.ns) (hc : CallsOk p) {x a line : Nat} {y : List UInt8} {ks : List Nat} (at_ : Nat) (hx : p.ns[x]? = some ⟨21, line, 0, y, ks⟩) (hs : Seg p.ns a ks x) (hk : ∀ u ∈ ks, Kid (p.ns.take x) clsE u) : Cd p (.ex x) a (x + 1) at_ (callL p (exprL p p.ns.length) ⟨21, line, 0, y, ks⟩ at_) := by
  obtain ⟨j, f, h1, h2, h3⟩ := hc x _ hx rfl
  have hlt := (List.getElem?_eq_some_iff.1 hx).1
  dsimp only at h1 h3
  unfold callL
  dsimp only
  rw [h1]
  exact .call _ _ _ _ _ _ _ _ _ hx h1 h2 h3 (cd_args hn at_ hs (kids_some hk) (by omega))
theorem cd_right (hn : NodesOk p.ns) (hc : CallsOk p) {x a : Nat} {nd : NodeM} (at_ : Nat) (hx : p.ns[x]? = some nd) (hr : clsR nd.kind = true) (hs : Seg p.ns a nd.l x) : Cd p (.ex x) a (x + 1) at_ (rightL p (exprL p p.ns.length) x at_) := by
  have hlt := (List.getElem?_eq_some_iff.1 hx).1
  have hN := hn x nd hx
  unfold rightL
  rw [hx]
  dsimp only
  by_cases h19 : nd.kind = 19
  · rw [if_pos h19]
    cases hN <;> simp only at h19 <;> try omega
    have := seg0 hs
    subst this
    exact .leaf _ _ _ _ hx rfl (.inr (.inr (.inr (.inr ⟨rfl, rfl⟩))))
  · rw [if_neg h19]
    by_cases h20 : nd.kind = 20
    · rw [if_pos h20]
      cases hN <;> simp only at h20 <;> try omega
      rename_i line u hu
      obtain ⟨n1, h1, h2, h3⟩ := seg1 hs
      rw [show ([u].headD 0) = u from rfl]
      exact .un _ _ _ _ _ _ _ hx rfl (.inr (.inr (.inr (.inr ⟨rfl, rfl⟩)))) (by rw [h3]; exact cd_ex hn _ u n1 a at_ h1 (kidTake hu h1) h2 (by omega))
    · rw [if_neg h20]
      by_cases h21 : nd.kind = 21
      · rw [if_pos h21]
        cases hN <;> simp only at h21 <;> try omega
        rename_i line y ks hk
        exact cd_call hn hc at_ hx hs hk
      · rw [if_neg h21]
        have : clsE nd.kind = true := by
          simp only [clsR, Bool.or_eq_true, Bool.and_eq_true, decide_eq_true_eq] at hr
          rcases hr with hr | hr
          · exact hr
          · omega
        exact cd_ex hn _ x nd a at_ hx this hs (by omega)
theorem cd_one {l : List InsM} {u a b at_ : Nat} (h : Cd p (.ex u) a b at_ l) : Cd p (.args [u]) a b at_ l := by
  have := Cd.argC u at_ a b b [] l [] h (.argN _ _)
  rwa [List.append_nil] at this
theorem cd_two {l m : List InsM} {u v a b c at_ : Nat} (h : Cd p (.ex u) a b at_ l) (h2 : Cd p (.ex v) b c (at_ + l.length) m) : Cd p (.args [u, v]) a c at_ (l ++ m) := .argC u at_ a b c [v] l m h (cd_one h2)
theorem cd_stm (hn : NodesOk p.ns) (hc : CallsOk p) {bl : Nat → Nat → List InsM} {x a : Nat} (hbl : ∀ (v : Nat) (nd : NodeM) (a at_ : Nat), v < x → p.ns[v]? = some nd → nd.kind = 18 → Seg p.ns a nd.l v → Cd p (.blk v) a (v + 1) at_ (bl v at_)) {nd : NodeM} (at_ : Nat) (hx : p.ns[x]? = some nd) (hcl : clsS nd.kind = true) (hs : Seg p.ns a nd.l x) :
    Cd p (.stm x) a (x + 1) at_ (stmN p (exprL p p.ns.length) bl x nd at_) := by
  have hlt := (List.getElem?_eq_some_iff.1 hx).1
  have hN := hn x nd hx
  have ex1 : ∀ {u : Nat} (at_ : Nat), nd.l = [u] → Kid (p.ns.take x) clsE u → Cd p (.ex u) a x at_ (exprL p p.ns.length u at_) := fun {u} at_ e hu => by
    rw [e] at hs
    obtain ⟨n1, h1, h2, h3⟩ := seg1 hs
    rw [h3]
    exact cd_ex hn _ u n1 a at_ h1 (kidTake hu h1) h2 (by omega)
  have r1 : ∀ {u : Nat} (at_ : Nat), nd.l = [u] → Kid (p.ns.take x) clsR u → Cd p (.ex u) a x at_ (rightL p (exprL p p.ns.length) u at_) := fun {u} at_ e hu => by
    rw [e] at hs
    obtain ⟨n1, h1, h2, h3⟩ := seg1 hs
    rw [h3]
    exact cd_right hn hc at_ h1 (kidTake hu h1) h2
  cases hN with
  | let_ line y u hu =>
    have e : stmN p (exprL p p.ns.length) bl x ⟨10, line, 0, y, [u]⟩ at_ = ⟨1, (x : Int), 0, []⟩ :: (rightL p (exprL p p.ns.length) u (at_ + 1) ++ [⟨6, slotP p x, 0, []⟩]) := by simp [stmN]
    rw [e]
    exact .plain _ _ _ _ _ _ hx (.inl ⟨.inl rfl, rfl, rfl⟩) (cd_one (r1 _ rfl hu))
  | set line y u hu =>
    have e : stmN p (exprL p p.ns.length) bl x ⟨11, line, 0, y, [u]⟩ at_ = ⟨1, (x : Int), 0, []⟩ :: (rightL p (exprL p p.ns.length) u (at_ + 1) ++ [⟨6, slotP p x, 0, []⟩]) := by simp [stmN]
    rw [e]
    exact .plain _ _ _ _ _ _ hx (.inl ⟨.inr rfl, rfl, rfl⟩) (cd_one (r1 _ rfl hu))
  | put line y u v hu hv =>
    obtain ⟨n1, n2, h1, h2, h3, h4, h5⟩ := seg2 hs
    have b2 := h4.le
    have e : stmN p (exprL p p.ns.length) bl x ⟨12, line, 0, y, [u, v]⟩ at_ = ⟨1, (x : Int), 0, []⟩ :: ((exprL p p.ns.length u (at_ + 1) ++ exprL p p.ns.length v (at_ + 1 + (exprL p p.ns.length u (at_ + 1)).length)) ++ [⟨12, slotP p x, 0, []⟩]) := by simp [stmN]
    rw [e]
    refine .plain _ _ _ _ _ _ hx (.inr (.inl ⟨rfl, rfl, rfl⟩)) (cd_two (cd_ex hn _ u n1 a _ h1 (kidTake hu h1) h2 (by omega)) ?_)
    rw [h5]
    exact cd_ex hn _ v n2 (u + 1) _ h3 (kidTake hv h3) h4 (by omega)
  | do_ line u hu =>
    obtain ⟨n1, h1, h2, h3⟩ := seg1 hs
    have hk := kidTake hu h1
    have hN1 := hn u n1 h1
    have e : stmN p (exprL p p.ns.length) bl x ⟨13, line, 0, [], [u]⟩ at_ = ⟨1, (x : Int), 0, []⟩ :: (callL p (exprL p p.ns.length) n1 (at_ + 1) ++ [⟨23, 0, 0, []⟩]) := by simp [stmN, h1]
    rw [e]
    refine .plain _ _ _ _ _ _ hx (.inr (.inr (.inl ⟨rfl, rfl, rfl⟩))) (cd_one ?_)
    simp only [clsC, decide_eq_true_eq] at hk
    cases hN1 <;> simp only at hk <;> try omega
    rename_i line y ks hk2
    rw [h3]
    exact cd_call hn hc _ h1 h2 hk2
  | print line u hu =>
    have e : stmN p (exprL p p.ns.length) bl x ⟨14, line, 0, [], [u]⟩ at_ = ⟨1, (x : Int), 0, []⟩ :: (exprL p p.ns.length u (at_ + 1) ++ [⟨15, 0, 0, []⟩]) := by simp [stmN]
    rw [e]
    exact .plain _ _ _ _ _ _ hx (.inr (.inr (.inr (.inl ⟨rfl, rfl, rfl⟩)))) (cd_one (ex1 _ rfl hu))
  | ret0 line =>
    have := seg0 hs
    subst this
    have e : stmN p (exprL p p.ns.length) bl x ⟨17, line, 0, [], []⟩ at_ = ⟨1, (x : Int), 0, []⟩ :: ([] ++ [⟨22, 0, 0, []⟩]) := by simp [stmN]
    rw [e]
    exact .plain _ _ _ _ _ _ hx (.inr (.inr (.inr (.inr (.inl ⟨rfl, rfl, rfl⟩))))) (.argN _ _)
  | ret1 line u hu =>
    have e : stmN p (exprL p p.ns.length) bl x ⟨17, line, 0, [], [u]⟩ at_ = ⟨1, (x : Int), 0, []⟩ :: (exprL p p.ns.length u (at_ + 1) ++ [⟨21, 0, 0, []⟩]) := by simp [stmN]
    rw [e]
    exact .plain _ _ _ _ _ _ hx (.inr (.inr (.inr (.inr (.inr ⟨rfl, rfl, rfl⟩))))) (cd_one (ex1 _ rfl hu))
  | if2 line u v hu hv =>
    have hs' := hs
    obtain ⟨n1, n2, h1, h2, h3, h4, h5⟩ := seg2 hs
    have b2 := h4.le
    have e : stmN p (exprL p p.ns.length) bl x ⟨15, line, 0, [], [u, v]⟩ at_ = ⟨1, (x : Int), 0, []⟩ :: (exprL p p.ns.length u (at_ + 1) ++ [⟨17, ((at_ + 1 + (exprL p p.ns.length u (at_ + 1)).length + 1 + (bl v (at_ + 1 + (exprL p p.ns.length u (at_ + 1)).length + 1)).length : Nat) : Int), 0, []⟩] ++ bl v (at_ + 1 + (exprL p p.ns.length u (at_ + 1)).length + 1)) := by simp [stmN, testsL]
    rw [e]
    refine .if2 _ _ _ _ _ _ _ _ _ hx (cd_ex hn _ u n1 a _ h1 (kidTake hu h1) h2 (by omega)) ?_
    rw [h5]
    exact hbl v n2 _ _ (by omega) h3 (by have := kidTake hv h3; simpa [clsB] using this) h4
  | if3 line u v t hu hv ht =>
    cases hs with
    | cons _ _ _ _ n1 h1 h2 hs =>
      obtain ⟨n2, n3, h3, h4, h5, h6, h7⟩ := seg2 hs
      have b2 := h4.le
      have b3 := h6.le
      have e : stmN p (exprL p p.ns.length) bl x ⟨15, line, 0, [], [u, v, t]⟩ at_ = ⟨1, (x : Int), 0, []⟩ :: (exprL p p.ns.length u (at_ + 1) ++ [⟨17, ((at_ + 1 + (exprL p p.ns.length u (at_ + 1)).length + 1 + (bl v (at_ + 1 + (exprL p p.ns.length u (at_ + 1)).length + 1)).length + 1 : Nat) : Int), 0, []⟩] ++ (bl v (at_ + 1 + (exprL p p.ns.length u (at_ + 1)).length + 1) ++ [⟨16, ((at_ + 1 + (exprL p p.ns.length u (at_ + 1)).length + 1 + (bl v (at_ + 1 + (exprL p p.ns.length u (at_ + 1)).length + 1)).length + 1 + (bl t (at_ + 1 + (exprL p p.ns.length u (at_ + 1)).length + 1 + (bl v (at_ + 1 + (exprL p p.ns.length u (at_ + 1)).length + 1)).length + 1)).length : Nat) : Int), 0, []⟩]) ++ bl t (at_ + 1 + (exprL p p.ns.length u (at_ + 1)).length + 1 + (bl v (at_ + 1 + (exprL p p.ns.length u (at_ + 1)).length + 1)).length + 1)) := by
        simp [stmN, testsL, Nat.add_assoc]
      rw [e]
      refine .if3 _ _ _ _ _ _ _ _ _ _ _ _ hx (cd_ex hn _ u n1 a _ h1 (kidTake hu h1) h2 (by omega)) (hbl v n2 _ _ (by omega) h3 (by have := kidTake hv h3; simpa [clsB] using this) h4) ?_
      rw [h7]
      exact hbl t n3 _ _ (by omega) h5 (by have := kidTake ht h5; simpa [clsB] using this) h6
  | loop line u v hu hv =>
    obtain ⟨n1, n2, h1, h2, h3, h4, h5⟩ := seg2 hs
    have b2 := h4.le
    have e : stmN p (exprL p p.ns.length) bl x ⟨16, line, 0, [], [u, v]⟩ at_ = ⟨1, (x : Int), 0, []⟩ :: (exprL p p.ns.length u (at_ + 1) ++ [⟨17, ((at_ + 1 + (exprL p p.ns.length u (at_ + 1)).length + 1 + (bl v (at_ + 1 + (exprL p p.ns.length u (at_ + 1)).length + 1)).length + 1 : Nat) : Int), 0, []⟩] ++ (bl v (at_ + 1 + (exprL p p.ns.length u (at_ + 1)).length + 1) ++ [⟨16, (at_ : Int), 0, []⟩])) := by simp [stmN, testsL, Nat.add_assoc]
    rw [e]
    refine .loop _ _ _ _ _ _ _ _ _ hx (cd_ex hn _ u n1 a _ h1 (kidTake hu h1) h2 (by omega)) ?_
    rw [h5]
    exact hbl v n2 _ _ (by omega) h3 (by have := kidTake hv h3; simpa [clsB] using this) h4
  | _ => simp [clsS] at hcl
theorem cd_block (hn : NodesOk p.ns) (hc : CallsOk p) : ∀ (f v : Nat) (nd : NodeM) (a at_ : Nat), v < f → p.ns[v]? = some nd → nd.kind = 18 → Seg p.ns a nd.l v → Cd p (.blk v) a (v + 1) at_ (blockL p f v at_)
  | 0, v, nd, a, at_, h, _, _, _ => absurd h (Nat.not_lt_zero _)
  | f + 1, v, nd, a, at_, hf, hx, hk, hs => by
    have hN := hn v nd hx
    simp only [blockL, hx]
    cases hN <;> simp only at hk <;> try omega
    rename_i line ks hks
    have main : ∀ {l : List Nat} {a b : Nat} (at_ : Nat), b ≤ v → Seg p.ns a l b → (∀ u ∈ l, ∃ nd, p.ns[u]? = some nd ∧ clsS nd.kind = true) → Cd p (.seq l) a b at_ (seqL (fun a at_ => match p.ns[a]? with | none => [] | some na => stmN p (exprL p p.ns.length) (blockL p f) a na at_) l at_) := by
      intro l
      induction l with
      | nil => intro a b at_ _ h _; rw [seg0 h]; exact .seqN _ _
      | cons u l ih =>
        intro a b at_ hb h hk
        cases h with
        | cons _ _ _ _ nd hx h h2 =>
          obtain ⟨nd', hx', hc'⟩ := hk u (List.mem_cons_self ..)
          rw [hx] at hx'; injection hx' with hx'; subst hx'
          have := h2.le
          unfold seqL
          simp only [hx]
          refine .seqC _ _ _ _ _ _ _ _ ?_ (ih _ hb h2 (fun y hy => hk y (List.mem_cons_of_mem _ hy)))
          exact cd_stm hn hc (fun v nd a at_ hv => cd_block hn hc f v nd a at_ (by omega)) at_ hx hc' h
    exact .blk _ _ _ _ _ _ hx (main at_ (Nat.le_refl _) hs (kids_some hks))
end
end Go.Proofs.YtlbjicjinnnboaaGreatDoor
/- Programs as instructions: what a code does to the stack. -/
namespace Go.Proofs.YtlbjicjinnnboaaGreatDoor
open Go.RowKit
open Pw
set_option linter.unusedVariables false
set_option linter.unusedSimpArgs false
def takesI (x : InsM) : Nat :=
  if x.op = 6 ∨ x.op = 15 ∨ x.op = 17 ∨ x.op = 23 ∨ x.op = 21 ∨ x.op = 18 ∨ x.op = 19 then 1
  else if x.op = 7 then 2
  else if x.op = 8 ∨ x.op = 9 ∨ x.op = 10 ∨ x.op = 11 ∨ x.op = 13 then 1
  else if x.op = 12 then 2
  else if x.op = 20 then x.b else 0
def givesI (x : InsM) : Nat :=
  if x.op = 2 ∨ x.op = 3 ∨ x.op = 4 ∨ x.op = 5 ∨ x.op = 14 then 1
  else if x.op = 7 ∨ x.op = 8 ∨ x.op = 9 ∨ x.op = 10 ∨ x.op = 11 ∨ x.op = 13 ∨ x.op = 20 then 1 else 0
def toI (x : InsM) : Option Int := if x.op = 16 ∨ x.op = 17 ∨ x.op = 18 ∨ x.op = 19 then some x.a else none
def fallsI (x : InsM) : Bool := !(decide (x.op = 16) || decide (x.op = 21) || decide (x.op = 22))
def safeI (x : InsM) : Bool := decide (x.op = 1) || decide (x.op = 22) || decide (x.op = 16)
def afterI (d : Nat) (x : InsM) : Nat := d - takesI x + givesI x
def leftI (d : Nat) (x : InsM) : Nat := if x.op = 18 ∨ x.op = 19 then afterI d x + 1 else afterI d x
def stepI (d : Nat) (x : InsM) : Nat := if fallsI x then afterI d x else 0
def scanI : Nat → List InsM → Nat
  | d, [] => d
  | d, x :: l => scanI (stepI d x) l
theorem scanI_app : ∀ (d : Nat) (l m : List InsM), scanI d (l ++ m) = scanI (scanI d l) m
  | _, [], _ => rfl
  | d, x :: l, m => scanI_app (stepI d x) l m
section
variable (T : Int → Nat → Prop)
def okI (d : Nat) (x : InsM) : Prop := takesI x ≤ d ∧ (safeI x = true → d = 0) ∧ ∀ t, toI x = some t → T t (leftI d x)
def GoodI : Nat → List InsM → Prop
  | _, [] => True
  | d, x :: l => okI T d x ∧ GoodI (stepI d x) l
theorem GoodI.app : ∀ {d : Nat} {l m : List InsM}, GoodI T d l → GoodI T (scanI d l) m → GoodI T d (l ++ m)
  | _, [], _, _, h => h
  | d, x :: l, m, h, g => ⟨h.1, GoodI.app h.2 g⟩
def EnvI (d at_ : Nat) (l : List InsM) : Prop := ∀ j, j ≤ l.length → T ((at_ + j : Nat) : Int) (scanI d (l.take j))
end
def adjI : Bool → List InsM → Prop
  | _, [] => True
  | f, x :: l => (f = true ∨ safeI x = true) ∧ adjI (fallsI x) l
def lastI : Bool → List InsM → Bool
  | f, [] => f
  | _, x :: l => lastI (fallsI x) l
theorem adjI.app : ∀ {f : Bool} {l m : List InsM}, adjI f l → adjI (lastI f l) m → adjI f (l ++ m)
  | _, [], _, _, h => h
  | _, x :: l, m, h, g => ⟨h.1, adjI.app h.2 g⟩
theorem adjI.one {f : Bool} {x : InsM} (h : f = true ∨ safeI x = true) : adjI f [x] := ⟨h, trivial⟩
theorem lastI_app : ∀ (f : Bool) (l m : List InsM), lastI f (l ++ m) = lastI (lastI f l) m
  | _, [], _ => rfl
  | _, x :: l, m => lastI_app (fallsI x) l m
section
variable {T : Int → Nat → Prop} {d at_ : Nat} {l m : List InsM}
theorem EnvI.left (h : EnvI T d at_ (l ++ m)) : EnvI T d at_ l := fun j hj => by
  have := h j (by rw [List.length_append]; omega)
  rwa [List.take_append_of_le_length hj] at this
theorem EnvI.right (h : EnvI T d at_ (l ++ m)) : EnvI T (scanI d l) (at_ + l.length) m := fun j hj => by
  have := h (l.length + j) (by rw [List.length_append]; omega)
  rwa [List.take_length_add_append, scanI_app, ← Nat.add_assoc] at this
theorem EnvI.end_ (h : EnvI T d at_ l) : T ((at_ + l.length : Nat) : Int) (scanI d l) := by
  have := h l.length (Nat.le_refl _)
  rwa [List.take_length] at this
theorem EnvI.start (h : EnvI T d at_ l) : T (at_ : Int) d := h 0 (Nat.zero_le _)
theorem EnvI.cons {x : InsM} (h : EnvI T d at_ (x :: l)) : EnvI T (stepI d x) (at_ + 1) l := EnvI.right (l := [x]) h
end
def behT : Tk → Nat → Nat
  | .ex _, d => d + 1
  | .args l, d => d + l.length
  | _, d => d
def isT : Tk → Bool
  | .ex _ => true
  | .args _ => true
  | _ => false
structure StkI (T : Int → Nat → Prop) (t : Tk) (d : Nat) (l : List InsM) : Prop where
  good : GoodI T d l
  scan : scanI d l = behT t d
  adj : ∀ f : Bool, (isT t = true → f = true) → adjI f l
  last : isT t = true → lastI true l = true
section
variable {p : ProgM}
theorem stk_any {T : Int → Nat → Prop} {t : Tk} {a b at_ : Nat} {l : List InsM} (h : Cd p t a b at_ l) : ∀ d, (isT t = false → d = 0) → EnvI T d at_ l → StkI T t d l := by
  induction h with
  | leaf x at_ nd i hx hl hi =>
    intro d _ he
    rcases hi with ⟨_, rfl⟩ | ⟨_, rfl⟩ | ⟨_, rfl⟩ | ⟨_, rfl⟩ | ⟨_, rfl⟩ <;>
    exact ⟨⟨⟨Nat.zero_le _, fun h => (by simp [safeI] at h), fun t h => (by simp [toI] at h)⟩, trivial⟩, rfl, fun f hf => ⟨.inl (hf rfl), trivial⟩, fun _ => rfl⟩
  | un x at_ a u nd i l hx hl hi h ih =>
    intro d _ he
    obtain ⟨g, s, ad, la⟩ := ih d (fun h => by cases h) he.left
    have s : scanI d l = d + 1 := s
    have key : takesI i = 1 ∧ givesI i = 1 ∧ safeI i = false ∧ toI i = none ∧ fallsI i = true := by
      rcases hi with ⟨_, rfl⟩ | ⟨_, rfl⟩ | ⟨_, rfl⟩ | ⟨_, rfl⟩ | ⟨_, rfl⟩ <;> exact ⟨rfl, rfl, rfl, rfl, rfl⟩
    obtain ⟨k1, k2, k3, k4, k5⟩ := key
    refine ⟨g.app _ ?_, ?_, fun f hf => (ad f hf).app (adjI.one (.inl ?_)), fun _ => by rw [lastI_app, la rfl]; exact k5⟩
    · rw [s]; exact ⟨⟨(by omega), fun h => (by rw [k3] at h; cases h), fun t h => (by rw [k4] at h; cases h)⟩, trivial⟩
    · rw [scanI_app, s]; show scanI (stepI _ _) [] = _; simp only [scanI, stepI, k5, if_true, afterI, k1, k2, behT]; omega
    · rw [hf rfl]; exact la rfl
  | bin x at_ a b u v line y l m hx hy h1 h2 hu hv ihu ihv =>
    intro d _ he
    obtain ⟨g, s, ad, la⟩ := ihu d (fun h => by cases h) he.left.left
    have s : scanI d l = d + 1 := s
    have he2 := he.left.right
    rw [s] at he2
    obtain ⟨g2, s2, ad2, la2⟩ := ihv (d + 1) (fun h => by cases h) he2
    have s2 : scanI (d + 1) m = d + 1 + 1 := s2
    refine ⟨(g.app _ (by rw [s]; exact g2)).app _ ?_, ?_, fun f hf => ((ad f hf).app ?_).app (adjI.one (.inl ?_)), fun _ => by rw [lastI_app, lastI_app, la rfl, la2 rfl]; rfl⟩
    · rw [scanI_app, s, s2]; exact ⟨⟨(by show 2 ≤ _; omega), fun h => (by simp [safeI] at h), fun t h => (by simp [toI] at h)⟩, trivial⟩
    · rw [scanI_app, scanI_app, s, s2]; show d + 1 + 1 - 2 + 1 = d + 1; omega
    · rw [hf rfl, la rfl]; exact ad2 true (fun _ => rfl)
    · rw [hf rfl, lastI_app, la rfl]; exact la2 rfl
  | early x at_ a b u v line o y l m hx hy hu hv ihu ihv =>
    intro d _ he
    have ho : o = 18 ∨ o = 19 := hy.elim (fun h => .inl h.2) (fun h => .inr h.2)
    obtain ⟨g, s, ad, la⟩ := ihu d (fun h => by cases h) he.left.left
    have s : scanI d l = d + 1 := s
    have k1 : takesI ⟨o, ((at_ + l.length + 1 + m.length : Nat) : Int), 0, []⟩ = 1 := by rcases ho with rfl | rfl <;> rfl
    have k2 : givesI ⟨o, ((at_ + l.length + 1 + m.length : Nat) : Int), 0, []⟩ = 0 := by rcases ho with rfl | rfl <;> rfl
    have k3 : safeI ⟨o, ((at_ + l.length + 1 + m.length : Nat) : Int), 0, []⟩ = false := by rcases ho with rfl | rfl <;> rfl
    have k4 : toI ⟨o, ((at_ + l.length + 1 + m.length : Nat) : Int), 0, []⟩ = some ((at_ + l.length + 1 + m.length : Nat) : Int) := by rcases ho with rfl | rfl <;> rfl
    have k5 : fallsI ⟨o, ((at_ + l.length + 1 + m.length : Nat) : Int), 0, []⟩ = true := by rcases ho with rfl | rfl <;> rfl
    have k6 : ∀ d, stepI d ⟨o, ((at_ + l.length + 1 + m.length : Nat) : Int), 0, []⟩ = d - 1 := fun d => by simp only [stepI, k5, if_true, afterI, k1, k2]; omega
    have k7 : leftI (d + 1) ⟨o, ((at_ + l.length + 1 + m.length : Nat) : Int), 0, []⟩ = d + 1 := by simp only [leftI, ho, if_true, afterI, k1, k2]; omega
    have hend := he.end_
    have he2 := he.right
    rw [scanI_app, s, show scanI (d + 1) [(⟨o, ((at_ + l.length + 1 + m.length : Nat) : Int), 0, []⟩ : InsM)] = d + 1 - 1 from k6 (d + 1), show d + 1 - 1 = d by omega, List.length_append, List.length_singleton, ← Nat.add_assoc] at he2
    obtain ⟨g2, s2, ad2, la2⟩ := ihv d (fun h => by cases h) he2
    have s2 : scanI d m = d + 1 := s2
    have s3 : scanI d (l ++ [(⟨o, ((at_ + l.length + 1 + m.length : Nat) : Int), 0, []⟩ : InsM)]) = d := by rw [scanI_app, s]; exact (k6 (d + 1)).trans (by omega)
    refine ⟨(g.app _ ?_).app _ (by rw [s3]; exact g2), ?_, fun f hf => ((ad f hf).app (adjI.one (.inl ?_))).app ?_, fun _ => ?_⟩
    · rw [s]; refine ⟨⟨(by rw [k1]; omega), fun h => (by rw [k3] at h; cases h), fun t h => ?_⟩, trivial⟩
      rw [k4] at h; injection h with h; subst h
      rw [k7]
      rw [scanI_app, s3, s2] at hend
      rw [List.length_append, List.length_append, List.length_singleton, ← Nat.add_assoc, ← Nat.add_assoc] at hend
      exact hend
    · rw [scanI_app, s3]; exact s2
    · rw [hf rfl]; exact la rfl
    · rw [lastI_app, hf rfl, la rfl]; show adjI (fallsI _) m; rw [k5]; exact ad2 true (fun _ => rfl)
    · rw [lastI_app, lastI_app, la rfl]; show lastI (fallsI _) m = true; rw [k5]; exact la2 rfl
  | call x at_ a line j f y ks l hx hj hf hp h ih =>
    intro d _ he
    obtain ⟨g, s, ad, la⟩ := ih d (fun h => by cases h) he.left
    have s : scanI d l = d + ks.length := s
    refine ⟨g.app _ ?_, ?_, fun f hf => (ad f hf).app (adjI.one (.inl ?_)), fun _ => by rw [lastI_app, la rfl]; rfl⟩
    · rw [s]; exact ⟨⟨(by show ks.length ≤ _; omega), fun h => (by simp [safeI] at h), fun t h => (by simp [toI] at h)⟩, trivial⟩
    · rw [scanI_app, s]; show d + ks.length - ks.length + 1 = d + 1; omega
    · rw [hf rfl]; exact la rfl
  | argN a at_ => intro d _ _; exact ⟨trivial, rfl, fun _ _ => trivial, fun _ => rfl⟩
  | argC u at_ a b c ks l m h h2 ih ih2 =>
    intro d _ he
    obtain ⟨g, s, ad, la⟩ := ih d (fun h => by cases h) he.left
    have s : scanI d l = d + 1 := s
    have he2 := he.right
    rw [s] at he2
    obtain ⟨g2, s2, ad2, la2⟩ := ih2 (d + 1) (fun h => by cases h) he2
    have s2 : scanI (d + 1) m = d + 1 + ks.length := s2
    refine ⟨g.app _ (by rw [s]; exact g2), ?_, fun f hf => (ad f hf).app ?_, fun _ => by rw [lastI_app, la rfl]; exact la2 rfl⟩
    · rw [scanI_app, s, s2]; show _ = d + (ks.length + 1); omega
    · rw [hf rfl, la rfl]; exact ad2 true (fun _ => rfl)
  | plain x at_ a nd i l hx hi h ih =>
    intro d hd he
    have hd := hd rfl
    subst hd
    have he2 : EnvI T 0 (at_ + 1) (l ++ [i]) := he.cons
    obtain ⟨g, s, ad, la⟩ := ih 0 (fun h => by cases h) he2.left
    have s : scanI 0 l = 0 + nd.l.length := s
    have key : takesI i = nd.l.length ∧ givesI i = 0 ∧ (safeI i = true → nd.l.length = 0) ∧ toI i = none := by
      rcases hi with ⟨_, h, rfl⟩ | ⟨_, h, rfl⟩ | ⟨_, h, rfl⟩ | ⟨_, h, rfl⟩ | ⟨_, h, rfl⟩ | ⟨_, h, rfl⟩ <;> refine ⟨by rw [h]; rfl, rfl, fun h2 => ?_, rfl⟩ <;> first | exact h | (simp [safeI] at h2)
    obtain ⟨k1, k2, k3, k4⟩ := key
    refine ⟨⟨⟨Nat.zero_le _, fun _ => rfl, fun t h => by simp [toI] at h⟩, g.app _ ?_⟩, ?_, fun f _ => ⟨.inr rfl, (ad true (fun _ => rfl)).app ⟨.inl (la rfl), trivial⟩⟩, fun h => by cases h⟩
    · show GoodI T (scanI 0 l) [i]
      rw [s]; exact ⟨⟨(by omega), fun h => (by have := k3 h; omega), fun t h => (by rw [k4] at h; cases h)⟩, trivial⟩
    · show scanI 0 (l ++ [i]) = 0
      rw [scanI_app, s]; show stepI _ i = 0; simp only [stepI, afterI, k1, k2]; split <;> omega
  | if2 x at_ a b u v line l m hx hu hv ihu ihv =>
    intro d hd he
    have hd := hd rfl
    subst hd
    have he2 : EnvI T 0 (at_ + 1) (l ++ [⟨17, ((at_ + 1 + l.length + 1 + m.length : Nat) : Int), 0, []⟩] ++ m) := he.cons
    obtain ⟨g, s, ad, la⟩ := ihu 0 (fun h => by cases h) he2.left.left
    have s : scanI 0 l = 1 := s
    have s3 : scanI 0 (l ++ [(⟨17, ((at_ + 1 + l.length + 1 + m.length : Nat) : Int), 0, []⟩ : InsM)]) = 0 := by rw [scanI_app, s]; rfl
    have he3 := he2.right
    rw [s3, List.length_append, List.length_singleton, ← Nat.add_assoc] at he3
    obtain ⟨g2, s2, ad2, _⟩ := ihv 0 (fun _ => rfl) he3
    have s2 : scanI 0 m = 0 := s2
    have hend := he2.end_
    rw [scanI_app, s3, s2, List.length_append, List.length_append, List.length_singleton, ← Nat.add_assoc, ← Nat.add_assoc] at hend
    refine ⟨⟨⟨Nat.zero_le _, fun _ => rfl, fun t h => by simp [toI] at h⟩, (g.app _ ?_).app _ ?_⟩, ?_, fun f _ => ⟨.inr rfl, ((ad true (fun _ => rfl)).app (adjI.one (.inl (la rfl)))).app ?_⟩, fun h => by cases h⟩
    · show GoodI T (scanI 0 l) _
      rw [s]; exact ⟨⟨Nat.le_refl _, fun h => (by simp [safeI] at h), fun t h => (by injection h with h; subst h; exact hend)⟩, trivial⟩
    · show GoodI T (scanI 0 _) m
      rw [s3]; exact g2
    · show scanI 0 (l ++ _ ++ m) = 0
      rw [scanI_app, s3, s2]
    · exact ad2 _ (fun h => by cases h)
  | if3 x at_ a b c u v t line l m n hx hu hv ht ihu ihv iht =>
    intro d hd he
    have hd := hd rfl
    subst hd
    have he2 : EnvI T 0 (at_ + 1) (l ++ [⟨17, ((at_ + 1 + l.length + 1 + m.length + 1 : Nat) : Int), 0, []⟩] ++ (m ++ [⟨16, ((at_ + 1 + l.length + 1 + m.length + 1 + n.length : Nat) : Int), 0, []⟩]) ++ n) := he.cons
    obtain ⟨g, s, ad, la⟩ := ihu 0 (fun h => by cases h) he2.left.left.left
    have s : scanI 0 l = 1 := s
    have s3 : scanI 0 (l ++ [(⟨17, ((at_ + 1 + l.length + 1 + m.length + 1 : Nat) : Int), 0, []⟩ : InsM)]) = 0 := by rw [scanI_app, s]; rfl
    have he3 := he2.left.right
    rw [s3, List.length_append, List.length_singleton, ← Nat.add_assoc] at he3
    obtain ⟨g2, s2, ad2, _⟩ := ihv 0 (fun _ => rfl) he3.left
    have s2 : scanI 0 m = 0 := s2
    have s4 : scanI 0 (m ++ [(⟨16, ((at_ + 1 + l.length + 1 + m.length + 1 + n.length : Nat) : Int), 0, []⟩ : InsM)]) = 0 := by rw [scanI_app, s2]; rfl
    have he4 := he2.right
    rw [scanI_app, s3, s4, List.length_append, List.length_append, List.length_append, List.length_singleton, List.length_singleton] at he4
    have he4 : EnvI T 0 (at_ + 1 + l.length + 1 + m.length + 1) n := by
      rw [show at_ + 1 + (l.length + 1 + (m.length + 1)) = at_ + 1 + l.length + 1 + m.length + 1 by omega] at he4; exact he4
    obtain ⟨g5, s5, ad5, _⟩ := iht 0 (fun _ => rfl) he4
    have s5 : scanI 0 n = 0 := s5
    have hmid := he4.start
    have hend := he4.end_
    rw [s5] at hend
    refine ⟨⟨⟨Nat.zero_le _, fun _ => rfl, fun t h => by simp [toI] at h⟩, ((g.app _ ?_).app _ ((show GoodI T (scanI 0 _) m from ?_).app _ ?_)).app _ ?_⟩, ?_, fun f _ => ⟨.inr rfl, (((ad true (fun _ => rfl)).app (adjI.one (.inl (la rfl)))).app ((ad2 _ (fun h => by cases h)).app (adjI.one (.inr rfl)))).app ?_⟩, fun h => by cases h⟩
    · show GoodI T (scanI 0 l) _
      rw [s]; exact ⟨⟨Nat.le_refl _, fun h => (by simp [safeI] at h), fun t h => (by injection h with h; subst h; exact hmid)⟩, trivial⟩
    · rw [s3]; exact g2
    · show GoodI T (scanI (scanI 0 _) m) _
      rw [s3, s2]; exact ⟨⟨Nat.le_refl _, fun _ => rfl, fun t h => (by injection h with h; subst h; exact hend)⟩, trivial⟩
    · show GoodI T (scanI 0 _) n
      rw [scanI_app, s3, s4]; exact g5
    · show scanI 0 (l ++ _ ++ _ ++ n) = 0
      rw [scanI_app, scanI_app, s3, s4, s5]
    · exact ad5 _ (fun h => by cases h)
  | loop x at_ a b u v line l m hx hu hv ihu ihv =>
    intro d hd he
    have hd := hd rfl
    subst hd
    have hst := he.start
    have he2 : EnvI T 0 (at_ + 1) (l ++ [⟨17, ((at_ + 1 + l.length + 1 + m.length + 1 : Nat) : Int), 0, []⟩] ++ (m ++ [⟨16, (at_ : Int), 0, []⟩])) := he.cons
    obtain ⟨g, s, ad, la⟩ := ihu 0 (fun h => by cases h) he2.left.left
    have s : scanI 0 l = 1 := s
    have s3 : scanI 0 (l ++ [(⟨17, ((at_ + 1 + l.length + 1 + m.length + 1 : Nat) : Int), 0, []⟩ : InsM)]) = 0 := by rw [scanI_app, s]; rfl
    have he3 := he2.right
    rw [s3, List.length_append, List.length_singleton, ← Nat.add_assoc] at he3
    obtain ⟨g2, s2, ad2, _⟩ := ihv 0 (fun _ => rfl) he3.left
    have s2 : scanI 0 m = 0 := s2
    have s4 : scanI 0 (m ++ [(⟨16, (at_ : Int), 0, []⟩ : InsM)]) = 0 := by rw [scanI_app, s2]; rfl
    have hend := he3.end_
    rw [s4, List.length_append, List.length_singleton, ← Nat.add_assoc] at hend
    refine ⟨⟨⟨Nat.zero_le _, fun _ => rfl, fun t h => by simp [toI] at h⟩, (g.app _ ?_).app _ ((show GoodI T (scanI 0 _) m from ?_).app _ ?_)⟩, ?_, fun f _ => ⟨.inr rfl, ((ad true (fun _ => rfl)).app (adjI.one (.inl (la rfl)))).app ((ad2 _ (fun h => by cases h)).app (adjI.one (.inr rfl)))⟩, fun h => by cases h⟩
    · show GoodI T (scanI 0 l) _
      rw [s]; exact ⟨⟨Nat.le_refl _, fun h => (by simp [safeI] at h), fun t h => (by injection h with h; subst h; exact hend)⟩, trivial⟩
    · rw [s3]; exact g2
    · show GoodI T (scanI (scanI 0 _) m) _
      rw [s3, s2]; exact ⟨⟨Nat.le_refl _, fun _ => rfl, fun t h => (by injection h with h; subst h; exact hst)⟩, trivial⟩
    · show scanI 0 (l ++ _ ++ _) = 0
      rw [scanI_app, s3, s4]
  | blk x at_ a line ks l hx h ih =>
    intro d hd he
    obtain ⟨g, s, ad, la⟩ := ih d hd he
    exact ⟨g, s, ad, fun h => by cases h⟩
  | seqN a at_ => intro d _ _; exact ⟨trivial, rfl, fun _ _ => trivial, fun h => by cases h⟩
  | seqC u at_ a b c ks l m h h2 ih ih2 =>
    intro d hd he
    obtain ⟨g, s, ad, _⟩ := ih d hd he.left
    have s : scanI d l = d := s
    have he2 := he.right
    rw [s] at he2
    obtain ⟨g2, s2, ad2, _⟩ := ih2 d hd he2
    have s2 : scanI d m = d := s2
    exact ⟨g.app _ (by rw [s]; exact g2), by rw [scanI_app, s]; exact s2, fun f hf => (ad f hf).app (ad2 _ (fun h => by cases h)), fun h => by cases h⟩
end
end Go.Proofs.YtlbjicjinnnboaaGreatDoor
/- Programs as instructions: all functions; what the whole code does to the stack. -/
namespace Go.Proofs.YtlbjicjinnnboaaGreatDoor
open Go.RowKit
open Pw
set_option linter.unusedVariables false
set_option linter.unusedSimpArgs false
inductive FnsCd (p : ProgM) : Nat → List FuncM → Nat → Nat → Nat → List InsM → List Nat → Prop where
  | nil (k a at_ : Nat) : FnsCd p k [] a a at_ [] []
  | cons (k a c b at_ : Nat) (f : FuncM) (l : List FuncM) (m n : List InsM) (en : List Nat) (h : Cd p (.blk f.body) a c at_ m) (h2 : FnsCd p (k + 1) l c b (at_ + m.length + 1) n en) : FnsCd p k (f :: l) a b at_ (m ++ [⟨22, (f.ret : Int), 0, []⟩] ++ n) (at_ :: en)
section
variable {p : ProgM}
theorem map_len {α : Type} {l : List Nat} {ty : Nat → Nat} {m : List (α × Nat)} (h : l.map ty = m.map (·.2)) : m.length = l.length := by
  have := congrArg List.length h
  simpa using this.symm
theorem FnsDone.at_any {ns : List NodeM} {fs l : List FuncM} {s : CkS} {k a b : Nat} {zs : List Nat} (h : FnsDone ns fs s k l zs a b) {y : Nat} {nd : NodeM} (h1 : a ≤ y) (h2 : y < b) (hy : ns[y]? = some nd) : ∃ j z, k ≤ j ∧ j < k + l.length ∧ zs[j - k]? = some z ∧ NodeAt fs j z s y nd := by
  induction h with
  | nil k a => omega
  | cons k z f l zs a c b h h3 ih =>
    by_cases hc : y < c
    · exact ⟨k, z, Nat.le_refl _, by simp, by simp, h.at_ y nd h1 hc hy⟩
    · obtain ⟨j, z', j1, j2, j3, j4⟩ := ih (by omega) h2
      refine ⟨j, z', by omega, by rw [List.length_cons]; omega, ?_, j4⟩
      rw [show j - k = (j - (k + 1)) + 1 by omega, List.getElem?_cons_succ]; exact j3
theorem calls_ok (hi : ProgIs p) : CallsOk p := fun x nd hx hk => by
  have hlt := (List.getElem?_eq_some_iff.1 hx).1
  obtain ⟨j, z, _, _, _, h⟩ := hi.done.at_any (Nat.zero_le _) hlt hx
  obtain ⟨t, _, ht⟩ := h.ty
  simp only [KTy, hk, show ¬ ((21 : Nat) = 1 ∨ (21 : Nat) = 19) by decide, show ¬ ((21 : Nat) = 5 ∨ (21 : Nat) = 7) by decide, show ¬ (21 : Nat) = 6 by decide, show ¬ (21 : Nat) = 2 by decide, show ¬ (21 : Nat) = 8 by decide, show ¬ (21 : Nat) = 3 by decide, show ¬ (21 : Nat) = 20 by decide, show ¬ (21 : Nat) = 9 by decide, show ¬ (21 : Nat) = 4 by decide, if_false, if_true] at ht
  obtain ⟨j, f, h1, h2, h3, _⟩ := ht
  exact ⟨j, f, h1, h2, map_len h3⟩
theorem fnsL_cd (hi : ProgIs p) : ∀ {l : List FuncM} {k a b : Nat} {ins : List InsM} {en : List Nat}, Seg p.ns a (l.map (·.body)) b → b ≤ p.ns.length → (∀ f ∈ l, Kid p.ns clsB f.body) → ∃ code es, fnsL p l ins en = (ins ++ code, en ++ es) ∧ FnsCd p k l a b ins.length code es
  | [], k, a, b, ins, en, h, _, _ => by rw [seg0 h]; exact ⟨[], [], by simp [fnsL], .nil _ _ _⟩
  | f :: l, k, a, b, ins, en, h, hb, hk => by
    cases h with
    | cons _ _ _ _ nd hx h h2 =>
      obtain ⟨c, hc, hkk⟩ := hk f (List.mem_cons_self ..)
      rw [hx] at hc; injection hc with hc; subst hc
      have := h2.le
      have hle := h.le
      have hcd := cd_block (p := p) hi.tree.ok.nodes (calls_ok hi) p.ns.length f.body nd a ins.length ((List.getElem?_eq_some_iff.1 hx).1) hx (by simpa [clsB] using hkk) h
      obtain ⟨code, es, e, hf⟩ := fnsL_cd hi (k := k + 1) (ins := ins ++ fnL p f ins.length) (en := en ++ [ins.length]) h2 hb (fun g hg => hk g (List.mem_cons_of_mem _ hg))
      refine ⟨fnL p f ins.length ++ code, ins.length :: es, ?_, ?_⟩
      · unfold fnsL; rw [e]; simp
      · unfold fnL at hf ⊢
        rw [List.length_append, List.length_append, List.length_singleton, ← Nat.add_assoc] at hf
        exact .cons _ _ _ _ _ _ _ _ _ _ hcd hf
theorem comp_cd (hi : ProgIs p) : FnsCd p 0 p.fs 0 p.ns.length 0 (compM p).ins (compM p).entry := by
  obtain ⟨code, es, e, h⟩ := fnsL_cd (p := p) hi (k := 0) (ins := []) (en := []) hi.tree.seg (Nat.le_refl _) hi.tree.ok.bodies
  unfold compM
  rw [e]
  exact h
theorem FnsCd.elen {k a b at_ : Nat} {l : List FuncM} {code : List InsM} {en : List Nat} (h : FnsCd p k l a b at_ code en) : en.length = l.length := by
  induction h with
  | nil => rfl
  | cons k a c b at_ f l m n en h h2 ih => simp [ih]
theorem FnsCd.entry {k a b at_ : Nat} {l : List FuncM} {code : List InsM} {en : List Nat} (h : FnsCd p k l a b at_ code en) : ∀ e ∈ en, at_ ≤ e ∧ e < at_ + code.length := by
  induction h with
  | nil => intro e he; cases he
  | cons k a c b at_ f l m n en h h2 ih =>
    intro e he
    rw [List.length_append, List.length_append, List.length_singleton]
    rcases List.mem_cons.1 he with rfl | he
    · omega
    · have := ih e he; omega
theorem stk_fns {T : Int → Nat → Prop} {k a b at_ : Nat} {l : List FuncM} {code : List InsM} {en : List Nat} (h : FnsCd p k l a b at_ code en) : EnvI T 0 at_ code → GoodI T 0 code ∧ scanI 0 code = 0 ∧ (∀ f, adjI f code) ∧ ∀ e ∈ en, T (e : Int) 0 := by
  induction h with
  | nil => intro _; exact ⟨trivial, rfl, fun _ => trivial, fun e he => by cases he⟩
  | cons k a c b at_ f l m n en h h2 ih =>
    intro he
    obtain ⟨g, s, ad, _⟩ := stk_any h 0 (fun _ => rfl) he.left.left
    have s : scanI 0 m = 0 := s
    have s3 : scanI 0 (m ++ [(⟨22, (f.ret : Int), 0, []⟩ : InsM)]) = 0 := by rw [scanI_app, s]; rfl
    have he2 := he.right
    rw [s3, List.length_append, List.length_singleton, ← Nat.add_assoc] at he2
    obtain ⟨i1, i2, i3, i4⟩ := ih he2
    refine ⟨(g.app _ ?_).app _ (by rw [s3]; exact i1), by rw [scanI_app, s3]; exact i2, fun f => ((ad f (fun h => by cases h)).app (adjI.one (.inr rfl))).app (i3 _), fun e he' => ?_⟩
    · rw [s]; exact ⟨⟨Nat.zero_le _, fun _ => rfl, fun t h => by simp [toI] at h⟩, trivial⟩
    · rcases List.mem_cons.1 he' with rfl | he'
      · exact he.start
      · exact i4 e he'
def deepI (ins : List InsM) (j : Nat) : Nat := scanI 0 (ins.take j)
def TI (ins : List InsM) (t : Int) (n : Nat) : Prop := ∃ j : Nat, t = j ∧ j ≤ ins.length ∧ deepI ins j = n
theorem good_get {T : Int → Nat → Prop} : ∀ {l : List InsM} {d j : Nat} {x : InsM}, GoodI T d l → l[j]? = some x → okI T (scanI d (l.take j)) x
  | [], _, _, _, _, h => by simp at h
  | y :: l, d, 0, x, g, h => by simp at h; subst h; exact g.1
  | y :: l, d, j + 1, x, g, h => good_get (l := l) g.2 (by simpa using h)
theorem scan_next : ∀ {l : List InsM} {d j : Nat} {x : InsM}, l[j]? = some x → scanI d (l.take (j + 1)) = stepI (scanI d (l.take j)) x
  | [], _, _, _, h => by simp at h
  | y :: l, d, 0, x, h => by simp at h; subst h; simp [scanI]
  | y :: l, d, j + 1, x, h => by
    rw [List.take_succ_cons, List.take_succ_cons]
    exact scan_next (l := l) (by simpa using h)
def prevI (ins : List InsM) : Nat → Bool
  | 0 => false
  | j + 1 => match ins[j]? with | some x => fallsI x | none => false
theorem adj_get : ∀ {l : List InsM} {f : Bool} {j : Nat} {x : InsM}, adjI f l → l[j]? = some x → (match j with | 0 => f | j + 1 => match l[j]? with | some x => fallsI x | none => false) = true ∨ safeI x = true
  | [], _, _, _, _, h => by simp at h
  | y :: l, f, 0, x, g, h => by simp at h; subst h; exact g.1
  | y :: l, f, j + 1, x, g, h => by
    have := adj_get (l := l) (j := j) g.2 (by simpa using h)
    cases j with
    | zero => exact this
    | succ j => simpa using this
structure DeepOk (ins : List InsM) (i : Nat) (dp : List Int) : Prop where
  len : dp.length = ins.length + 1
  at_ : ∀ j, j ≤ ins.length → dp[j]? = some (-1) ∨ dp[j]? = some ((deepI ins j : Nat) : Int)
  here : prevI ins i = true → dp[i]? = some ((deepI ins i : Nat) : Int)
theorem DeepOk.set {ins : List InsM} {i j : Nat} {dp : List Int} (h : DeepOk ins i dp) {n : Nat} (hn : deepI ins j = n) : DeepOk ins i (dp.set j (n : Int)) := by
  subst hn
  refine ⟨by simpa using h.len, fun k hk => ?_, fun hp => ?_⟩
  · by_cases e : j = k
    · subst e; exact .inr (List.getElem?_set_self (by rw [h.len]; omega))
    · rw [List.getElem?_set_ne e]; exact h.at_ k hk
  · by_cases e : j = i
    · subst e
      rw [List.getElem?_set_self (by have := (List.getElem?_eq_some_iff.1 (h.here hp)).1; omega)]
    · rw [List.getElem?_set_ne e]; exact h.here hp
structure DeepNow (ins : List InsM) (i : Nat) (dp : List Int) (x : InsM) (d : Nat) : Prop where
  now : dp[i]? = some (-1) ∧ d = 0 ∧ safeI x = true ∨ dp[i]? = some (d : Int)
  takes : takesI x ≤ d
  safe : safeI x = true → d = 0
  dest : ∀ t, toI x = some t → ∃ j : Nat, t = j ∧ j ≤ ins.length ∧ deepI ins j = leftI d x ∧ (dp[j]? = some (-1) ∨ dp[j]? = some ((leftI d x : Nat) : Int))
  nextN : fallsI x = false → DeepOk ins (i + 1) dp
  nextF : fallsI x = true → (dp[i + 1]? = some (-1) ∨ dp[i + 1]? = some ((afterI d x : Nat) : Int)) ∧ deepI ins (i + 1) = afterI d x ∧ DeepOk ins (i + 1) (dp.set (i + 1) (afterI d x : Nat))
theorem deep_now (hi : ProgIs p) {i : Nat} {dp : List Int} {x : InsM} (h : DeepOk (compM p).ins i dp) (hx : (compM p).ins[i]? = some x) : DeepNow (compM p).ins i dp x (deepI (compM p).ins i) := by
  obtain ⟨g, _, ad, _⟩ := stk_fns (T := TI (compM p).ins) (comp_cd hi) (fun j hj => ⟨j, by simp, hj, rfl⟩)
  obtain ⟨o1, o2, o3⟩ := good_get g hx
  have hlt := (List.getElem?_eq_some_iff.1 hx).1
  have hadj : prevI (compM p).ins i = true ∨ safeI x = true := by
    have := adj_get (ad false) hx
    cases i with
    | zero => simpa [prevI] using this
    | succ i => exact this
  have hnx : deepI (compM p).ins (i + 1) = stepI (deepI (compM p).ins i) x := scan_next hx
  have hpv : prevI (compM p).ins (i + 1) = fallsI x := by simp only [prevI, hx]
  refine ⟨?_, o1, o2, fun t ht => ?_, fun hf => ?_, fun hf => ?_⟩
  · rcases h.at_ i (by omega) with h1 | h1
    · rcases hadj with h2 | h2
      · exact .inr (h.here h2)
      · exact .inl ⟨h1, o2 h2, h2⟩
    · exact .inr h1
  · obtain ⟨j, e, hj, hd⟩ := o3 t ht
    refine ⟨j, e, hj, hd, ?_⟩
    have := h.at_ j hj
    rwa [hd] at this
  · exact ⟨h.len, h.at_, fun hp => by rw [hpv, hf] at hp; cases hp⟩
  · have e : deepI (compM p).ins (i + 1) = afterI (deepI (compM p).ins i) x := by rw [hnx]; unfold stepI; rw [if_pos hf]
    refine ⟨by have := h.at_ (i + 1) (by omega); rwa [e] at this, e, ?_⟩
    have h2 := h.set (j := i + 1) e
    refine ⟨h2.len, h2.at_, fun _ => ?_⟩
    rw [e]
    exact List.getElem?_set_self (by rw [h.len]; omega)
theorem deep_start (hi : ProgIs p) : ∀ e ∈ (compM p).entry, e < (compM p).ins.length ∧ deepI (compM p).ins e = 0 := fun e he => by
  obtain ⟨_, _, _, h⟩ := stk_fns (T := TI (compM p).ins) (comp_cd hi) (fun j hj => ⟨j, by simp, hj, rfl⟩)
  obtain ⟨j, e1, hj, hd⟩ := h e he
  have := (comp_cd hi).entry e he
  have e2 : e = j := by omega
  subst e2
  exact ⟨by omega, hd⟩
theorem Cd.len {t : Tk} {a b at_ : Nat} {l : List InsM} (h : Cd p t a b at_ l) : a ≤ b ∧ l.length ≤ 3 * (b - a) := by
  induction h with
  | leaf => simp
  | un x at_ a u nd i l hx hl hi h ih => rw [List.length_append, List.length_singleton]; omega
  | bin x at_ a b u v line y l m hx hy h1 h2 hu hv ihu ihv => rw [List.length_append, List.length_append, List.length_singleton]; omega
  | early x at_ a b u v line o y l m hx hy hu hv ihu ihv => rw [List.length_append, List.length_append, List.length_singleton]; omega
  | call x at_ a line j f y ks l hx hj hf hp h ih => rw [List.length_append, List.length_singleton]; omega
  | argN => simp
  | argC u at_ a b c ks l m h h2 ih ih2 => rw [List.length_append]; omega
  | plain x at_ a nd i l hx hi h ih => rw [List.length_cons, List.length_append, List.length_singleton]; omega
  | if2 x at_ a b u v line l m hx hu hv ihu ihv => rw [List.length_cons, List.length_append, List.length_append, List.length_singleton]; omega
  | if3 x at_ a b c u v t line l m n hx hu hv ht ihu ihv iht => rw [List.length_cons, List.length_append, List.length_append, List.length_append, List.length_append, List.length_singleton, List.length_singleton]; omega
  | loop x at_ a b u v line l m hx hu hv ihu ihv => rw [List.length_cons, List.length_append, List.length_append, List.length_append, List.length_singleton, List.length_singleton]; omega
  | blk x at_ a line ks l hx h ih => omega
  | seqN => simp
  | seqC u at_ a b c ks l m h h2 ih ih2 => rw [List.length_append]; omega
theorem FnsCd.len {k a b at_ : Nat} {l : List FuncM} {code : List InsM} {en : List Nat} (h : FnsCd p k l a b at_ code en) : a ≤ b ∧ code.length ≤ 3 * (b - a) + l.length := by
  induction h with
  | nil => simp
  | cons k a c b at_ f l m n en h h2 ih =>
    have := h.len
    simp only [List.length_append, List.length_cons, List.length_nil]
    omega
end
end Go.Proofs.YtlbjicjinnnboaaGreatDoor
