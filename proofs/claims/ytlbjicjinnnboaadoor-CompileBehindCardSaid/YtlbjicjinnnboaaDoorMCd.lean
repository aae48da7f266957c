/- MCd: CdA, CdS, CdF. -/
import Derived.Test.YtlbjicjinnnboaaDoorMSg
set_option linter.unusedVariables false
set_option linter.unusedSimpArgs false
/- Programs as instructions: how codes are made of codes of parts. -/
namespace Go.Proofs.YtlbjicjinnnboaaDoor
open Go.RowKit
open Pw
inductive Tk where
 | ex (x : Nat)
 | args (l : List Nat)
 | stm (x : Nat)
 | blk (x : Nat)
 | seq (l : List Nat)
section
variable (p : ProgM)
def LeafI (x : Nat) (nd : NodeM) (i : InsM) : Prop :=
 (nd.kind = 1 ∧ i = ⟨2, nd.n, 0, []⟩) ∨ (nd.kind = 2 ∧ i = ⟨3, nd.n, 0, []⟩) ∨ (nd.kind = 3 ∧ i = ⟨4, 0, 0, nd.name⟩) ∨ (nd.kind = 4 ∧ i = ⟨5, slotP p x, typeP p x, []⟩) ∨ (nd.kind = 19 ∧ i = ⟨14, 0, 0, []⟩)
def UnI (x k : Nat) (i : InsM) : Prop :=
 (k = 5 ∧ i = ⟨11, slotP p x, 0, []⟩) ∨ (k = 6 ∧ i = ⟨10, 0, 0, []⟩) ∨ (k = 7 ∧ i = ⟨8, 0, 0, []⟩) ∨ (k = 8 ∧ i = ⟨9, 0, 0, []⟩) ∨ (k = 20 ∧ i = ⟨13, 0, 0, []⟩)
def PlainI (x : Nat) (nd : NodeM) (i : InsM) : Prop :=
 ((nd.kind = 10 ∨ nd.kind = 11) ∧ nd.l.length = 1 ∧ i = ⟨6, slotP p x, 0, []⟩) ∨ (nd.kind = 12 ∧ nd.l.length = 2 ∧ i = ⟨12, slotP p x, 0, []⟩) ∨ (nd.kind = 13 ∧ nd.l.length = 1 ∧ i = ⟨23, 0, 0, []⟩) ∨
 (nd.kind = 14 ∧ nd.l.length = 1 ∧ i = ⟨15, 0, 0, []⟩) ∨ (nd.kind = 17 ∧ nd.l.length = 0 ∧ i = ⟨22, 0, 0, []⟩) ∨ (nd.kind = 17 ∧ nd.l.length = 1 ∧ i = ⟨21, 0, 0, []⟩)
inductive Cd : Tk → Nat → Nat → Nat → List InsM → Prop where
 | leaf (x at_ : Nat) (nd : NodeM) (i : InsM) (hx : p.ns[x]? = some nd) (hl : nd.l = []) (hi : LeafI p x nd i) : Cd (.ex x) x (x + 1) at_ [i]
 | un (x at_ a u : Nat) (nd : NodeM) (i : InsM) (l : List InsM) (hx : p.ns[x]? = some nd) (hl : nd.l = [u]) (hi : UnI p x nd.kind i) (h : Cd (.ex u) a x at_ l) : Cd (.ex x) a (x + 1) at_ (l ++ [i])
 | bin (x at_ a b u v line : Nat) (y : List UInt8) (l m : List InsM) (hx : p.ns[x]? = some ⟨9, line, 0, y, [u, v]⟩) (hy : y ∈ allSigns) (h1 : y ≠ [38, 38]) (h2 : y ≠ [124, 124]) (hu : Cd (.ex u) a b at_ l) (hv : Cd (.ex v) b x (at_ + l.length) m) : Cd (.ex x) a (x + 1) at_ (l ++ m ++ [⟨7, 0, 0, y⟩])
 | early (x at_ a b u v line o : Nat) (y : List UInt8) (l m : List InsM) (hx : p.ns[x]? = some ⟨9, line, 0, y, [u, v]⟩) (hy : (y = [38, 38] ∧ o = 18) ∨ (y = [124, 124] ∧ o = 19)) (hu : Cd (.ex u) a b at_ l) (hv : Cd (.ex v) b x (at_ + l.length + 1) m) : Cd (.ex x) a (x + 1) at_ (l ++ [⟨o, ((at_ + l.length + 1 + m.length : Nat) : Int), 0, []⟩] ++ m)
 | call (x at_ a line j : Nat) (f : FuncM) (y : List UInt8) (ks : List Nat) (l : List InsM) (hx : p.ns[x]? = some ⟨21, line, 0, y, ks⟩) (hj : findF p.fs y = some j) (hf : p.fs[j]? = some f) (hp : f.params.length = ks.length) (h : Cd (.args ks) a x at_ l) : Cd (.ex x) a (x + 1) at_ (l ++ [⟨20, (j : Int), ks.length, []⟩])
 | argN (a at_ : Nat) : Cd (.args []) a a at_ []
 | argC (u at_ a b c : Nat) (ks : List Nat) (l m : List InsM) (h : Cd (.ex u) a b at_ l) (h2 : Cd (.args ks) b c (at_ + l.length) m) : Cd (.args (u :: ks)) a c at_ (l ++ m)
 | plain (x at_ a : Nat) (nd : NodeM) (i : InsM) (l : List InsM) (hx : p.ns[x]? = some nd) (hi : PlainI p x nd i) (h : Cd (.args nd.l) a x (at_ + 1) l) : Cd (.stm x) a (x + 1) at_ (⟨1, (x : Int), 0, []⟩ :: (l ++ [i]))
 | if2 (x at_ a b u v line : Nat) (l m : List InsM) (hx : p.ns[x]? = some ⟨15, line, 0, [], [u, v]⟩) (hu : Cd (.ex u) a b (at_ + 1) l) (hv : Cd (.blk v) b x (at_ + 1 + l.length + 1) m) : Cd (.stm x) a (x + 1) at_ (⟨1, (x : Int), 0, []⟩ :: (l ++ [⟨17, ((at_ + 1 + l.length + 1 + m.length : Nat) : Int), 0, []⟩] ++ m))
 | if3 (x at_ a b c u v t line : Nat) (l m n : List InsM) (hx : p.ns[x]? = some ⟨15, line, 0, [], [u, v, t]⟩) (hu : Cd (.ex u) a b (at_ + 1) l) (hv : Cd (.blk v) b c (at_ + 1 + l.length + 1) m) (ht : Cd (.blk t) c x (at_ + 1 + l.length + 1 + m.length + 1) n) :
  Cd (.stm x) a (x + 1) at_ (⟨1, (x : Int), 0, []⟩ :: (l ++ [⟨17, ((at_ + 1 + l.length + 1 + m.length + 1 : Nat) : Int), 0, []⟩] ++ (m ++ [⟨16, ((at_ + 1 + l.length + 1 + m.length + 1 + n.length : Nat) : Int), 0, []⟩]) ++ n))
 | loop (x at_ a b u v line : Nat) (l m : List InsM) (hx : p.ns[x]? = some ⟨16, line, 0, [], [u, v]⟩) (hu : Cd (.ex u) a b (at_ + 1) l) (hv : Cd (.blk v) b x (at_ + 1 + l.length + 1) m) : Cd (.stm x) a (x + 1) at_ (⟨1, (x : Int), 0, []⟩ :: (l ++ [⟨17, ((at_ + 1 + l.length + 1 + m.length + 1 : Nat) : Int), 0, []⟩] ++ (m ++ [⟨16, (at_ : Int), 0, []⟩])))
 | blk (x at_ a line : Nat) (ks : List Nat) (l : List InsM) (hx : p.ns[x]? = some ⟨18, line, 0, [], ks⟩) (h : Cd (.seq ks) a x at_ l) : Cd (.blk x) a (x + 1) at_ l
 | seqN (a at_ : Nat) : Cd (.seq []) a a at_ []
 | seqC (u at_ a b c : Nat) (ks : List Nat) (l m : List InsM) (h : Cd (.stm u) a b at_ l) (h2 : Cd (.seq ks) b c (at_ + l.length) m) : Cd (.seq (u :: ks)) a c at_ (l ++ m)
end
section
variable {p : ProgM}
def CallsOk (p : ProgM) : Prop := ∀ (x : Nat) (nd : NodeM), p.ns[x]? = some nd → nd.kind = 21 → ∃ j f, findF p.fs nd.name = some j ∧ p.fs[j]? = some f ∧ f.params.length = nd.l.length
theorem cd_ex (hn : NodesOk p.ns) : ∀ (f x : Nat) (nd : NodeM) (a at_ : Nat), p.ns[x]? = some nd → clsE nd.kind = true → Seg p.ns a nd.l x → x < f → Cd p (.ex x) a (x + 1) at_ (exprL p f x at_)
 | 0, x, nd, a, at_, _, _, _, h => absurd h (Nat.not_lt_zero _)
 | f + 1, x, nd, a, at_, hx, hc, hs, hf => by
  have ih := cd_ex hn f
  have hN := hn x nd hx
  have un : ∀ {u : Nat}, nd.l = [u] → Kid (p.ns.take x) clsE u → Cd p (.ex u) a x at_ (exprL p f u at_) := fun {u} e hu => by
   rw [e] at hs
   obtain ⟨n1, h1, h2, h3⟩ := seg1 hs
   rw [h3]
   exact ih u n1 a at_ h1 (kidTake hu h1) h2 (by omega)
  have h0 : nd.l = [] → a = x := fun e => by rw [e] at hs; exact (seg0 hs).symm
  simp only [exprL, hx]
  cases hN with
  | int line n h => have := h0 rfl; subst this; exact .leaf _ _ _ _ hx rfl (.inl ⟨rfl, by simp⟩)
  | bool line n h => have := h0 rfl; subst this; exact .leaf _ _ _ _ hx rfl (.inr (.inl ⟨rfl, by simp⟩))
  | text line y => have := h0 rfl; subst this; exact .leaf _ _ _ _ hx rfl (.inr (.inr (.inl ⟨rfl, by simp⟩)))
  | var line y => have := h0 rfl; subst this; exact .leaf _ _ _ _ hx rfl (.inr (.inr (.inr (.inl ⟨rfl, by simp⟩))))
  | index line y u hu =>
   have e : exprN p (exprL p f) x ⟨5, line, 0, y, [u]⟩ at_ = exprL p f u at_ ++ [⟨11, slotP p x, 0, []⟩] := by simp [exprN]
   rw [e]; exact .un _ _ _ _ _ _ _ hx rfl (.inl ⟨rfl, rfl⟩) (un rfl hu)
  | len line u hu =>
   have e : exprN p (exprL p f) x ⟨6, line, 0, [], [u]⟩ at_ = exprL p f u at_ ++ [⟨10, 0, 0, []⟩] := by simp [exprN]
   rw [e]; exact .un _ _ _ _ _ _ _ hx rfl (.inr (.inl ⟨rfl, rfl⟩)) (un rfl hu)
  | neg line u hu =>
   have e : exprN p (exprL p f) x ⟨7, line, 0, [], [u]⟩ at_ = exprL p f u at_ ++ [⟨8, 0, 0, []⟩] := by simp [exprN]
   rw [e]; exact .un _ _ _ _ _ _ _ hx rfl (.inr (.inr (.inl ⟨rfl, rfl⟩))) (un rfl hu)
  | not line u hu =>
   have e : exprN p (exprL p f) x ⟨8, line, 0, [], [u]⟩ at_ = exprL p f u at_ ++ [⟨9, 0, 0, []⟩] := by simp [exprN]
   rw [e]; exact .un _ _ _ _ _ _ _ hx rfl (.inr (.inr (.inr (.inl ⟨rfl, rfl⟩)))) (un rfl hu)
  | bin line y u v hy hu hv =>
   obtain ⟨n1, n2, h1, h2, h3, h4, h5⟩ := seg2 hs
   have b2 := h4.le
   have c1 := ih u n1 a at_ h1 (kidTake hu h1) h2 (by omega)
   have c2 := fun at_ => ih v n2 (u + 1) at_ h3 (kidTake hv h3) h4 (by omega)
   rw [show v + 1 = x by omega] at c2
   by_cases e1 : y = [38, 38]
   · subst e1
     have e : exprN p (exprL p f) x ⟨9, line, 0, [38, 38], [u, v]⟩ at_ = exprL p f u at_ ++ [⟨18, ((at_ + (exprL p f u at_).length + 1 + (exprL p f v (at_ + (exprL p f u at_).length + 1)).length : Nat) : Int), 0, []⟩] ++ exprL p f v (at_ + (exprL p f u at_).length + 1) := by simp [exprN, opBin]
     rw [e]; exact .early _ _ _ _ _ _ _ _ _ _ _ hx (.inl ⟨rfl, rfl⟩) c1 (c2 _)
   · by_cases e2 : y = [124, 124]
     · subst e2
       have e : exprN p (exprL p f) x ⟨9, line, 0, [124, 124], [u, v]⟩ at_ = exprL p f u at_ ++ [⟨19, ((at_ + (exprL p f u at_).length + 1 + (exprL p f v (at_ + (exprL p f u at_).length + 1)).length : Nat) : Int), 0, []⟩] ++ exprL p f v (at_ + (exprL p f u at_).length + 1) := by simp [exprN, opBin]
       rw [e]; exact .early _ _ _ _ _ _ _ _ _ _ _ hx (.inr ⟨rfl, rfl⟩) c1 (c2 _)
     · have e : exprN p (exprL p f) x ⟨9, line, 0, y, [u, v]⟩ at_ = exprL p f u at_ ++ exprL p f v (at_ + (exprL p f u at_).length) ++ [⟨7, 0, 0, y⟩] := by simp [exprN, opBin, e1, e2]
       rw [e]; exact .bin _ _ _ _ _ _ _ _ _ _ hx hy e1 e2 c1 (c2 _)
  | _ => simp [clsE] at hc
theorem cd_args (hn : NodesOk p.ns) : ∀ {l : List Nat} {a b : Nat} (at_ : Nat), Seg p.ns a l b → (∀ u ∈ l, ∃ nd, p.ns[u]? = some nd ∧ clsE nd.kind = true) → b ≤ p.ns.length → Cd p (.args l) a b at_ (seqL (exprL p p.ns.length) l at_)
 | [], a, b, at_, h, _, _ => by rw [seg0 h]; exact .argN _ _
 | u :: l, a, b, at_, h, hk, hb => by
  cases h with
  | cons _ _ _ _ nd hx h h2 =>
   obtain ⟨nd', hx', hc⟩ := hk u (List.mem_cons_self ..)
   rw [hx] at hx'; injection hx' with hx'; subst hx'
   have := h2.le
   exact .argC _ _ _ _ _ _ _ _ (cd_ex hn p.ns.length u nd a at_ hx hc h (by omega)) (cd_args hn _ h2 (fun y hy => hk y (List.mem_cons_of_mem _ hy)) hb)
theorem kids_some {x : Nat} {l : List Nat} {cls : Nat → Bool} (h : ∀ u ∈ l, Kid (p.ns.take x) cls u) : ∀ u ∈ l, ∃ nd, p.ns[u]? = some nd ∧ cls nd.kind = true := fun u hu => kid_some (h u hu)
theorem cd_call (hn : NodesOk p.ns) (hc : CallsOk p) {x a line : Nat} {y : List UInt8} {ks : List Nat} (at_ : Nat) (hx : p.ns[x]? = some ⟨21, line, 0, y, ks⟩) (hs : Seg p.ns a ks x) (hk : ∀ u ∈ ks, Kid (p.ns.take x) clsE u) : Cd p (.ex x) a (x + 1) at_ (callL p (exprL p p.ns.length) ⟨21, line, 0, y, ks⟩ at_) := by
 obtain ⟨j, f, h1, h2, h3⟩ := hc x _ hx rfl
 have hlt := (List.getElem?_eq_some_iff.1 hx).1
 dsimp only at h1 h3
 unfold callL
 dsimp only
 rw [h1]
 exact .call _ _ _ _ _ _ _ _ _ hx h1 h2 h3 (cd_args hn at_ hs (kids_some hk) (by omega))
theorem cd_right (hn : NodesOk p.ns) (hc : CallsOk p) {x a : Nat} {nd : NodeM} (at_ : Nat) (hx : p.ns[x]? = some nd) (hr : clsR nd.kind = true) (hs : Seg p.ns a nd.l x) : Cd p (.ex x) a (x + 1) at_ (rightL p (exprL p p.ns.length) x at_) := by
 have hlt := (List.getElem?_eq_some_iff.1 hx).1
 have hN := hn x nd hx
 unfold rightL
 rw [hx]
 dsimp only
 by_cases h19 : nd.kind = 19
 · rw [if_pos h19]
   cases hN <;> simp only at h19 <;> try omega
   have := seg0 hs
   subst this
   exact .leaf _ _ _ _ hx rfl (.inr (.inr (.inr (.inr ⟨rfl, rfl⟩))))
 · rw [if_neg h19]
   by_cases h20 : nd.kind = 20
   · rw [if_pos h20]
     cases hN <;> simp only at h20 <;> try omega
     rename_i line u hu
     obtain ⟨n1, h1, h2, h3⟩ := seg1 hs
     rw [show ([u].headD 0) = u from rfl]
     exact .un _ _ _ _ _ _ _ hx rfl (.inr (.inr (.inr (.inr ⟨rfl, rfl⟩)))) (by rw [h3]; exact cd_ex hn _ u n1 a at_ h1 (kidTake hu h1) h2 (by omega))
   · rw [if_neg h20]
     by_cases h21 : nd.kind = 21
     · rw [if_pos h21]
       cases hN <;> simp only at h21 <;> try omega
       rename_i line y ks hk
       exact cd_call hn hc at_ hx hs hk
     · rw [if_neg h21]
       have : clsE nd.kind = true := by
        simp only [clsR, Bool.or_eq_true, Bool.and_eq_true, decide_eq_true_eq] at hr
        rcases hr with hr | hr
        · exact hr
        · omega
       exact cd_ex hn _ x nd a at_ hx this hs (by omega)
theorem cd_one {l : List InsM} {u a b at_ : Nat} (h : Cd p (.ex u) a b at_ l) : Cd p (.args [u]) a b at_ l := by
 have := Cd.argC u at_ a b b [] l [] h (.argN _ _)
 rwa [List.append_nil] at this
theorem cd_two {l m : List InsM} {u v a b c at_ : Nat} (h : Cd p (.ex u) a b at_ l) (h2 : Cd p (.ex v) b c (at_ + l.length) m) : Cd p (.args [u, v]) a c at_ (l ++ m) := .argC u at_ a b c [v] l m h (cd_one h2)
theorem cd_stm (hn : NodesOk p.ns) (hc : CallsOk p) {bl : Nat → Nat → List InsM} {x a : Nat} (hbl : ∀ (v : Nat) (nd : NodeM) (a at_ : Nat), v < x → p.ns[v]? = some nd → nd.kind = 18 → Seg p.ns a nd.l v → Cd p (.blk v) a (v + 1) at_ (bl v at_)) {nd : NodeM} (at_ : Nat) (hx : p.ns[x]? = some nd) (hcl : clsS nd.kind = true) (hs : Seg p.ns a nd.l x) :
  Cd p (.stm x) a (x + 1) at_ (stmN p (exprL p p.ns.length) bl x nd at_) := by
 have hlt := (List.getElem?_eq_some_iff.1 hx).1
 have hN := hn x nd hx
 have ex1 : ∀ {u : Nat} (at_ : Nat), nd.l = [u] → Kid (p.ns.take x) clsE u → Cd p (.ex u) a x at_ (exprL p p.ns.length u at_) := fun {u} at_ e hu => by
  rw [e] at hs
  obtain ⟨n1, h1, h2, h3⟩ := seg1 hs
  rw [h3]
  exact cd_ex hn _ u n1 a at_ h1 (kidTake hu h1) h2 (by omega)
 have r1 : ∀ {u : Nat} (at_ : Nat), nd.l = [u] → Kid (p.ns.take x) clsR u → Cd p (.ex u) a x at_ (rightL p (exprL p p.ns.length) u at_) := fun {u} at_ e hu => by
  rw [e] at hs
  obtain ⟨n1, h1, h2, h3⟩ := seg1 hs
  rw [h3]
  exact cd_right hn hc at_ h1 (kidTake hu h1) h2
 cases hN with
 | let_ line y u hu =>
  have e : stmN p (exprL p p.ns.length) bl x ⟨10, line, 0, y, [u]⟩ at_ = ⟨1, (x : Int), 0, []⟩ :: (rightL p (exprL p p.ns.length) u (at_ + 1) ++ [⟨6, slotP p x, 0, []⟩]) := by simp [stmN]
  rw [e]
  exact .plain _ _ _ _ _ _ hx (.inl ⟨.inl rfl, rfl, rfl⟩) (cd_one (r1 _ rfl hu))
 | set line y u hu =>
  have e : stmN p (exprL p p.ns.length) bl x ⟨11, line, 0, y, [u]⟩ at_ = ⟨1, (x : Int), 0, []⟩ :: (rightL p (exprL p p.ns.length) u (at_ + 1) ++ [⟨6, slotP p x, 0, []⟩]) := by simp [stmN]
  rw [e]
  exact .plain _ _ _ _ _ _ hx (.inl ⟨.inr rfl, rfl, rfl⟩) (cd_one (r1 _ rfl hu))
 | put line y u v hu hv =>
  obtain ⟨n1, n2, h1, h2, h3, h4, h5⟩ := seg2 hs
  have b2 := h4.le
  have e : stmN p (exprL p p.ns.length) bl x ⟨12, line, 0, y, [u, v]⟩ at_ = ⟨1, (x : Int), 0, []⟩ :: ((exprL p p.ns.length u (at_ + 1) ++ exprL p p.ns.length v (at_ + 1 + (exprL p p.ns.length u (at_ + 1)).length)) ++ [⟨12, slotP p x, 0, []⟩]) := by simp [stmN]
  rw [e]
  refine .plain _ _ _ _ _ _ hx (.inr (.inl ⟨rfl, rfl, rfl⟩)) (cd_two (cd_ex hn _ u n1 a _ h1 (kidTake hu h1) h2 (by omega)) ?_)
  rw [h5]
  exact cd_ex hn _ v n2 (u + 1) _ h3 (kidTake hv h3) h4 (by omega)
 | do_ line u hu =>
  obtain ⟨n1, h1, h2, h3⟩ := seg1 hs
  have hk := kidTake hu h1
  have hN1 := hn u n1 h1
  have e : stmN p (exprL p p.ns.length) bl x ⟨13, line, 0, [], [u]⟩ at_ = ⟨1, (x : Int), 0, []⟩ :: (callL p (exprL p p.ns.length) n1 (at_ + 1) ++ [⟨23, 0, 0, []⟩]) := by simp [stmN, h1]
  rw [e]
  refine .plain _ _ _ _ _ _ hx (.inr (.inr (.inl ⟨rfl, rfl, rfl⟩))) (cd_one ?_)
  simp only [clsC, decide_eq_true_eq] at hk
  cases hN1 <;> simp only at hk <;> try omega
  rename_i line y ks hk2
  rw [h3]
  exact cd_call hn hc _ h1 h2 hk2
 | print line u hu =>
  have e : stmN p (exprL p p.ns.length) bl x ⟨14, line, 0, [], [u]⟩ at_ = ⟨1, (x : Int), 0, []⟩ :: (exprL p p.ns.length u (at_ + 1) ++ [⟨15, 0, 0, []⟩]) := by simp [stmN]
  rw [e]
  exact .plain _ _ _ _ _ _ hx (.inr (.inr (.inr (.inl ⟨rfl, rfl, rfl⟩)))) (cd_one (ex1 _ rfl hu))
 | ret0 line =>
  have := seg0 hs
  subst this
  have e : stmN p (exprL p p.ns.length) bl x ⟨17, line, 0, [], []⟩ at_ = ⟨1, (x : Int), 0, []⟩ :: ([] ++ [⟨22, 0, 0, []⟩]) := by simp [stmN]
  rw [e]
  exact .plain _ _ _ _ _ _ hx (.inr (.inr (.inr (.inr (.inl ⟨rfl, rfl, rfl⟩))))) (.argN _ _)
 | ret1 line u hu =>
  have e : stmN p (exprL p p.ns.length) bl x ⟨17, line, 0, [], [u]⟩ at_ = ⟨1, (x : Int), 0, []⟩ :: (exprL p p.ns.length u (at_ + 1) ++ [⟨21, 0, 0, []⟩]) := by simp [stmN]
  rw [e]
  exact .plain _ _ _ _ _ _ hx (.inr (.inr (.inr (.inr (.inr ⟨rfl, rfl, rfl⟩))))) (cd_one (ex1 _ rfl hu))
 | if2 line u v hu hv =>
  have hs' := hs
  obtain ⟨n1, n2, h1, h2, h3, h4, h5⟩ := seg2 hs
  have b2 := h4.le
  have e : stmN p (exprL p p.ns.length) bl x ⟨15, line, 0, [], [u, v]⟩ at_ = ⟨1, (x : Int), 0, []⟩ :: (exprL p p.ns.length u (at_ + 1) ++ [⟨17, ((at_ + 1 + (exprL p p.ns.length u (at_ + 1)).length + 1 + (bl v (at_ + 1 + (exprL p p.ns.length u (at_ + 1)).length + 1)).length : Nat) : Int), 0, []⟩] ++ bl v (at_ + 1 + (exprL p p.ns.length u (at_ + 1)).length + 1)) := by simp [stmN, testsL]
  rw [e]
  refine .if2 _ _ _ _ _ _ _ _ _ hx (cd_ex hn _ u n1 a _ h1 (kidTake hu h1) h2 (by omega)) ?_
  rw [h5]
  exact hbl v n2 _ _ (by omega) h3 (by have := kidTake hv h3; simpa [clsB] using this) h4
 | if3 line u v t hu hv ht =>
  cases hs with
  | cons _ _ _ _ n1 h1 h2 hs =>
   obtain ⟨n2, n3, h3, h4, h5, h6, h7⟩ := seg2 hs
   have b2 := h4.le
   have b3 := h6.le
   have e : stmN p (exprL p p.ns.length) bl x ⟨15, line, 0, [], [u, v, t]⟩ at_ = ⟨1, (x : Int), 0, []⟩ :: (exprL p p.ns.length u (at_ + 1) ++ [⟨17, ((at_ + 1 + (exprL p p.ns.length u (at_ + 1)).length + 1 + (bl v (at_ + 1 + (exprL p p.ns.length u (at_ + 1)).length + 1)).length + 1 : Nat) : Int), 0, []⟩] ++ (bl v (at_ + 1 + (exprL p p.ns.length u (at_ + 1)).length + 1) ++ [⟨16, ((at_ + 1 + (exprL p p.ns.length u (at_ + 1)).length + 1 + (bl v (at_ + 1 + (exprL p p.ns.length u (at_ + 1)).length + 1)).length + 1 + (bl t (at_ + 1 + (exprL p p.ns.length u (at_ + 1)).length + 1 + (bl v (at_ + 1 + (exprL p p.ns.length u (at_ + 1)).length + 1)).length + 1)).length : Nat) : Int), 0, []⟩]) ++ bl t (at_ + 1 + (exprL p p.ns.length u (at_ + 1)).length + 1 + (bl v (at_ + 1 + (exprL p p.ns.length u (at_ + 1)).length + 1)).length + 1)) := by
    simp [stmN, testsL, Nat.add_assoc]
   rw [e]
   refine .if3 _ _ _ _ _ _ _ _ _ _ _ _ hx (cd_ex hn _ u n1 a _ h1 (kidTake hu h1) h2 (by omega)) (hbl v n2 _ _ (by omega) h3 (by have := kidTake hv h3; simpa [clsB] using this) h4) ?_
   rw [h7]
   exact hbl t n3 _ _ (by omega) h5 (by have := kidTake ht h5; simpa [clsB] using this) h6
 | loop line u v hu hv =>
  obtain ⟨n1, n2, h1, h2, h3, h4, h5⟩ := seg2 hs
  have b2 := h4.le
  have e : stmN p (exprL p p.ns.length) bl x ⟨16, line, 0, [], [u, v]⟩ at_ = ⟨1, (x : Int), 0, []⟩ :: (exprL p p.ns.length u (at_ + 1) ++ [⟨17, ((at_ + 1 + (exprL p p.ns.length u (at_ + 1)).length + 1 + (bl v (at_ + 1 + (exprL p p.ns.length u (at_ + 1)).length + 1)).length + 1 : Nat) : Int), 0, []⟩] ++ (bl v (at_ + 1 + (exprL p p.ns.length u (at_ + 1)).length + 1) ++ [⟨16, (at_ : Int), 0, []⟩])) := by simp [stmN, testsL, Nat.add_assoc]
  rw [e]
  refine .loop _ _ _ _ _ _ _ _ _ hx (cd_ex hn _ u n1 a _ h1 (kidTake hu h1) h2 (by omega)) ?_
  rw [h5]
  exact hbl v n2 _ _ (by omega) h3 (by have := kidTake hv h3; simpa [clsB] using this) h4
 | _ => simp [clsS] at hcl
theorem cd_block (hn : NodesOk p.ns) (hc : CallsOk p) : ∀ (f v : Nat) (nd : NodeM) (a at_ : Nat), v < f → p.ns[v]? = some nd → nd.kind = 18 → Seg p.ns a nd.l v → Cd p (.blk v) a (v + 1) at_ (blockL p f v at_)
 | 0, v, nd, a, at_, h, _, _, _ => absurd h (Nat.not_lt_zero _)
 | f + 1, v, nd, a, at_, hf, hx, hk, hs => by
  have hN := hn v nd hx
  simp only [blockL, hx]
  cases hN <;> simp only at hk <;> try omega
  rename_i line ks hks
  have main : ∀ {l : List Nat} {a b : Nat} (at_ : Nat), b ≤ v → Seg p.ns a l b → (∀ u ∈ l, ∃ nd, p.ns[u]? = some nd ∧ clsS nd.kind = true) → Cd p (.seq l) a b at_ (seqL (fun a at_ => match p.ns[a]? with | none => [] | some na => stmN p (exprL p p.ns.length) (blockL p f) a na at_) l at_) := by
   intro l
   induction l with
   | nil => intro a b at_ _ h _; rw [seg0 h]; exact .seqN _ _
   | cons u l ih =>
    intro a b at_ hb h hk
    cases h with
    | cons _ _ _ _ nd hx h h2 =>
     obtain ⟨nd', hx', hc'⟩ := hk u (List.mem_cons_self ..)
     rw [hx] at hx'; injection hx' with hx'; subst hx'
     have := h2.le
     unfold seqL
     simp only [hx]
     refine .seqC _ _ _ _ _ _ _ _ ?_ (ih _ hb h2 (fun y hy => hk y (List.mem_cons_of_mem _ hy)))
     exact cd_stm hn hc (fun v nd a at_ hv => cd_block hn hc f v nd a at_ (by omega)) at_ hx hc' h
  exact .blk _ _ _ _ _ _ hx (main at_ (Nat.le_refl _) hs (kids_some hks))
end
def takesI (x : InsM) : Nat :=
 if x.op = 6 ∨ x.op = 15 ∨ x.op = 17 ∨ x.op = 23 ∨ x.op = 21 ∨ x.op = 18 ∨ x.op = 19 then 1
 else if x.op = 7 then 2
 else if x.op = 8 ∨ x.op = 9 ∨ x.op = 10 ∨ x.op = 11 ∨ x.op = 13 then 1
 else if x.op = 12 then 2
 else if x.op = 20 then x.b else 0
def givesI (x : InsM) : Nat :=
 if x.op = 2 ∨ x.op = 3 ∨ x.op = 4 ∨ x.op = 5 ∨ x.op = 14 then 1
 else if x.op = 7 ∨ x.op = 8 ∨ x.op = 9 ∨ x.op = 10 ∨ x.op = 11 ∨ x.op = 13 ∨ x.op = 20 then 1 else 0
def fallsI (x : InsM) : Bool := !(decide (x.op = 16) || decide (x.op = 21) || decide (x.op = 22))
def afterI (d : Nat) (x : InsM) : Nat := d - takesI x + givesI x
def stepI (d : Nat) (x : InsM) : Nat := if fallsI x then afterI d x else 0
def scanI : Nat → List InsM → Nat
 | d, [] => d
 | d, x :: l => scanI (stepI d x) l
section
variable (T : Int → Nat → Prop)
end
section
variable {T : Int → Nat → Prop} {d at_ : Nat} {l m : List InsM}
end
section
variable {p : ProgM}
end
inductive FnsCd (p : ProgM) : Nat → List FuncM → Nat → Nat → Nat → List InsM → List Nat → Prop where
 | nil (k a at_ : Nat) : FnsCd p k [] a a at_ [] []
 | cons (k a c b at_ : Nat) (f : FuncM) (l : List FuncM) (m n : List InsM) (en : List Nat) (h : Cd p (.blk f.body) a c at_ m) (h2 : FnsCd p (k + 1) l c b (at_ + m.length + 1) n en) : FnsCd p k (f :: l) a b at_ (m ++ [⟨22, (f.ret : Int), 0, []⟩] ++ n) (at_ :: en)
section
variable {p : ProgM}
theorem map_len {α : Type} {l : List Nat} {ty : Nat → Nat} {m : List (α × Nat)} (h : l.map ty = m.map (·.2)) : m.length = l.length := by
 have := congrArg List.length h
 simpa using this.symm
theorem FnsDone.at_any {ns : List NodeM} {fs l : List FuncM} {s : CkS} {k a b : Nat} {zs : List Nat} (h : FnsDone ns fs s k l zs a b) {y : Nat} {nd : NodeM} (h1 : a ≤ y) (h2 : y < b) (hy : ns[y]? = some nd) : ∃ j z, k ≤ j ∧ j < k + l.length ∧ zs[j - k]? = some z ∧ NodeAt fs j z s y nd := by
 induction h with
 | nil k a => omega
 | cons k z f l zs a c b h h3 ih =>
  by_cases hc : y < c
  · exact ⟨k, z, Nat.le_refl _, by simp, by simp, h.at_ y nd h1 hc hy⟩
  · obtain ⟨j, z', j1, j2, j3, j4⟩ := ih (by omega) h2
    refine ⟨j, z', by omega, by rw [List.length_cons]; omega, ?_, j4⟩
    rw [show j - k = (j - (k + 1)) + 1 by omega, List.getElem?_cons_succ]; exact j3
theorem calls_ok (hi : ProgIs p) : CallsOk p := fun x nd hx hk => by
 have hlt := (List.getElem?_eq_some_iff.1 hx).1
 obtain ⟨j, z, _, _, _, h⟩ := hi.done.at_any (Nat.zero_le _) hlt hx
 obtain ⟨t, _, ht⟩ := h.ty
 simp only [KTy, hk, show ¬ ((21 : Nat) = 1 ∨ (21 : Nat) = 19) by decide, show ¬ ((21 : Nat) = 5 ∨ (21 : Nat) = 7) by decide, show ¬ (21 : Nat) = 6 by decide, show ¬ (21 : Nat) = 2 by decide, show ¬ (21 : Nat) = 8 by decide, show ¬ (21 : Nat) = 3 by decide, show ¬ (21 : Nat) = 20 by decide, show ¬ (21 : Nat) = 9 by decide, show ¬ (21 : Nat) = 4 by decide, if_false, if_true] at ht
 obtain ⟨j, f, h1, h2, h3, _⟩ := ht
 exact ⟨j, f, h1, h2, map_len h3⟩
theorem fnsL_cd (hi : ProgIs p) : ∀ {l : List FuncM} {k a b : Nat} {ins : List InsM} {en : List Nat}, Seg p.ns a (l.map (·.body)) b → b ≤ p.ns.length → (∀ f ∈ l, Kid p.ns clsB f.body) → ∃ code es, fnsL p l ins en = (ins ++ code, en ++ es) ∧ FnsCd p k l a b ins.length code es
 | [], k, a, b, ins, en, h, _, _ => by rw [seg0 h]; exact ⟨[], [], by simp [fnsL], .nil _ _ _⟩
 | f :: l, k, a, b, ins, en, h, hb, hk => by
  cases h with
  | cons _ _ _ _ nd hx h h2 =>
   obtain ⟨c, hc, hkk⟩ := hk f (List.mem_cons_self ..)
   rw [hx] at hc; injection hc with hc; subst hc
   have := h2.le
   have hle := h.le
   have hcd := cd_block (p := p) hi.tree.ok.nodes (calls_ok hi) p.ns.length f.body nd a ins.length ((List.getElem?_eq_some_iff.1 hx).1) hx (by simpa [clsB] using hkk) h
   obtain ⟨code, es, e, hf⟩ := fnsL_cd hi (k := k + 1) (ins := ins ++ fnL p f ins.length) (en := en ++ [ins.length]) h2 hb (fun g hg => hk g (List.mem_cons_of_mem _ hg))
   refine ⟨fnL p f ins.length ++ code, ins.length :: es, ?_, ?_⟩
   · unfold fnsL; rw [e]; simp
   · unfold fnL at hf ⊢
     rw [List.length_append, List.length_append, List.length_singleton, ← Nat.add_assoc] at hf
     exact .cons _ _ _ _ _ _ _ _ _ _ hcd hf
theorem comp_cd (hi : ProgIs p) : FnsCd p 0 p.fs 0 p.ns.length 0 (compM p).ins (compM p).entry := by
 obtain ⟨code, es, e, h⟩ := fnsL_cd (p := p) hi (k := 0) (ins := []) (en := []) hi.tree.seg (Nat.le_refl _) hi.tree.ok.bodies
 unfold compM
 rw [e]
 exact h
theorem FnsCd.elen {k a b at_ : Nat} {l : List FuncM} {code : List InsM} {en : List Nat} (h : FnsCd p k l a b at_ code en) : en.length = l.length := by
 induction h with
 | nil => rfl
 | cons k a c b at_ f l m n en h h2 ih => simp [ih]
theorem FnsCd.entry {k a b at_ : Nat} {l : List FuncM} {code : List InsM} {en : List Nat} (h : FnsCd p k l a b at_ code en) : ∀ e ∈ en, at_ ≤ e ∧ e < at_ + code.length := by
 induction h with
 | nil => intro e he; cases he
 | cons k a c b at_ f l m n en h h2 ih =>
  intro e he
  rw [List.length_append, List.length_append, List.length_singleton]
  rcases List.mem_cons.1 he with rfl | he
  · omega
  · have := ih e he; omega
def deepI (ins : List InsM) (j : Nat) : Nat := scanI 0 (ins.take j)
def TI (ins : List InsM) (t : Int) (n : Nat) : Prop := ∃ j : Nat, t = j ∧ j ≤ ins.length ∧ deepI ins j = n
theorem Cd.len {t : Tk} {a b at_ : Nat} {l : List InsM} (h : Cd p t a b at_ l) : a ≤ b ∧ l.length ≤ 3 * (b - a) := by
 induction h with
 | leaf => simp
 | un x at_ a u nd i l hx hl hi h ih => rw [List.length_append, List.length_singleton]; omega
 | bin x at_ a b u v line y l m hx hy h1 h2 hu hv ihu ihv => rw [List.length_append, List.length_append, List.length_singleton]; omega
 | early x at_ a b u v line o y l m hx hy hu hv ihu ihv => rw [List.length_append, List.length_append, List.length_singleton]; omega
 | call x at_ a line j f y ks l hx hj hf hp h ih => rw [List.length_append, List.length_singleton]; omega
 | argN => simp
 | argC u at_ a b c ks l m h h2 ih ih2 => rw [List.length_append]; omega
 | plain x at_ a nd i l hx hi h ih => rw [List.length_cons, List.length_append, List.length_singleton]; omega
 | if2 x at_ a b u v line l m hx hu hv ihu ihv => rw [List.length_cons, List.length_append, List.length_append, List.length_singleton]; omega
 | if3 x at_ a b c u v t line l m n hx hu hv ht ihu ihv iht => rw [List.length_cons, List.length_append, List.length_append, List.length_append, List.length_append, List.length_singleton, List.length_singleton]; omega
 | loop x at_ a b u v line l m hx hu hv ihu ihv => rw [List.length_cons, List.length_append, List.length_append, List.length_append, List.length_singleton, List.length_singleton]; omega
 | blk x at_ a line ks l hx h ih => omega
 | seqN => simp
 | seqC u at_ a b c ks l m h h2 ih ih2 => rw [List.length_append]; omega
theorem FnsCd.len {k a b at_ : Nat} {l : List FuncM} {code : List InsM} {en : List Nat} (h : FnsCd p k l a b at_ code en) : a ≤ b ∧ code.length ≤ 3 * (b - a) + l.length := by
 induction h with
 | nil => simp
 | cons k a c b at_ f l m n en h h2 ih =>
  have := h.len
  simp only [List.length_append, List.length_cons, List.length_nil]
  omega
end
end Go.Proofs.YtlbjicjinnnboaaDoor
