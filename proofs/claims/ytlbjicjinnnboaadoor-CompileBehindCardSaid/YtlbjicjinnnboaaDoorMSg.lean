/- MSg: CkModel, CpModel, SgA, CsA, CsB, CsC, CsD, Uq. -/
import Derived.Test.YtlbjicjinnnboaaDoorMPw
import Derived.Test.YtlbjicjinnnboaaDoorMBv
set_option linter.unusedVariables false
set_option linter.unusedSimpArgs false
/- The checker: the model. -/
namespace Go.Proofs.YtlbjicjinnnboaaDoor
open Go.RowKit
open Pw
inductive CkR (α : Type) where
 | bad (e p : Nat)
 | good (a : α)
namespace CkR
def bind {α β : Type} : CkR α → (α → CkR β) → CkR β
 | .bad e p, _ => .bad e p
 | .good a, f => f a
def map {α β : Type} (f : α → β) : CkR α → CkR β
 | .bad e p => .bad e p
 | .good a => .good (f a)
@[simp] theorem bind_bad {α β : Type} (e p : Nat) (f : α → CkR β) : (CkR.bad e p).bind f = .bad e p := rfl
@[simp] theorem bind_good {α β : Type} (a : α) (f : α → CkR β) : (CkR.good a).bind f = f a := rfl
@[simp] theorem map_bad {α β : Type} (e p : Nat) (f : α → β) : (CkR.bad e p).map f = .bad e p := rfl
@[simp] theorem map_good {α β : Type} (a : α) (f : α → β) : (CkR.good a).map f = .good (f a) := rfl
theorem bind_eq {α β : Type} {r : CkR α} {f : α → CkR β} {b : β} (h : r.bind f = .good b) : ∃ a, r = .good a ∧ f a = .good b := by
 cases r with
 | bad e p => cases h
 | good a => exact ⟨a, rfl, h⟩
theorem map_eq {α β : Type} {r : CkR α} {f : α → β} {b : β} (h : r.map f = .good b) : ∃ a, r = .good a ∧ f a = b := by
 cases r with
 | bad e p => cases h
 | good a => injection h with h; exact ⟨a, rfl, h⟩
end CkR
structure VarM where
 name : List UInt8
 ty : Nat
 slot : Nat
 deriving DecidableEq
structure CkS where
 types : List Nat
 slots : List Int
 fn : List Nat
 vars : List VarM
 size : Nat
def findV (vars : List VarM) (name : List UInt8) : Option VarM := vars.find? fun v => decide (v.name = name)
def findF (fs : List FuncM) (name : List UInt8) : Option Nat := fs.findIdx? fun f => decide (f.name = name)
def binT (sign : List UInt8) (a b : Nat) : Nat :=
 if a ≠ b then 0
 else if sign = [124, 124] ∨ sign = [38, 38] then (if a = 2 then 2 else 0)
 else if sign = [60] ∨ sign = [60, 61] then (if a = 1 then 2 else 0)
 else if sign = [61, 61] ∨ sign = [33, 61] then (if a = 1 ∨ a = 2 ∨ a = 3 then 2 else 0)
 else if sign = [43] then (if a = 1 ∨ a = 3 then a else 0)
 else if a = 1 then 1 else 0
section
variable (ns : List NodeM) (fs : List FuncM) (k : Nat)
def namedC (x : Nat) (name : List UInt8) (s : CkS) : CkR (Nat × CkS) :=
 match findV s.vars name with
 | none => .bad 40 x
 | some v => .good (v.ty, { s with slots := s.slots.set x v.slot })
section
variable (ex : Nat → CkS → CkR (Nat × CkS))
def argsC : List Nat → CkS → CkR (List Nat × CkS)
 | [], s => .good ([], s)
 | a :: l, s => (ex a s).bind fun r => (argsC l r.2).map fun q => (r.1 :: q.1, q.2)
def callC (x : Nat) (nd : NodeM) (s : CkS) : CkR (Nat × CkS) :=
 match findF fs nd.name with
 | none => .bad 40 x
 | some j => (argsC ex nd.l s).bind fun r =>
  if r.1.length ≠ ((fs[j]?.map (·.params)).getD []).length then .bad 43 x
  else if r.1 ≠ ((fs[j]?.map (·.params)).getD []).map (·.2) then .bad 42 x
  else .good ((fs[j]?.map (·.ret)).getD 0, r.2)
def tellsC (x : Nat) (nd : NodeM) (s : CkS) : CkR (Nat × CkS) :=
 if nd.kind = 1 ∨ nd.kind = 19 then .good (1, s)
 else if nd.kind = 2 then .good (2, s)
 else if nd.kind = 3 then .good (3, s)
 else if nd.kind = 4 then namedC x nd.name s
 else if nd.kind = 21 then callC fs ex x nd s
 else if nd.kind = 5 then (namedC x nd.name s).bind fun t => (ex (nd.l.headD 0) t.2).bind fun r => if t.1 = 4 ∧ r.1 = 1 then .good (1, r.2) else .bad 42 x
 else if nd.kind = 9 then (ex (nd.l.headD 0) s).bind fun a => (ex (nd.l.getD 1 0) a.2).bind fun b =>
  if binT nd.name a.1 b.1 = 0 then .bad 42 x else .good (binT nd.name a.1 b.1, b.2)
 else (ex (nd.l.headD 0) s).bind fun r =>
  if nd.kind = 6 then (if r.1 = 3 ∨ r.1 = 4 then .good (1, r.2) else .bad 42 x)
  else if nd.kind = 7 then (if r.1 = 1 then .good (1, r.2) else .bad 42 x)
  else if nd.kind = 8 then (if r.1 = 2 then .good (2, r.2) else .bad 42 x)
  else (if r.1 = 1 then .good (4, r.2) else .bad 42 x)
end
def exprC : Nat → Nat → CkS → CkR (Nat × CkS)
 | 0, _, _ => .bad 99 0
 | f + 1, x, s =>
  match ns[x]? with
  | none => .bad 98 0
  | some nd => (tellsC fs (exprC f) x nd s).map fun r => (r.1, { r.2 with types := r.2.types.set x r.1, fn := r.2.fn.set x k })
section
variable (ex : Nat → CkS → CkR (Nat × CkS)) (bl : Nat → CkS → CkR CkS)
def letC (x : Nat) (nd : NodeM) (s : CkS) : CkR CkS :=
 (ex (nd.l.headD 0) s).bind fun r =>
   if r.1 = 0 then .bad 42 x
   else if (findV r.2.vars nd.name).isSome then .bad 41 x
   else if 24 ≤ r.2.size then .bad 4 x
   else .good { r.2 with slots := r.2.slots.set x r.2.size, vars := r.2.vars ++ [⟨nd.name, r.1, r.2.size⟩], size := r.2.size + 1 }
def seqC (st : Nat → CkS → CkR CkS) : List Nat → CkS → CkR CkS
 | [], s => .good s
 | a :: l, s => (st a s).bind fun s => seqC st l s
def retC (x : Nat) (nd : NodeM) (s : CkS) : CkR CkS :=
 if (nd.l.length = 1) ↔ ((fs[k]?.map (·.ret)).getD 0 ≠ 0) then
  (if nd.l.length = 1 then (ex (nd.l.headD 0) s).bind fun r => if r.1 = (fs[k]?.map (·.ret)).getD 0 then .good r.2 else .bad 42 x else .good s)
 else .bad 43 x
def stmC (x : Nat) (nd : NodeM) (s : CkS) : CkR CkS :=
 let s := { s with fn := s.fn.set x k }
 if nd.kind = 10 then letC ex x nd s
 else if nd.kind = 11 then (namedC x nd.name s).bind fun t => (ex (nd.l.headD 0) t.2).bind fun r => if t.1 = r.1 then .good r.2 else .bad 42 x
 else if nd.kind = 12 then (namedC x nd.name s).bind fun t => (ex (nd.l.headD 0) t.2).bind fun r => (ex (nd.l.getD 1 0) r.2).bind fun q => if t.1 = 4 ∧ r.1 = 1 ∧ q.1 = 1 then .good q.2 else .bad 42 x
 else if nd.kind = 13 then (ex (nd.l.headD 0) s).map (·.2)
 else if nd.kind = 14 then (ex (nd.l.headD 0) s).bind fun r => if r.1 ≠ 4 then .good r.2 else .bad 42 x
 else if nd.kind = 17 then retC fs k ex x nd s
 else (ex (nd.l.headD 0) s).bind fun r => if r.1 = 2 then seqC bl nd.l.tail r.2 else .bad 42 x
end
def blockC : Nat → Nat → CkS → CkR CkS
 | 0, _, _ => .bad 97 0
 | f + 1, x, s =>
  match ns[x]? with
  | none => .bad 96 0
  | some nd => (seqC (fun a s => match ns[a]? with
   | none => .bad 95 0
   | some na => stmC fs k (exprC ns fs k ns.length) (blockC f) a na s) nd.l { s with fn := s.fn.set x k }).map fun r => { r with vars := r.vars.take s.vars.length }
end
structure ProgM where
 ns : List NodeM
 fs : List FuncM
 types : List Nat
 slots : List Int
 fn : List Nat
 sizes : List Nat
def parsC (body : Nat) : List (List UInt8 × Nat) → List VarM → CkR (List VarM)
 | [], vs => .good vs
 | p :: l, vs => if (findV vs p.1).isSome then .bad 41 body else parsC body l (vs ++ [⟨p.1, p.2, vs.length⟩])
section
variable (ns : List NodeM) (fs : List FuncM)
def funcC (k : Nat) (f : FuncM) (s : CkS) : CkR CkS :=
 (parsC f.body f.params []).bind fun vs => blockC ns fs k ns.length f.body { s with vars := vs, size := vs.length }
def funcsC : Nat → List FuncM → List Nat → CkS → CkR (List Nat × CkS)
 | _, [], zs, s => .good (zs, s)
 | k, f :: l, zs, s => (funcC ns fs k f s).bind fun r => funcsC (k + 1) l (zs ++ [r.size]) r
def isMain (f : FuncM) : Bool := decide (f.name = [109, 97, 105, 110]) && decide (f.params.length = 0) && decide (f.ret = 0)
def twiceC : List (List UInt8) → List FuncM → Option Nat
 | _, [] => none
 | seen, f :: l => if f.name ∈ seen then some f.body else twiceC (seen ++ [f.name]) l
def headsC : CkR Unit :=
 match twiceC [] fs with
 | some b => .bad 41 b
 | none => if fs.any isMain then .good () else .bad 44 0
def startC : CkS := ⟨List.replicate ns.length 0, List.replicate ns.length (-1), List.replicate ns.length 0, [], 0⟩
def checkT : CkR ProgM :=
 (headsC fs).bind fun _ => (funcsC ns fs 0 fs [] (startC ns)).map fun r => ⟨ns, fs, r.2.types, r.2.slots, r.2.fn, r.1⟩
end
inductive SourceR where
 | bad (p e : Nat)
 | good (p : ProgM)
def sourceM (src : List UInt8) : Option SourceR :=
 (parseM src).map fun
   | .bad p e => .bad p e
   | .good ns fs => match checkT ns fs with
    | .bad e x => if e = 44 then .bad 0 44 else .bad ((ns[x]?.map (·.line)).getD 0) e
    | .good p => .good p
end Go.Proofs.YtlbjicjinnnboaaDoor
/- Programs as instructions: the model. -/
namespace Go.Proofs.YtlbjicjinnnboaaDoor
open Go.RowKit
open Pw
structure InsM where
 op : Nat
 a : Int
 b : Nat
 s : List UInt8
 deriving DecidableEq
section
variable (p : ProgM)
def slotP (x : Nat) : Int := p.slots.getD x (-1)
def typeP (x : Nat) : Nat := p.types.getD x 0
def opBin (name : List UInt8) : Nat := if name = [38, 38] then 18 else if name = [124, 124] then 19 else 7
section
variable (ex : Nat → Nat → List InsM)
def exprN (x : Nat) (nd : NodeM) (at_ : Nat) : List InsM :=
 if nd.kind = 1 then [⟨2, nd.n, 0, []⟩]
 else if nd.kind = 2 then [⟨3, nd.n, 0, []⟩]
 else if nd.kind = 3 then [⟨4, 0, 0, nd.name⟩]
 else if nd.kind = 4 then [⟨5, slotP p x, typeP p x, []⟩]
 else if nd.kind = 5 then ex (nd.l.headD 0) at_ ++ [⟨11, slotP p x, 0, []⟩]
 else if nd.kind = 6 then ex (nd.l.headD 0) at_ ++ [⟨10, 0, 0, []⟩]
 else if nd.kind = 7 then ex (nd.l.headD 0) at_ ++ [⟨8, 0, 0, []⟩]
 else if nd.kind = 8 then ex (nd.l.headD 0) at_ ++ [⟨9, 0, 0, []⟩]
 else if opBin nd.name = 7 then
  ex (nd.l.headD 0) at_ ++ ex (nd.l.getD 1 0) (at_ + (ex (nd.l.headD 0) at_).length) ++ [⟨7, 0, 0, nd.name⟩]
 else
  let x := ex (nd.l.headD 0) at_
  let y := ex (nd.l.getD 1 0) (at_ + x.length + 1)
  x ++ [⟨opBin nd.name, ((at_ + x.length + 1 + y.length : Nat) : Int), 0, []⟩] ++ y
end
def exprL : Nat → Nat → Nat → List InsM
 | 0, _, _ => []
 | f + 1, x, at_ => match p.ns[x]? with
  | none => []
  | some nd => exprN p (exprL f) x nd at_
section
variable (ex : Nat → Nat → List InsM) (bl : Nat → Nat → List InsM)
def seqL (st : Nat → Nat → List InsM) : List Nat → Nat → List InsM
 | [], _ => []
 | a :: l, at_ => st a at_ ++ seqL st l (at_ + (st a at_).length)
def callL (nd : NodeM) (at_ : Nat) : List InsM :=
 seqL ex nd.l at_ ++ [⟨20, match findF p.fs nd.name with | some j => (j : Int) | none => -1, nd.l.length, []⟩]
def rightL (x : Nat) (at_ : Nat) : List InsM :=
 match p.ns[x]? with
 | none => []
 | some nd =>
  if nd.kind = 19 then [⟨14, 0, 0, []⟩]
  else if nd.kind = 20 then ex (nd.l.headD 0) at_ ++ [⟨13, 0, 0, []⟩]
  else if nd.kind = 21 then callL p ex nd at_
  else ex x at_
def testsL (nd : NodeM) (at_ : Nat) : List InsM :=
 let x := ex (nd.l.headD 0) at_
 let b := bl (nd.l.getD 1 0) (at_ + x.length + 1)
 if nd.kind = 16 then
  let b := b ++ [⟨16, ((at_ - 1 : Nat) : Int), 0, []⟩]
  x ++ [⟨17, ((at_ + x.length + 1 + b.length : Nat) : Int), 0, []⟩] ++ b
 else if nd.l.length = 3 then
  let c := bl (nd.l.getD 2 0) (at_ + x.length + 1 + b.length + 1)
  let b := b ++ [⟨16, ((at_ + x.length + 1 + b.length + 1 + c.length : Nat) : Int), 0, []⟩]
  x ++ [⟨17, ((at_ + x.length + 1 + b.length : Nat) : Int), 0, []⟩] ++ b ++ c
 else x ++ [⟨17, ((at_ + x.length + 1 + b.length : Nat) : Int), 0, []⟩] ++ b
def stmN (x : Nat) (nd : NodeM) (at_ : Nat) : List InsM :=
 ⟨1, (x : Int), 0, []⟩ ::
 (if nd.kind = 10 ∨ nd.kind = 11 then rightL p ex (nd.l.headD 0) (at_ + 1) ++ [⟨6, slotP p x, 0, []⟩]
 else if nd.kind = 12 then
   let x1 := ex (nd.l.headD 0) (at_ + 1)
   x1 ++ ex (nd.l.getD 1 0) (at_ + 1 + x1.length) ++ [⟨12, slotP p x, 0, []⟩]
 else if nd.kind = 13 then
   (match p.ns[nd.l.headD 0]? with | none => [] | some c => callL p ex c (at_ + 1)) ++ [⟨23, 0, 0, []⟩]
 else if nd.kind = 14 then ex (nd.l.headD 0) (at_ + 1) ++ [⟨15, 0, 0, []⟩]
 else if nd.kind = 17 then (if nd.l.length = 0 then [⟨22, 0, 0, []⟩] else ex (nd.l.headD 0) (at_ + 1) ++ [⟨21, 0, 0, []⟩])
 else testsL ex bl nd (at_ + 1))
end
def blockL : Nat → Nat → Nat → List InsM
 | 0, _, _ => []
 | f + 1, x, at_ => match p.ns[x]? with
  | none => []
  | some nd => seqL (fun a at_ => match p.ns[a]? with
   | none => []
   | some na => stmN p (exprL p p.ns.length) (blockL f) a na at_) nd.l at_
def fnL (f : FuncM) (at_ : Nat) : List InsM := blockL p p.ns.length f.body at_ ++ [⟨22, (f.ret : Int), 0, []⟩]
def fnsL : List FuncM → List InsM → List Nat → List InsM × List Nat
 | [], ins, en => (ins, en)
 | f :: l, ins, en => fnsL l (ins ++ fnL p f ins.length) (en ++ [ins.length])
structure CodeM where
 ins : List InsM
 entry : List Nat
def compM : CodeM := let r := fnsL p p.fs [] []; ⟨r.1, r.2⟩
end
end Go.Proofs.YtlbjicjinnnboaaDoor
/- Subtrees are intervals of nodes; parameters have types. -/
namespace Go.Proofs.YtlbjicjinnnboaaDoor
open Go.RowKit
namespace Pw
inductive Seg (ns : List NodeM) : Nat → List Nat → Nat → Prop where
 | nil (a : Nat) : Seg ns a [] a
 | cons (a x : Nat) (l : List Nat) (b : Nat) (nd : NodeM) (hx : ns[x]? = some nd) (h : Seg ns a nd.l x) (h2 : Seg ns (x + 1) l b) : Seg ns a (x :: l) b
section
variable {ns : List NodeM} {a b c : Nat} {l m : List Nat}
theorem Seg.le (h : Seg ns a l b) : a ≤ b := by
 induction h with
 | nil => exact Nat.le_refl _
 | cons a x l b nd hx h h2 ih1 ih2 => omega
theorem Seg.ext (h : Seg ns a l b) (u : List NodeM) : Seg (ns ++ u) a l b := by
 induction h with
 | nil a => exact .nil a
 | cons a x l b nd hx h h2 ih1 ih2 => exact .cons a x l b nd (by rw [List.getElem?_append_left (List.getElem?_eq_some_iff.1 hx).1]; exact hx) ih1 ih2
theorem Seg.split : ∀ {l m : List Nat} {a b : Nat}, Seg ns a (l ++ m) b → ∃ c, Seg ns a l c ∧ Seg ns c m b
 | [], m, a, b, h => ⟨a, .nil a, h⟩
 | x :: l, m, a, b, h => by
  cases h with
  | cons _ _ _ _ nd hx h h2 =>
   obtain ⟨c, h3, h4⟩ := Seg.split h2
   exact ⟨c, .cons a x l c nd hx h h3, h4⟩
theorem Seg.app (h : Seg ns a l c) (h2 : Seg ns c m b) : Seg ns a (l ++ m) b := by
 induction h with
 | nil a => exact h2
 | cons a x l b nd hx h _ ih1 ih2 => exact .cons _ _ _ _ nd hx h (ih2 h2)
theorem Pst.seg {ns : List NodeM} {st : List Nat} (h : Pst ns st) : Seg ns 0 st ns.length := by
 induction h with
 | nil => exact .nil 0
 | put ns st nd h ih =>
  obtain ⟨c, h1, h2⟩ := ih.split
  rw [List.length_append, List.length_singleton]
  exact (h1.ext _).app (.cons _ _ _ _ nd (by simp) (h2.ext _) (.nil _))
end
section
variable {src : List UInt8} {ts : List Tok}
theorem typed_pos {s : PS} (h : (pTyped ts s).e = 0) : 1 ≤ pType ts s := by
 unfold pTyped at h
 split at h
 · exact (e_fail (by decide) h).elim
 · omega
theorem params_pos : ∀ (n : Nat) (acc : List (List UInt8 × Nat)) (s : PS) (p : List (List UInt8 × Nat) × PS), runParams ts n acc s = some p → p.2.e = 0 → (∀ q ∈ acc, 1 ≤ q.2) → ∀ q ∈ p.1, 1 ≤ q.2
 | 0, _, _, _, h, _, _ => by simp [runParams] at h
 | n + 1, acc, s, p, h, he, ha => by
  have h2 : (pTyped ts (pNamed ts s)).e = 0 → ∀ q ∈ acc ++ [(pName ts s, pType ts (pNamed ts s))], 1 ≤ q.2 := fun h0 q hq => by
    rcases List.mem_append.1 hq with hq | hq
    · exact ha q hq
    · rw [List.mem_singleton.1 hq]; exact typed_pos h0
  simp only [runParams] at h
  split at h
  · exact params_pos n _ _ _ h he (h2 ((params_ext _ _ _ _ h).e0 he))
  · simp only [Option.some.injEq] at h
    subst h; exact h2 he
theorem func_pos {n : Nat} {s : PS} {fs : FuncM × PS} (h : runFunc src ts n s = some fs) (he : fs.2.e = 0) : ∀ p ∈ fs.1.params, 1 ≤ p.2 := by
 simp only [runFunc, Option.bind_eq_some_iff, Option.map_eq_some_iff] at h
 obtain ⟨p, hp, b, hb, rfl⟩ := h
 have h5 := (run_ext _ _ _ _ hb).e0 he
 have h4 : (pMust ts [41] p.2).e = 0 := by
   split at h5
   · exact h5
   · exact ((Ext.refl (pMust ts [41] p.2)).typed (ts := ts)).e0 h5
 have h3 : p.2.e = 0 := e_must (x := [41]) (ts := ts) h4
 split at hp
 · exact params_pos _ _ _ _ hp h3 (fun q hq => by cases hq)
 · simp only [Option.some.injEq] at hp
   subst hp; exact fun q hq => by cases hq
theorem fns_pos : ∀ (n : Nat) (acc : List FuncM) (s : PS) (r : List FuncM × PS), runFns src ts n acc s = some r → r.2.e = 0 → (∀ f ∈ acc, ∀ p ∈ f.params, 1 ≤ p.2) → ∀ f ∈ r.1, ∀ p ∈ f.params, 1 ≤ p.2
 | 0, _, _, _, h, _, _ => by simp [runFns] at h
 | n + 1, acc, s, r, h, he, ha => by
  simp only [runFns] at h
  split at h
  · simp only [Option.some.injEq] at h; subst h; exact ha
  · split at h
    · simp only [Option.some.injEq] at h; subst h; exact ha
    · simp only [Option.bind_eq_some_iff] at h
      obtain ⟨fs, hfs, h⟩ := h
      refine fns_pos n _ _ _ h he (fun f hf => ?_)
      rcases List.mem_append.1 hf with hf | hf
      · exact ha f hf
      · rw [List.mem_singleton.1 hf]; exact func_pos hfs ((fns_ext _ _ _ _ h).e0 he)
end
theorem asc_len : ∀ (l : List Nat) (a n : Nat), l.Pairwise (· < ·) → (∀ x ∈ l, a ≤ x ∧ x < n) → l.length ≤ n - a
 | [], _, _, _, _ => by simp
 | x :: l, a, n, h, hb => by
  obtain ⟨h1, h2⟩ := List.pairwise_cons.1 h
  have := asc_len l (x + 1) n h2 (fun y hy => ⟨h1 y hy, (hb y (List.mem_cons_of_mem _ hy)).2⟩)
  have := hb x (List.mem_cons_self ..)
  rw [List.length_cons]
  omega
structure TreeIs (ns : List NodeM) (fs : List FuncM) : Prop where
 below : Below ns fs
 seg : Seg ns 0 (fs.map (·.body)) ns.length
 pos : ∀ f ∈ fs, ∀ p ∈ f.params, 1 ≤ p.2
 rows : ∀ nd ∈ ns, nd.l.length ≤ 300
theorem TreeIs.ok {ns : List NodeM} {fs : List FuncM} (h : TreeIs ns fs) : TreeOk ns fs := h.below.ok
theorem kids_lt {ns : List NodeM} {nd : NodeM} (h : NodeOk ns nd) : ∀ a ∈ nd.l, a < ns.length := by
 have kl : ∀ {ns : List NodeM} {cls : Nat → Bool} {x : Nat}, Kid ns cls x → x < ns.length := fun h => by
  obtain ⟨c, hc, _⟩ := h
  exact (List.getElem?_eq_some_iff.1 hc).1
 cases h <;> intro x hx <;> simp only [List.mem_cons, List.not_mem_nil, or_false] at hx
 all_goals first
  | exact hx.elim
  | (subst hx; exact kl (by assumption))
  | (rcases hx with hx | hx <;> subst hx <;> exact kl (by assumption))
  | (rcases hx with hx | hx | hx <;> subst hx <;> exact kl (by assumption))
  | (rename_i h1; exact kl (h1 x hx))
theorem parse_is {src : List UInt8} {ns : List NodeM} {fs : List FuncM} (h : parseM src = some (.good ns fs)) : TreeIs ns fs := by
 have h1 := parse_below h
 have hr : ∀ nd ∈ ns, nd.l.length ≤ 300 := by
  intro nd hnd
  obtain ⟨i, hi, e⟩ := List.getElem_of_mem hnd
  have hi2 : ns[i]? = some nd := by rw [List.getElem?_eq_getElem hi, e]
  have h2 := asc_len nd.l 0 300 (h1.asc i nd hi2) (fun x hx => ⟨Nat.zero_le _, by
    have := kids_lt (h1.ok.nodes i nd hi2) x hx
    rw [List.length_take] at this
    have := h1.ok.few
    omega⟩)
  exact h2
 unfold parseM at h
 cases hl : lexM src with
 | bad p e => rw [hl] at h; simp at h
 | good ts =>
  rw [hl] at h
  simp only [parseT, Option.map_eq_some_iff] at h
  obtain ⟨q, hq, h⟩ := h
  split at h
  · cases h
  · rename_i h0
    have h0 : q.2.e = 0 := by simpa using h0
    split at h
    · cases h
    · injection h with e1 e2
      subst e1; subst e2
      exact ⟨h1, (fns_pst _ _ _ _ hq h0 Pst.nil).seg, fns_pos _ _ _ _ hq h0 (fun f hf => by cases hf), hr⟩
end Pw
end Go.Proofs.YtlbjicjinnnboaaDoor
/- What a good check has noted of each node: the ground. -/
namespace Go.Proofs.YtlbjicjinnnboaaDoor
open Go.RowKit
open Pw
def tyK (ty : Nat → Nat) (nd : NodeM) (i : Nat) : Nat := (nd.l[i]?.map ty).getD 0
theorem tyK_congr {ty ty' : Nat → Nat} {nd : NodeM} (he : ∀ x ∈ nd.l, ty x = ty' x) (i : Nat) : tyK ty nd i = tyK ty' nd i := by
 unfold tyK
 cases h : nd.l[i]? with
 | none => rfl
 | some x => show ty x = ty' x; exact he x (List.mem_of_getElem? h)
def KTy (fs : List FuncM) (ty : Nat → Nat) (nd : NodeM) (t : Nat) : Prop :=
 if nd.kind = 1 ∨ nd.kind = 19 then t = 1
 else if nd.kind = 5 ∨ nd.kind = 7 then t = 1 ∧ tyK ty nd 0 = 1
 else if nd.kind = 6 then t = 1 ∧ (tyK ty nd 0 = 3 ∨ tyK ty nd 0 = 4)
 else if nd.kind = 2 then t = 2
 else if nd.kind = 8 then t = 2 ∧ tyK ty nd 0 = 2
 else if nd.kind = 3 then t = 3
 else if nd.kind = 20 then t = 4 ∧ tyK ty nd 0 = 1
 else if nd.kind = 9 then 1 ≤ t ∧ t ≤ 3 ∧ tyK ty nd 0 = tyK ty nd 1 ∧ tyK ty nd 0 ≤ 3 ∧ t = binT nd.name (tyK ty nd 0) (tyK ty nd 1)
 else if nd.kind = 4 then 1 ≤ t ∧ t ≤ 4
 else if nd.kind = 21 then ∃ j f, findF fs nd.name = some j ∧ fs[j]? = some f ∧ nd.l.map ty = f.params.map (·.2) ∧ t = f.ret
 else if nd.kind = 14 then t = 0 ∧ 1 ≤ tyK ty nd 0 ∧ tyK ty nd 0 ≤ 3
 else if nd.kind = 15 ∨ nd.kind = 16 then t = 0 ∧ tyK ty nd 0 = 2
 else if nd.kind = 12 then t = 0 ∧ tyK ty nd 0 = 1 ∧ tyK ty nd 1 = 1
 else t = 0
theorem KTy.congr {fs : List FuncM} {ty ty' : Nat → Nat} {nd : NodeM} {t : Nat} (h : KTy fs ty nd t) (he : ∀ x ∈ nd.l, ty x = ty' x) : KTy fs ty' nd t := by
 have h2 : nd.l.map ty = nd.l.map ty' := List.map_congr_left he
 unfold KTy at h ⊢
 rw [← tyK_congr he 0, ← tyK_congr he 1, ← h2]
 exact h
def nameK (k : Nat) : Bool := decide (k = 4) || decide (k = 5) || decide (k = 10) || decide (k = 11) || decide (k = 12)
structure NodeAt (fs : List FuncM) (k z : Nat) (s : CkS) (y : Nat) (nd : NodeM) : Prop where
 fn : s.fn[y]? = some k
 ty : ∃ t, s.types[y]? = some t ∧ KTy fs (fun i => s.types.getD i 0) nd t
 sl : ∃ v : Int, s.slots[y]? = some v ∧ (nameK nd.kind = true → 0 ≤ v ∧ v < z) ∧ (nameK nd.kind = false → v = -1)
structure Turns (a b : Nat) (s s' : CkS) : Prop where
 lt : s'.types.length = s.types.length
 ls : s'.slots.length = s.slots.length
 lf : s'.fn.length = s.fn.length
 out : ∀ y, (y < a ∨ b ≤ y) → s'.types[y]? = s.types[y]? ∧ s'.slots[y]? = s.slots[y]? ∧ s'.fn[y]? = s.fn[y]?
theorem Turns.refl (a b : Nat) (s : CkS) : Turns a b s s := ⟨rfl, rfl, rfl, fun _ _ => ⟨rfl, rfl, rfl⟩⟩
theorem Turns.trans {a b : Nat} {s s1 s2 : CkS} (h : Turns a b s s1) (g : Turns a b s1 s2) : Turns a b s s2 :=
 ⟨g.lt.trans h.lt, g.ls.trans h.ls, g.lf.trans h.lf, fun y hy => ⟨(g.out y hy).1.trans (h.out y hy).1, (g.out y hy).2.1.trans (h.out y hy).2.1, (g.out y hy).2.2.trans (h.out y hy).2.2⟩⟩
theorem Turns.mono {a b a' b' : Nat} {s s' : CkS} (h : Turns a b s s') (ha : a' ≤ a) (hb : b ≤ b') : Turns a' b' s s' :=
 ⟨h.lt, h.ls, h.lf, fun y hy => h.out y (by omega)⟩
theorem Turns.set {x : Nat} {s : CkS} (ts : List Nat) (ss : List Int) (ff : List Nat) (vs : List VarM) (z : Nat) (h1 : ts = s.types ∨ ∃ t, ts = s.types.set x t) (h2 : ss = s.slots ∨ ∃ t, ss = s.slots.set x t) (h3 : ff = s.fn ∨ ∃ t, ff = s.fn.set x t) :
  Turns x (x + 1) s ⟨ts, ss, ff, vs, z⟩ := by
 have key : ∀ {α : Type} (l l' : List α), (l' = l ∨ ∃ t, l' = l.set x t) → l'.length = l.length ∧ ∀ y, (y < x ∨ x + 1 ≤ y) → l'[y]? = l[y]? := by
  intro α l l' h
  rcases h with rfl | ⟨t, rfl⟩
  · exact ⟨rfl, fun _ _ => rfl⟩
  · exact ⟨List.length_set, fun y hy => List.getElem?_set_ne (by omega)⟩
 exact ⟨(key _ _ h1).1, (key _ _ h2).1, (key _ _ h3).1, fun y hy => ⟨(key _ _ h1).2 y hy, (key _ _ h2).2 y hy, (key _ _ h3).2 y hy⟩⟩
def kindN (ns : List NodeM) (y : Nat) : Nat := (ns[y]?.map (·.kind)).getD 0
def letsN (ns : List NodeM) (a b : Nat) : Nat := (List.range' a (b - a)).countP fun y => decide (kindN ns y = 10)
theorem letsN_self (ns : List NodeM) (a : Nat) : letsN ns a a = 0 := by unfold letsN; rw [Nat.sub_self]; rfl
theorem letsN_app {ns : List NodeM} {a b c : Nat} (h1 : a ≤ b) (h2 : b ≤ c) : letsN ns a c = letsN ns a b + letsN ns b c := by
 unfold letsN
 rw [← List.countP_append]
 congr 1
 have := List.range'_append (s := a) (m := b - a) (n := c - b) (step := 1)
 rw [Nat.one_mul, show a + (b - a) = b by omega, show b - a + (c - b) = c - a by omega] at this
 exact this.symm
theorem letsN_one {ns : List NodeM} {x : Nat} {nd : NodeM} (h : ns[x]? = some nd) : letsN ns x (x + 1) = if nd.kind = 10 then 1 else 0 := by
 unfold letsN
 rw [show x + 1 - x = 1 by omega]
 show List.countP _ [x] = _
 rw [List.countP_singleton]
 unfold kindN
 rw [h]
 by_cases hk : nd.kind = 10 <;> simp [hk]
structure Fresh (ns : List NodeM) (a b : Nat) (s : CkS) : Prop where
 lt : s.types.length = ns.length
 ls : s.slots.length = ns.length
 lf : s.fn.length = ns.length
 hb : b ≤ ns.length
 new : ∀ y, a ≤ y → y < b → s.types[y]? = some 0 ∧ s.slots[y]? = some (-1)
theorem Fresh.turn {ns : List NodeM} {a b a' b' : Nat} {s s' : CkS} (h : Fresh ns a b s) (t : Turns a' b' s s') (hd : b' ≤ a ∨ b ≤ a') : Fresh ns a b s' :=
 ⟨t.lt.trans h.lt, t.ls.trans h.ls, t.lf.trans h.lf, h.hb, fun y h1 h2 => ⟨(t.out y (by omega)).1.trans (h.new y h1 h2).1, (t.out y (by omega)).2.1.trans (h.new y h1 h2).2⟩⟩
theorem Fresh.sub {ns : List NodeM} {a b a' b' : Nat} {s : CkS} (h : Fresh ns a b s) (ha : a ≤ a') (hb : b' ≤ b) : Fresh ns a' b' s :=
 ⟨h.lt, h.ls, h.lf, by have := h.hb; omega, fun y h1 h2 => h.new y (by omega) (by omega)⟩
def VarsOk (s : CkS) : Prop := ∀ v ∈ s.vars, 1 ≤ v.ty ∧ v.ty ≤ 4 ∧ v.slot < s.size
structure Did (ns : List NodeM) (fs : List FuncM) (k a b : Nat) (s s' : CkS) : Prop where
 turns : Turns a b s s'
 at_ : ∀ y nd, a ≤ y → y < b → ns[y]? = some nd → NodeAt fs k s'.size s' y nd
 size : s'.size = s.size + letsN ns a b
 lets : ∀ y nd, a ≤ y → y < b → ns[y]? = some nd → nd.kind = 10 → s'.slots[y]? = some ((s.size + letsN ns a y : Nat) : Int)
section
variable {ns : List NodeM} {fs : List FuncM} {k a b c : Nat} {s s0 s1 s2 s' : CkS}
theorem NodeAt.keep {z z' y : Nat} {nd : NodeM} (h : NodeAt fs k z s y nd) (hy : y < b) (hk : ∀ x ∈ nd.l, x < y) (t : Turns b c s s') (hz : z ≤ z') : NodeAt fs k z' s' y nd := by
 obtain ⟨h1, ⟨u, h2, h3⟩, v, h4, h5, h6⟩ := h
 refine ⟨(t.out y (.inl hy)).2.2.trans h1, ⟨u, (t.out y (.inl hy)).1.trans h2, h3.congr (fun x hx => ?_)⟩, v, (t.out y (.inl hy)).2.1.trans h4, fun e => by have := h5 e; omega, h6⟩
 show s.types.getD x 0 = s'.types.getD x 0
 rw [List.getD_eq_getElem?_getD, List.getD_eq_getElem?_getD, (t.out x (.inl (by have := hk x hx; omega))).1]
theorem Did.nil (ns : List NodeM) (fs : List FuncM) (k a : Nat) (s : CkS) : Did ns fs k a a s s :=
 ⟨Turns.refl _ _ _, fun y nd h1 h2 => by omega, by rw [letsN_self, Nat.add_zero], fun y nd h1 h2 => by omega⟩
theorem kidsLt (hn : NodesOk ns) {x : Nat} {nd : NodeM} (hx : ns[x]? = some nd) : ∀ y ∈ nd.l, y < x := fun y hy => by
 have := kids_lt (hn x nd hx) y hy
 rw [List.length_take] at this
 omega
theorem Did.trans (hn : NodesOk ns) (hab : a ≤ b) (hbc : b ≤ c) (h : Did ns fs k a b s s1) (g : Did ns fs k b c s1 s2) : Did ns fs k a c s s2 := by
 refine ⟨(h.turns.mono (Nat.le_refl _) hbc).trans (g.turns.mono hab (Nat.le_refl _)), fun y nd h1 h2 hy => ?_, by rw [g.size, h.size, letsN_app hab hbc]; omega, fun y nd h1 h2 hy hk => ?_⟩
 · by_cases hyb : y < b
   · exact (h.at_ y nd h1 hyb hy).keep hyb (kidsLt hn hy) g.turns (by rw [g.size]; omega)
   · exact g.at_ y nd (by omega) h2 hy
 · by_cases hyb : y < b
   · exact (g.turns.out y (.inl hyb)).2.1.trans (h.lets y nd h1 hyb hy hk)
   · rw [g.lets y nd (by omega) h2 hy hk, h.size, letsN_app (ns := ns) hab (show b ≤ y by omega), Nat.add_assoc]
theorem Did.node (hn : NodesOk ns) {x : Nat} {nd : NodeM} (hx : ns[x]? = some nd) (hax : a ≤ x) (T0 : Turns x (x + 1) s s0) (z0 : s0.size = s.size) (D : Did ns fs k a x s0 s1) (T1 : Turns x (x + 1) s1 s') (z1 : s'.size = s1.size + if nd.kind = 10 then 1 else 0)
   (hA : NodeAt fs k s'.size s' x nd) (hL : nd.kind = 10 → s'.slots[x]? = some (s1.size : Int)) : Did ns fs k a (x + 1) s s' := by
 refine ⟨((T0.mono hax (Nat.le_refl _)).trans (D.turns.mono (Nat.le_refl _) (Nat.le_succ _))).trans (T1.mono hax (Nat.le_refl _)), fun y nd' h1 h2 hy => ?_, by rw [z1, D.size, z0, letsN_app hax (Nat.le_succ x), letsN_one hx]; omega, fun y nd' h1 h2 hy hk => ?_⟩
 · by_cases hyx : y < x
   · exact (D.at_ y nd' h1 hyx hy).keep hyx (kidsLt hn hy) T1 (by rw [z1]; omega)
   · have : y = x := by omega
     subst this
     rw [hx] at hy; injection hy with hy; subst hy
     exact hA
 · by_cases hyx : y < x
   · rw [(T1.out y (.inl hyx)).2.1, D.lets y nd' h1 hyx hy hk, z0]
   · have : y = x := by omega
     subst this
     rw [hx] at hy; injection hy with hy; subst hy
     rw [hL hk, D.size, z0]
theorem Did.vars (h : Did ns fs k a b s s') (vs : List VarM) : Did ns fs k a b s { s' with vars := vs } :=
 ⟨⟨h.turns.lt, h.turns.ls, h.turns.lf, h.turns.out⟩, fun y nd h1 h2 h3 => ⟨(h.at_ y nd h1 h2 h3).fn, (h.at_ y nd h1 h2 h3).ty, (h.at_ y nd h1 h2 h3).sl⟩, h.size, h.lets⟩
theorem seg0 (h : Seg ns a [] b) : b = a := by cases h; rfl
theorem seg1 {u : Nat} (h : Seg ns a [u] b) : ∃ nd, ns[u]? = some nd ∧ Seg ns a nd.l u ∧ b = u + 1 := by
 cases h with
 | cons _ _ _ _ nd hx h h2 => exact ⟨nd, hx, h, seg0 h2⟩
theorem seg2 {u v : Nat} (h : Seg ns a [u, v] b) : ∃ n1 n2, ns[u]? = some n1 ∧ Seg ns a n1.l u ∧ ns[v]? = some n2 ∧ Seg ns (u + 1) n2.l v ∧ b = v + 1 := by
 cases h with
 | cons _ _ _ _ nd hx h h2 =>
  obtain ⟨n2, h3, h4, h5⟩ := seg1 h2
  exact ⟨nd, n2, hx, h, h3, h4, h5⟩
theorem kidTake {cls : Nat → Bool} {x i : Nat} (h : Kid (ns.take i) cls x) {nd : NodeM} (hx : ns[x]? = some nd) : cls nd.kind = true := by
 obtain ⟨c, hc, hk⟩ := h
 have : x < (ns.take i).length := (List.getElem?_eq_some_iff.1 hc).1
 rw [List.getElem?_take] at hc
 split at hc
 · rw [hx] at hc; injection hc with hc; subst hc; exact hk
 · cases hc
theorem clsER {k : Nat} (h : clsE k = true) : clsR k = true := by unfold clsR; rw [h]; rfl
end
structure ExOut (ns : List NodeM) (fs : List FuncM) (k a x : Nat) (s s' : CkS) (nd : NodeM) (t : Nat) : Prop where
 did : Did ns fs k a (x + 1) s s'
 vars : s'.vars = s.vars
 size : s'.size = s.size
 ty : s'.types[x]? = some t
 cls : clsE nd.kind = true → 1 ≤ t ∧ t ≤ 4
 le : t ≤ 4
def ExOk (ns : List NodeM) (fs : List FuncM) (k : Nat) (ex : Nat → CkS → CkR (Nat × CkS)) : Prop :=
 ∀ x s t s' nd a, ns[x]? = some nd → clsR nd.kind = true → Seg ns a nd.l x → Fresh ns a (x + 1) s → VarsOk s → ex x s = .good (t, s') → ExOut ns fs k a x s s' nd t
section
variable {ns : List NodeM} {fs : List FuncM} {k a b c : Nat} {s s0 s1 s2 s' : CkS} {ex : Nat → CkS → CkR (Nat × CkS)}
theorem VarsOk.eq (h : VarsOk s) (e1 : s'.vars = s.vars) (e2 : s'.size = s.size) : VarsOk s' := fun v hv => by rw [e2]; exact h v (by rw [← e1]; exact hv)
theorem getD_some {l : List Nat} {i t : Nat} (h : l[i]? = some t) : l.getD i 0 = t := by rw [List.getD_eq_getElem?_getD, h]; rfl
theorem args_did (hn : NodesOk ns) (hex : ExOk ns fs k ex) : ∀ {l : List Nat} {a b : Nat} {s s' : CkS} {r : List Nat}, Seg ns a l b → (∀ x ∈ l, ∃ nd, ns[x]? = some nd ∧ clsE nd.kind = true) → Fresh ns a b s → VarsOk s → argsC ex l s = .good (r, s') →
  Did ns fs k a b s s' ∧ s'.vars = s.vars ∧ s'.size = s.size ∧ r = l.map fun i => s'.types.getD i 0
 | [], a, b, s, s', r, h, _, hf, _, he => by
  have := seg0 h
  subst this
  injection he with he
  injection he with e1 e2
  subst e1; subst e2
  exact ⟨Did.nil _ _ _ _ _, rfl, rfl, rfl⟩
 | x :: l, a, b, s, s', r, h, hc, hf, hv, he => by
  cases h with
  | cons _ _ _ _ nd hx h h2 =>
   unfold argsC at he
   obtain ⟨q, hq, he⟩ := CkR.bind_eq he
   obtain ⟨u, hu, he⟩ := CkR.map_eq he
   injection he with e1 e2
   subst e1; subst e2
   obtain ⟨nd', hx', hcl⟩ := hc x (List.mem_cons_self ..)
   rw [hx] at hx'; injection hx' with hx'; subst hx'
   have hxb : x + 1 ≤ b := h2.le
   have hax : a ≤ x := h.le
   have o := hex x s q.1 q.2 nd a hx (clsER hcl) h (hf.sub (Nat.le_refl _) hxb) hv hq
   have i := args_did hn hex h2 (fun y hy => hc y (List.mem_cons_of_mem _ hy)) ((hf.sub (by omega) (Nat.le_refl _)).turn o.did.turns (.inl (Nat.le_refl _))) (hv.eq o.vars o.size) (r := u.1) (s' := u.2) hu
   refine ⟨o.did.trans hn (by omega) hxb i.1, i.2.1.trans o.vars, i.2.2.1.trans o.size, ?_⟩
   rw [List.map_cons, ← i.2.2.2]
   congr 1
   exact (getD_some ((i.1.turns.out x (.inl (Nat.lt_succ_self x))).1.trans o.ty)).symm
theorem ex_fin (hn : NodesOk ns) {x t : Nat} {nd : NodeM} (hx : ns[x]? = some nd) (hax : a ≤ x) (hcl : nd.kind ≠ 10) (T0 : Turns x (x + 1) s s0) (v0 : s0.vars = s.vars) (z0 : s0.size = s.size) (D : Did ns fs k a x s0 s1) (v1 : s1.vars = s0.vars) (z1 : s1.size = s0.size)
   (fr : Fresh ns a (x + 1) s) (hk : KTy fs (fun i => s1.types.getD i 0) nd t) (hs : ∃ v : Int, s1.slots[x]? = some v ∧ (nameK nd.kind = true → 0 ≤ v ∧ v < s.size) ∧ (nameK nd.kind = false → v = -1)) (hc : clsE nd.kind = true → 1 ≤ t ∧ t ≤ 4) (hle : t ≤ 4) :
   ExOut ns fs k a x s { s1 with types := s1.types.set x t, fn := s1.fn.set x k } nd t := by
 have hb := fr.hb
 have l1 : x < s1.types.length := by rw [D.turns.lt, T0.lt, fr.lt]; omega
 have l2 : x < s1.fn.length := by rw [D.turns.lf, T0.lf, fr.lf]; omega
 have T1 : Turns x (x + 1) s1 { s1 with types := s1.types.set x t, fn := s1.fn.set x k } := Turns.set _ _ _ _ _ (.inr ⟨t, rfl⟩) (.inl rfl) (.inr ⟨k, rfl⟩)
 have ht : (s1.types.set x t)[x]? = some t := by rw [List.getElem?_set_self l1]
 refine ⟨Did.node hn hx hax T0 z0 D T1 (by rw [if_neg hcl]; rfl) ?_ (fun e => absurd e hcl), v1.trans v0, z1.trans z0, ht, hc, hle⟩
 refine ⟨?_, ⟨t, ht, hk.congr (fun y hy => ?_)⟩, ?_⟩
 · show (s1.fn.set x k)[x]? = some k
   rw [List.getElem?_set_self l2]
 · have := kidsLt hn hx y hy
   show s1.types.getD y 0 = (s1.types.set x t).getD y 0
   rw [List.getD_eq_getElem?_getD, List.getD_eq_getElem?_getD, List.getElem?_set_ne (by omega)]
 · obtain ⟨v, h1, h2, h3⟩ := hs
   exact ⟨v, h1, fun e => by have := h2 e; show 0 ≤ v ∧ v < (s1.size : Int); rw [z1, z0]; exact this, h3⟩
end
end Go.Proofs.YtlbjicjinnnboaaDoor
/- What a good check has noted of each node: expressions. -/
namespace Go.Proofs.YtlbjicjinnnboaaDoor
open Go.RowKit
open Pw
section
variable {ns : List NodeM} {fs : List FuncM} {k a b c : Nat} {s s0 s1 s2 s' : CkS} {ex : Nat → CkS → CkR (Nat × CkS)}
theorem un_outR (hex : ExOk ns fs k ex) {u x : Nat} (h : Seg ns a [u] x) (hk : Kid (ns.take x) clsR u) (hf : Fresh ns a x s) (hv : VarsOk s) {r : Nat × CkS} (he : ex u s = .good r) :
  Did ns fs k a x s r.2 ∧ r.2.vars = s.vars ∧ r.2.size = s.size ∧ r.2.types.getD u 0 = r.1 ∧ r.1 ≤ 4 := by
 obtain ⟨nd, hu, h1, rfl⟩ := seg1 h
 have o := hex u s r.1 r.2 nd a hu (kidTake hk hu) h1 hf hv he
 exact ⟨o.did, o.vars, o.size, getD_some o.ty, o.le⟩
theorem un_out (hex : ExOk ns fs k ex) {u x : Nat} (h : Seg ns a [u] x) (hk : Kid (ns.take x) clsE u) (hf : Fresh ns a x s) (hv : VarsOk s) {r : Nat × CkS} (he : ex u s = .good r) :
  Did ns fs k a x s r.2 ∧ r.2.vars = s.vars ∧ r.2.size = s.size ∧ r.2.types.getD u 0 = r.1 ∧ 1 ≤ r.1 ∧ r.1 ≤ 4 := by
 obtain ⟨nd, hu, h1, rfl⟩ := seg1 h
 have hc := kidTake hk hu
 have o := hex u s r.1 r.2 nd a hu (clsER hc) h1 hf hv he
 exact ⟨o.did, o.vars, o.size, getD_some o.ty, o.cls hc⟩
theorem two_out (hn : NodesOk ns) (hex : ExOk ns fs k ex) {u v x : Nat} (h : Seg ns a [u, v] x) (hk : Kid (ns.take x) clsE u) (hk2 : Kid (ns.take x) clsE v) (hf : Fresh ns a x s) (hv : VarsOk s) {r q : Nat × CkS} (he : ex u s = .good r) (he2 : ex v r.2 = .good q) :
  Did ns fs k a x s q.2 ∧ q.2.vars = s.vars ∧ q.2.size = s.size ∧ q.2.types.getD u 0 = r.1 ∧ q.2.types.getD v 0 = q.1 ∧ (1 ≤ r.1 ∧ r.1 ≤ 4) ∧ 1 ≤ q.1 ∧ q.1 ≤ 4 := by
 obtain ⟨n1, n2, hu, h1, hv2, h2, rfl⟩ := seg2 h
 have hc := kidTake hk hu
 have hc2 := kidTake hk2 hv2
 have l1 := h1.le
 have l2 := h2.le
 have o := hex u s r.1 r.2 n1 a hu (clsER hc) h1 (hf.sub (Nat.le_refl _) (by omega)) hv he
 have o2 := hex v r.2 q.1 q.2 n2 (u + 1) hv2 (clsER hc2) h2 ((hf.sub (a' := u + 1) (by omega) (Nat.le_refl _)).turn o.did.turns (.inl (Nat.le_refl _))) (hv.eq o.vars o.size) he2
 exact ⟨o.did.trans hn (by omega) (by omega) o2.did, o2.vars.trans o.vars, o2.size.trans o.size, getD_some ((o2.did.turns.out u (.inl (Nat.lt_succ_self u))).1.trans o.ty), getD_some o2.ty, o.cls hc, o2.cls hc2⟩
theorem find_mem {vs : List VarM} {name : List UInt8} {v : VarM} (h : findV vs name = some v) : v ∈ vs := List.mem_of_find?_eq_some h
theorem named_eq {x : Nat} {name : List UInt8} {q : Nat × CkS} (h : namedC x name s = .good q) : ∃ v, findV s.vars name = some v ∧ q = (v.ty, { s with slots := s.slots.set x v.slot }) := by
 unfold namedC at h
 cases hf : findV s.vars name with
 | none => rw [hf] at h; cases h
 | some v => rw [hf] at h; injection h with h; exact ⟨v, rfl, h.symm⟩
theorem binT_le {sg : List UInt8} {a b : Nat} (h : binT sg a b ≠ 0) : a = b ∧ 1 ≤ a ∧ a ≤ 3 ∧ 1 ≤ binT sg a b ∧ binT sg a b ≤ 3 := by
 unfold binT at h ⊢
 by_cases e : a ≠ b
 · rw [if_pos e] at h; exact absurd rfl h
 · rw [if_neg e] at h ⊢
   refine ⟨by omega, ?_⟩
   split at h <;> (try split at h) <;> (try split at h) <;> (try split at h) <;> (try split at h) <;> simp_all <;> omega
theorem exprC_did (hn : NodesOk ns) (hret : ∀ f ∈ fs, f.ret ≤ 4) : ∀ f, ExOk ns fs k (exprC ns fs k f)
 | 0 => fun x s t s' nd a hx hcl hseg hf hv he => by cases he
 | f + 1 => fun x s t s' nd a hx hcl hseg hf hv he => by
  have ih := exprC_did hn hret f
  simp only [exprC, hx] at he
  obtain ⟨q, hq, he⟩ := CkR.map_eq he
  injection he with e1 e2
  subst e1; subst e2
  generalize exprC ns fs k f = ex at *
  have hax := hseg.le
  have hN := hn x nd hx
  have hz : s.slots[x]? = some (-1) := (hf.new x hax (Nat.lt_succ_self x)).2
  have hfx : Fresh ns a x s := hf.sub (Nat.le_refl _) (Nat.le_succ _)
  have hlen : x < s.slots.length := by rw [hf.ls]; have := hf.hb; omega
  have leaf : ∀ {t : Nat}, a = x → nd.kind ≠ 10 → KTy fs (fun i => s.types.getD i 0) nd t → nameK nd.kind = false → (1 ≤ t ∧ t ≤ 4) → ExOut ns fs k a x s { s with types := s.types.set x t, fn := s.fn.set x k } nd t := fun {t} e1 h1 h2 h3 h4 => by
   subst e1
   exact ex_fin hn hx (Nat.le_refl _) h1 (Turns.refl _ _ _) rfl rfl (Did.nil _ _ _ _ _) rfl rfl hf h2 ⟨-1, hz, (fun e => by rw [h3] at e; cases e), fun _ => rfl⟩ (fun _ => h4) h4.2
  have un : ∀ {u t : Nat} {r : Nat × CkS}, nd.l = [u] → Kid (ns.take x) clsE u → ex u s = .good r → nd.kind ≠ 10 → nameK nd.kind = false → (∀ ty : Nat → Nat, ty u = r.1 → KTy fs ty nd t) → (1 ≤ t ∧ t ≤ 4) → ExOut ns fs k a x s { r.2 with types := r.2.types.set x t, fn := r.2.fn.set x k } nd t := fun {u t r} e1 h1 h2 h3 h4 h5 h6 => by
   rw [e1] at hseg
   obtain ⟨o1, o2, o3, o4, o5⟩ := un_out ih hseg h1 hfx hv h2
   exact ex_fin hn hx hax h3 (Turns.refl _ _ _) rfl rfl o1 o2 o3 hf (h5 _ o4) ⟨-1, (o1.turns.out x (.inr (Nat.le_refl _))).2.1.trans hz, (fun e => by rw [h4] at e; cases e), fun _ => rfl⟩ (fun _ => h6) h6.2
  cases hN with
  | int line n h =>
   simp [tellsC] at hq
   subst hq
   exact leaf (seg0 hseg).symm (by simp) (by simp [KTy]) rfl (by simp)
  | input line =>
   simp [tellsC] at hq
   subst hq
   exact leaf (seg0 hseg).symm (by simp) (by simp [KTy]) rfl (by simp)
  | bool line n h =>
   simp [tellsC] at hq
   subst hq
   exact leaf (seg0 hseg).symm (by simp) (by simp [KTy]) rfl (by simp)
  | text line y =>
   simp [tellsC] at hq
   subst hq
   exact leaf (seg0 hseg).symm (by simp) (by simp [KTy]) rfl (by simp)
  | var line y =>
   simp [tellsC] at hq
   obtain ⟨v, hv1, rfl⟩ := named_eq hq
   have h3 := hv v (find_mem hv1)
   have e := seg0 hseg
   subst e
   exact ex_fin hn hx (Nat.le_refl _) (by simp) (Turns.set _ _ _ _ _ (.inl rfl) (.inr ⟨_, rfl⟩) (.inl rfl)) rfl rfl (Did.nil _ _ _ _ _) rfl rfl hf (by simp [KTy]; omega) ⟨v.slot, List.getElem?_set_self hlen, fun _ => by omega, fun e => by cases e⟩ (fun _ => by show 1 ≤ v.ty ∧ v.ty ≤ 4; omega) (by show v.ty ≤ 4; omega)
  | index line y u hu =>
   simp [tellsC] at hq
   obtain ⟨t, ht, hq⟩ := CkR.bind_eq hq
   obtain ⟨r, hr, hq⟩ := CkR.bind_eq hq
   obtain ⟨v, hv1, rfl⟩ := named_eq ht
   split at hq
   · rename_i hc
     injection hq with hq
     subst hq
     have h3 := hv v (find_mem hv1)
     have T0 : Turns x (x + 1) s { s with slots := s.slots.set x (v.slot : Int) } := Turns.set _ _ _ _ _ (.inl rfl) (.inr ⟨_, rfl⟩) (.inl rfl)
     obtain ⟨o1, o2, o3, o4, o5⟩ := un_out ih hseg hu (hfx.turn T0 (.inr (Nat.le_refl _))) (hv.eq rfl rfl) hr
     exact ex_fin hn hx hax (by simp) T0 rfl rfl o1 o2 o3 hf (by simp [KTy, tyK]; rw [← hc.2]; simpa using o4) ⟨v.slot, (o1.turns.out x (.inr (Nat.le_refl _))).2.1.trans (List.getElem?_set_self hlen), fun _ => by omega, fun e => by cases e⟩ (fun _ => by show 1 ≤ 1 ∧ 1 ≤ 4; omega) (by show 1 ≤ 4; omega)
   · cases hq
  | len line u hu =>
   simp [tellsC] at hq
   obtain ⟨r, hr, hq⟩ := CkR.bind_eq hq
   split at hq
   · rename_i hc
     injection hq with hq
     subst hq
     exact un (r := r) rfl hu hr (by simp) rfl (fun ty e => by simp [KTy, tyK, e, hc]) (by simp)
   · cases hq
  | neg line u hu =>
   simp [tellsC] at hq
   obtain ⟨r, hr, hq⟩ := CkR.bind_eq hq
   split at hq
   · rename_i hc
     injection hq with hq
     subst hq
     exact un (r := r) rfl hu hr (by simp) rfl (fun ty e => by simp [KTy, tyK, e, hc]) (by simp)
   · cases hq
  | not line u hu =>
   simp [tellsC] at hq
   obtain ⟨r, hr, hq⟩ := CkR.bind_eq hq
   split at hq
   · rename_i hc
     injection hq with hq
     subst hq
     exact un (r := r) rfl hu hr (by simp) rfl (fun ty e => by simp [KTy, tyK, e, hc]) (by simp)
   · cases hq
  | new line u hu =>
   simp [tellsC] at hq
   obtain ⟨r, hr, hq⟩ := CkR.bind_eq hq
   split at hq
   · rename_i hc
     injection hq with hq
     subst hq
     exact un (r := r) rfl hu hr (by simp) rfl (fun ty e => by simp [KTy, tyK, e, hc]) (by simp)
   · cases hq
  | bin line y u v hy hu hv2 =>
   simp [tellsC] at hq
   obtain ⟨r, hr, hq⟩ := CkR.bind_eq hq
   obtain ⟨p, hp, hq⟩ := CkR.bind_eq hq
   split at hq
   · cases hq
   · rename_i hc
     injection hq with hq
     subst hq
     obtain ⟨o1, o2, o3, o4, o5, o6, o7⟩ := two_out hn ih hseg hu hv2 hfx hv hr hp
     obtain ⟨b1, b2, b3, b4, b5⟩ := binT_le hc
     refine ex_fin hn hx hax (by simp) (Turns.refl _ _ _) rfl rfl o1 o2 o3 hf ?_ ⟨-1, (o1.turns.out x (.inr (Nat.le_refl _))).2.1.trans hz, (fun e => by cases e), fun _ => rfl⟩ (fun _ => ⟨b4, by show binT y r.1 p.1 ≤ 4; omega⟩) (by show binT y r.1 p.1 ≤ 4; omega)
     show 1 ≤ binT y r.1 p.1 ∧ binT y r.1 p.1 ≤ 3 ∧ p.2.types.getD u 0 = p.2.types.getD v 0 ∧ p.2.types.getD u 0 ≤ 3 ∧ binT y r.1 p.1 = binT y (p.2.types.getD u 0) (p.2.types.getD v 0)
     rw [o4, o5]
     exact ⟨b4, b5, b1, b3, rfl⟩
  | call line y l hl =>
   simp [tellsC, callC] at hq
   cases hF : findF fs y with
   | none => rw [hF] at hq; cases hq
   | some j =>
     rw [hF] at hq
     dsimp only at hq
     obtain ⟨r, hr, hq⟩ := CkR.bind_eq hq
     split at hq
     · rename_i hc1
       split at hq
       · rename_i hc2
         injection hq with hq
         subst hq
         have hj : j < fs.length := by
           unfold findF at hF
           exact (List.findIdx?_eq_some_iff_getElem.1 hF).1
         have hj2 : fs[j]? = some fs[j] := List.getElem?_eq_getElem hj
         have hcl2 : ∀ z ∈ l, ∃ nd, ns[z]? = some nd ∧ clsE nd.kind = true := fun z hz => by
           obtain ⟨c, hc, hk⟩ := hl z hz
           have hlt : z < (ns.take x).length := (List.getElem?_eq_some_iff.1 hc).1
           rw [List.getElem?_take] at hc
           split at hc
           · exact ⟨c, hc, hk⟩
           · cases hc
         obtain ⟨o1, o2, o3, o4⟩ := args_did hn ih hseg hcl2 hfx hv hr
         refine ex_fin hn hx hax (by simp) (Turns.refl _ _ _) rfl rfl o1 o2 o3 hf ?_ ⟨-1, (o1.turns.out x (.inr (Nat.le_refl _))).2.1.trans hz, (fun e => by cases e), fun _ => rfl⟩ (fun e => by cases e) (by rw [hj2]; exact hret _ (List.getElem_mem hj))
         refine ⟨j, fs[j], hF, hj2, ?_, ?_⟩
         · rw [← o4]
           have := hc2
           rw [hj2] at this
           exact this
         · show _ = _
           rw [hj2]
           rfl
       · cases hq
     · cases hq
  | _ => simp [clsR, clsE] at hcl
end
end Go.Proofs.YtlbjicjinnnboaaDoor
/- What a good check has noted of each node: statements, blocks, functions. -/
namespace Go.Proofs.YtlbjicjinnnboaaDoor
open Go.RowKit
open Pw
section
variable {ns : List NodeM} {fs : List FuncM} {k a b c : Nat} {s s0 s1 s2 s' : CkS} {ex : Nat → CkS → CkR (Nat × CkS)} {bl : Nat → CkS → CkR CkS}
theorem st_fin (hn : NodesOk ns) {x : Nat} {nd : NodeM} (hx : ns[x]? = some nd) (hax : a ≤ x) (fr : Fresh ns a (x + 1) s) (T0 : Turns x (x + 1) s s0) (z0 : s0.size = s.size) (t0 : s0.types = s.types) (f0 : s0.fn = s.fn.set x k) (D : Did ns fs k a x s0 s1)
   (T1 : Turns x (x + 1) s1 s') (z1 : s'.size = s1.size + if nd.kind = 10 then 1 else 0) (t1 : s'.types = s1.types) (f1 : s'.fn = s1.fn) (hk : KTy fs (fun i => s1.types.getD i 0) nd 0)
   (hs : ∃ v : Int, s'.slots[x]? = some v ∧ (nameK nd.kind = true → 0 ≤ v ∧ v < s'.size) ∧ (nameK nd.kind = false → v = -1)) (hL : nd.kind = 10 → s'.slots[x]? = some (s1.size : Int)) : Did ns fs k a (x + 1) s s' := by
 have hb := fr.hb
 refine Did.node hn hx hax T0 z0 D T1 z1 ⟨?_, ⟨0, ?_, ?_⟩, hs⟩ hL
 · rw [f1, (D.turns.out x (.inr (Nat.le_refl _))).2.2, f0]
   exact List.getElem?_set_self (by rw [fr.lf]; omega)
 · rw [t1, (D.turns.out x (.inr (Nat.le_refl _))).1, t0]
   exact (fr.new x hax (Nat.lt_succ_self x)).1
 · rw [t1]; exact hk
structure StOut (ns : List NodeM) (fs : List FuncM) (k a b : Nat) (s s' : CkS) : Prop where
 did : Did ns fs k a b s s'
 vars : VarsOk s'
 more : ∃ m, s'.vars = s.vars ++ m
def BlOk (ns : List NodeM) (fs : List FuncM) (k : Nat) (bl : Nat → CkS → CkR CkS) : Prop :=
 ∀ x s s' nd a, ns[x]? = some nd → nd.kind = 18 → Seg ns a nd.l x → Fresh ns a (x + 1) s → VarsOk s → bl x s = .good s' → Did ns fs k a (x + 1) s s' ∧ s'.vars = s.vars
theorem VarsOk.up (h : VarsOk s) (e1 : s'.vars = s.vars) (e2 : s.size ≤ s'.size) : VarsOk s' := fun v hv => by
 have := h v (by rw [← e1]; exact hv)
 omega
theorem seqB_did (hn : NodesOk ns) (hbl : BlOk ns fs k bl) : ∀ {l : List Nat} {a b : Nat} {s s' : CkS}, Seg ns a l b → (∀ x ∈ l, ∃ nd, ns[x]? = some nd ∧ nd.kind = 18) → Fresh ns a b s → VarsOk s → seqC bl l s = .good s' → Did ns fs k a b s s' ∧ s'.vars = s.vars
 | [], a, b, s, s', h, _, hf, _, he => by
  have := seg0 h
  subst this
  injection he with he
  subst he
  exact ⟨Did.nil _ _ _ _ _, rfl⟩
 | x :: l, a, b, s, s', h, hc, hf, hv, he => by
  cases h with
  | cons _ _ _ _ nd hx h h2 =>
   unfold seqC at he
   obtain ⟨q, hq, he⟩ := CkR.bind_eq he
   obtain ⟨nd', hx', hcl⟩ := hc x (List.mem_cons_self ..)
   rw [hx] at hx'; injection hx' with hx'; subst hx'
   have hxb : x + 1 ≤ b := h2.le
   have hax : a ≤ x := h.le
   obtain ⟨o1, o2⟩ := hbl x s q nd a hx hcl h (hf.sub (Nat.le_refl _) hxb) hv hq
   obtain ⟨i1, i2⟩ := seqB_did hn hbl h2 (fun y hy => hc y (List.mem_cons_of_mem _ hy)) ((hf.sub (by omega) (Nat.le_refl _)).turn o1.turns (.inl (Nat.le_refl _))) (hv.up o2 (by rw [o1.size]; omega)) he
   exact ⟨o1.trans hn (by omega) hxb i1, i2.trans o2⟩
theorem kid_some {cls : Nat → Bool} {x i : Nat} (h : Kid (ns.take i) cls x) : ∃ nd, ns[x]? = some nd ∧ cls nd.kind = true := by
 obtain ⟨c, hc, hk⟩ := h
 rw [List.getElem?_take] at hc
 split at hc
 · exact ⟨c, hc, hk⟩
 · cases hc
theorem kid_B {x i : Nat} (h : Kid (ns.take i) clsB x) : ∃ nd, ns[x]? = some nd ∧ nd.kind = 18 := by
 obtain ⟨c, hc, hk⟩ := kid_some h
 exact ⟨c, hc, by simpa [clsB] using hk⟩
theorem stm_did (hn : NodesOk ns) (hex : ExOk ns fs k ex) (hbl : BlOk ns fs k bl) {x : Nat} {nd : NodeM} (hx : ns[x]? = some nd) (hcl : clsS nd.kind = true) (hseg : Seg ns a nd.l x) (hf : Fresh ns a (x + 1) s) (hv : VarsOk s)
  (he : stmC fs k ex bl x nd s = .good s') : StOut ns fs k a (x + 1) s s' := by
 have hax := hseg.le
 have hN := hn x nd hx
 have hfx : Fresh ns a x s := hf.sub (Nat.le_refl _) (Nat.le_succ _)
 have hz : s.slots[x]? = some (-1) := (hf.new x hax (Nat.lt_succ_self x)).2
 have hlen : x < s.slots.length := by rw [hf.ls]; have := hf.hb; omega
 have T0 : Turns x (x + 1) s { s with fn := s.fn.set x k } := Turns.set _ _ _ _ _ (.inl rfl) (.inl rfl) (.inr ⟨_, rfl⟩)
 have hf0 : Fresh ns a x { s with fn := s.fn.set x k } := hfx.turn T0 (.inr (Nat.le_refl _))
 have hv0 : VarsOk { s with fn := s.fn.set x k } := hv
 -- without a slot: what is below it is all
 have plain : ∀ {r : CkS}, nd.kind ≠ 10 → nameK nd.kind = false → Did ns fs k a x { s with fn := s.fn.set x k } r → KTy fs (fun i => r.types.getD i 0) nd 0 → Did ns fs k a (x + 1) s r := fun {r} h1 h2 h3 h4 =>
  st_fin hn hx hax hf T0 rfl rfl rfl h3 (Turns.refl _ _ _) (by rw [if_neg h1]; rfl) rfl rfl h4 ⟨-1, (h3.turns.out x (.inr (Nat.le_refl _))).2.1.trans hz, (fun e => by rw [h2] at e; cases e), fun _ => rfl⟩ (fun e => absurd e h1)
 -- with a slot that is noted first
 have slot : ∀ {r : CkS} {v : VarM}, nd.kind ≠ 10 → nameK nd.kind = true → v ∈ s.vars → Did ns fs k a x { s with fn := s.fn.set x k, slots := s.slots.set x (v.slot : Int) } r → KTy fs (fun i => r.types.getD i 0) nd 0 → Did ns fs k a (x + 1) s r := fun {r v} h1 h2 hm h3 h4 =>
  st_fin hn hx hax hf (Turns.set _ _ _ _ _ (.inl rfl) (.inr ⟨_, rfl⟩) (.inr ⟨_, rfl⟩)) rfl rfl rfl h3 (Turns.refl _ _ _) (by rw [if_neg h1]; rfl) rfl rfl h4 ⟨v.slot, (h3.turns.out x (.inr (Nat.le_refl _))).2.1.trans (List.getElem?_set_self hlen), (fun _ => by
    have h5 := (hv v hm).2.2
    have h6 : r.size = s.size + _ := h3.size
    omega), (fun e => by rw [h2] at e; cases e)⟩ (fun e => absurd e h1)
 have T2 : ∀ v : VarM, Turns x (x + 1) s { s with fn := s.fn.set x k, slots := s.slots.set x (v.slot : Int) } := fun v => Turns.set _ _ _ _ _ (.inl rfl) (.inr ⟨_, rfl⟩) (.inr ⟨_, rfl⟩)
 cases hN with
 | let_ line y u hu =>
  simp [stmC, letC] at he
  obtain ⟨r, hr, he⟩ := CkR.bind_eq he
  obtain ⟨o1, o2, o3, o4, ole⟩ := un_outR hex hseg hu hf0 hv0 hr
  split at he
  · cases he
  · rename_i h0
    split at he
    · cases he
    · split at he
      · cases he
      · injection he with he
        subst he
        have hlen1 : x < r.2.slots.length := by rw [o1.turns.ls]; exact hlen
        refine ⟨st_fin hn hx hax hf T0 rfl rfl rfl o1 (Turns.set _ _ _ _ _ (.inl rfl) (.inr ⟨_, rfl⟩) (.inl rfl)) rfl rfl rfl (by simp [KTy]) ⟨_, List.getElem?_set_self hlen1, fun _ => by show 0 ≤ (r.2.size : Int) ∧ (r.2.size : Int) < ((r.2.size + 1 : Nat) : Int); omega, fun e => by cases e⟩ (fun _ => List.getElem?_set_self hlen1), ?_, ⟨[⟨y, r.1, r.2.size⟩], by show r.2.vars ++ _ = _; rw [o2]⟩⟩
        intro v hv2
        rcases List.mem_append.1 hv2 with hv2 | hv2
        · rw [o2] at hv2
          have := hv v hv2
          have h7 : r.2.size = s.size := o3
          show 1 ≤ v.ty ∧ v.ty ≤ 4 ∧ v.slot < r.2.size + 1
          omega
        · rw [List.mem_singleton.1 hv2]
          show 1 ≤ r.1 ∧ r.1 ≤ 4 ∧ r.2.size < r.2.size + 1
          omega
 | set line y u hu =>
  simp [stmC] at he
  obtain ⟨t, ht, he⟩ := CkR.bind_eq he
  obtain ⟨r, hr, he⟩ := CkR.bind_eq he
  obtain ⟨v, hv1, rfl⟩ := named_eq ht
  split at he
  · injection he with he
    subst he
    obtain ⟨o1, o2, o3, o4, ole⟩ := un_outR hex hseg hu (hfx.turn (T2 v) (.inr (Nat.le_refl _))) (hv.eq rfl rfl) hr
    exact ⟨slot (by simp) rfl (find_mem hv1) o1 (by simp [KTy]), hv.eq o2 o3, [], by rw [List.append_nil]; exact o2⟩
  · cases he
 | put line y u w hu hw =>
  simp [stmC] at he
  obtain ⟨t, ht, he⟩ := CkR.bind_eq he
  obtain ⟨r, hr, he⟩ := CkR.bind_eq he
  obtain ⟨q, hq, he⟩ := CkR.bind_eq he
  obtain ⟨v, hv1, rfl⟩ := named_eq ht
  split at he
  · rename_i hc
    injection he with he
    subst he
    obtain ⟨o1, o2, o3, o4, o5, o6⟩ := two_out hn hex hseg hu hw (hfx.turn (T2 v) (.inr (Nat.le_refl _))) (hv.eq rfl rfl) hr hq
    exact ⟨slot (by simp) rfl (find_mem hv1) o1 (by simp only [List.getD_eq_getElem?_getD] at o4 o5; simp [KTy, tyK, o4, o5, hc]), hv.eq o2 o3, [], by rw [List.append_nil]; exact o2⟩
  · cases he
 | do_ line u hu =>
  simp [stmC] at he
  obtain ⟨r, hr, he⟩ := CkR.map_eq he
  subst he
  have hu2 : Kid (ns.take x) clsR u := by
    obtain ⟨c, hc, hk⟩ := hu
    exact ⟨c, hc, by simp [clsC] at hk; rw [hk]; rfl⟩
  obtain ⟨o1, o2, o3, o4, ole⟩ := un_outR hex hseg hu2 hf0 hv0 hr
  exact ⟨plain (by simp) rfl o1 (by simp [KTy]), hv.eq o2 o3, [], by rw [List.append_nil]; exact o2⟩
 | print line u hu =>
  simp [stmC] at he
  obtain ⟨r, hr, he⟩ := CkR.bind_eq he
  split at he
  · cases he
  · rename_i hc
    injection he with he
    subst he
    obtain ⟨o1, o2, o3, o4, o5⟩ := un_out hex hseg hu hf0 hv0 hr
    exact ⟨plain (by simp) rfl o1 (by simp only [List.getD_eq_getElem?_getD] at o4; simp [KTy, tyK, o4]; omega), hv.eq o2 o3, [], by rw [List.append_nil]; exact o2⟩
 | ret0 line =>
  simp [stmC, retC] at he
  split at he
  · injection he with he
    subst he
    have e := seg0 hseg
    subst e
    exact ⟨plain (by simp) rfl (Did.nil _ _ _ _ _) (by simp [KTy]), hv, [], by rw [List.append_nil]⟩
  · cases he
 | ret1 line u hu =>
  simp [stmC, retC] at he
  split at he
  · cases he
  · obtain ⟨r, hr, he⟩ := CkR.bind_eq he
    split at he
    · injection he with he
      subst he
      obtain ⟨o1, o2, o3, o4, o5⟩ := un_out hex hseg hu hf0 hv0 hr
      exact ⟨plain (by simp) rfl o1 (by simp [KTy]), hv.eq o2 o3, [], by rw [List.append_nil]; exact o2⟩
    · cases he
 | if2 line u v hu hw =>
  simp [stmC] at he
  obtain ⟨r, hr, he⟩ := CkR.bind_eq he
  split at he
  · rename_i hc
    cases hseg with
    | cons _ _ _ _ n1 hu1 h1 h2 =>
      have l1 := h1.le
      have l2 := h2.le
      have hcu := kidTake hu hu1
      have o := hex u _ r.1 r.2 n1 a hu1 (clsER hcu) h1 (hf0.sub (Nat.le_refl _) l2) hv0 hr
      obtain ⟨i1, i2⟩ := seqB_did hn hbl h2 (fun y hy => by rw [List.mem_singleton.1 hy]; exact kid_B hw) ((hf0.sub (a' := u + 1) (by omega) (Nat.le_refl _)).turn o.did.turns (.inl (Nat.le_refl _))) (hv0.eq o.vars o.size) he
      have D := o.did.trans hn (by omega) l2 i1
      have ht := getD_some ((i1.turns.out u (.inl (Nat.lt_succ_self u))).1.trans o.ty)
      rw [List.getD_eq_getElem?_getD] at ht
      exact ⟨plain (by simp) rfl D (by simp [KTy, tyK, ht, hc]), hv.up (i2.trans o.vars) (by have h6 := D.size; show s.size ≤ s'.size; rw [h6]; exact Nat.le_add_right _ _), [], by rw [List.append_nil]; exact i2.trans o.vars⟩
  · cases he
 | if3 line u v w3 hu hw hw3 =>
  simp [stmC] at he
  obtain ⟨r, hr, he⟩ := CkR.bind_eq he
  split at he
  · rename_i hc
    cases hseg with
    | cons _ _ _ _ n1 hu1 h1 h2 =>
      have l1 := h1.le
      have l2 := h2.le
      have hcu := kidTake hu hu1
      have o := hex u _ r.1 r.2 n1 a hu1 (clsER hcu) h1 (hf0.sub (Nat.le_refl _) l2) hv0 hr
      obtain ⟨i1, i2⟩ := seqB_did hn hbl h2 (fun y hy => by
        rcases List.mem_cons.1 hy with rfl | hy
        · exact kid_B hw
        · rw [List.mem_singleton.1 hy]; exact kid_B hw3) ((hf0.sub (a' := u + 1) (by omega) (Nat.le_refl _)).turn o.did.turns (.inl (Nat.le_refl _))) (hv0.eq o.vars o.size) he
      have D := o.did.trans hn (by omega) l2 i1
      have ht := getD_some ((i1.turns.out u (.inl (Nat.lt_succ_self u))).1.trans o.ty)
      rw [List.getD_eq_getElem?_getD] at ht
      exact ⟨plain (by simp) rfl D (by simp [KTy, tyK, ht, hc]), hv.up (i2.trans o.vars) (by have h6 := D.size; show s.size ≤ s'.size; rw [h6]; exact Nat.le_add_right _ _), [], by rw [List.append_nil]; exact i2.trans o.vars⟩
  · cases he
 | loop line u v hu hw =>
  simp [stmC] at he
  obtain ⟨r, hr, he⟩ := CkR.bind_eq he
  split at he
  · rename_i hc
    cases hseg with
    | cons _ _ _ _ n1 hu1 h1 h2 =>
      have l1 := h1.le
      have l2 := h2.le
      have hcu := kidTake hu hu1
      have o := hex u _ r.1 r.2 n1 a hu1 (clsER hcu) h1 (hf0.sub (Nat.le_refl _) l2) hv0 hr
      obtain ⟨i1, i2⟩ := seqB_did hn hbl h2 (fun y hy => by rw [List.mem_singleton.1 hy]; exact kid_B hw) ((hf0.sub (a' := u + 1) (by omega) (Nat.le_refl _)).turn o.did.turns (.inl (Nat.le_refl _))) (hv0.eq o.vars o.size) he
      have D := o.did.trans hn (by omega) l2 i1
      have ht := getD_some ((i1.turns.out u (.inl (Nat.lt_succ_self u))).1.trans o.ty)
      rw [List.getD_eq_getElem?_getD] at ht
      exact ⟨plain (by simp) rfl D (by simp [KTy, tyK, ht, hc]), hv.up (i2.trans o.vars) (by have h6 := D.size; show s.size ≤ s'.size; rw [h6]; exact Nat.le_add_right _ _), [], by rw [List.append_nil]; exact i2.trans o.vars⟩
  · cases he
 | _ => simp [clsS] at hcl
end
end Go.Proofs.YtlbjicjinnnboaaDoor
/- What a good check has noted of each node: blocks, functions, programs. -/
namespace Go.Proofs.YtlbjicjinnnboaaDoor
open Go.RowKit
open Pw
section
variable {ns : List NodeM} {fs : List FuncM} {k a b c : Nat} {s s0 s1 s2 s' : CkS} {ex : Nat → CkS → CkR (Nat × CkS)} {bl : Nat → CkS → CkR CkS}
theorem StOut.trans (hn : NodesOk ns) (hab : a ≤ b) (hbc : b ≤ c) (h : StOut ns fs k a b s s1) (g : StOut ns fs k b c s1 s2) : StOut ns fs k a c s s2 := by
 obtain ⟨m, hm⟩ := h.more
 obtain ⟨m2, hm2⟩ := g.more
 exact ⟨h.did.trans hn hab hbc g.did, g.vars, m ++ m2, by rw [hm2, hm, List.append_assoc]⟩
theorem seqS_did (hn : NodesOk ns) {st : Nat → CkS → CkR CkS} (hst : ∀ x s s' nd a, ns[x]? = some nd → clsS nd.kind = true → Seg ns a nd.l x → Fresh ns a (x + 1) s → VarsOk s → st x s = .good s' → StOut ns fs k a (x + 1) s s') :
  ∀ {l : List Nat} {a b : Nat} {s s' : CkS}, Seg ns a l b → (∀ x ∈ l, ∃ nd, ns[x]? = some nd ∧ clsS nd.kind = true) → Fresh ns a b s → VarsOk s → seqC st l s = .good s' → StOut ns fs k a b s s'
 | [], a, b, s, s', h, _, hf, hv, he => by
  have := seg0 h
  subst this
  injection he with he
  subst he
  exact ⟨Did.nil _ _ _ _ _, hv, [], by rw [List.append_nil]⟩
 | x :: l, a, b, s, s', h, hc, hf, hv, he => by
  cases h with
  | cons _ _ _ _ nd hx h h2 =>
   unfold seqC at he
   obtain ⟨q, hq, he⟩ := CkR.bind_eq he
   obtain ⟨nd', hx', hcl⟩ := hc x (List.mem_cons_self ..)
   rw [hx] at hx'; injection hx' with hx'; subst hx'
   have hxb : x + 1 ≤ b := h2.le
   have hax : a ≤ x := h.le
   have o := hst x s q nd a hx hcl h (hf.sub (Nat.le_refl _) hxb) hv hq
   have i := seqS_did hn hst h2 (fun y hy => hc y (List.mem_cons_of_mem _ hy)) ((hf.sub (by omega) (Nat.le_refl _)).turn o.did.turns (.inl (Nat.le_refl _))) o.vars he
   exact o.trans hn (by omega) hxb i
theorem blockC_did (hn : NodesOk ns) (hret : ∀ f ∈ fs, f.ret ≤ 4) : ∀ f, BlOk ns fs k (blockC ns fs k f)
 | 0 => fun x s s' nd a hx hk hseg hf hv he => by cases he
 | f + 1 => fun x s s' nd a hx hk hseg hf hv he => by
  have ih := blockC_did hn hret f
  simp only [blockC, hx] at he
  obtain ⟨r, hr, he⟩ := CkR.map_eq he
  subst he
  have hax := hseg.le
  have T0 : Turns x (x + 1) s { s with fn := s.fn.set x k } := Turns.set _ _ _ _ _ (.inl rfl) (.inl rfl) (.inr ⟨_, rfl⟩)
  have hz : s.slots[x]? = some (-1) := (hf.new x hax (Nat.lt_succ_self x)).2
  have hl : ∀ y ∈ nd.l, ∃ c, ns[y]? = some c ∧ clsS c.kind = true := by
   have hN := hn x nd hx
   cases hN with
   | block line l h => exact fun y hy => kid_some (h y hy)
   | _ => simp at hk
  have i := seqS_did (fs := fs) (k := k) hn (st := fun a s => match ns[a]? with
    | none => .bad 95 0
    | some na => stmC fs k (exprC ns fs k ns.length) (blockC ns fs k f) a na s) (fun y s s' nd a hy hcl hs hf hv he => by
     simp only [hy] at he
     exact stm_did hn (exprC_did hn hret _) ih hy hcl hs hf hv he) hseg hl ((hf.sub (Nat.le_refl _) (Nat.le_succ _)).turn T0 (.inr (Nat.le_refl _))) (show VarsOk { s with fn := s.fn.set x k } from hv) hr
  obtain ⟨m, hm⟩ := i.more
  have hkn : nameK nd.kind = false := by rw [hk]; rfl
  have D : Did ns fs k a (x + 1) s r := st_fin hn hx hax hf T0 rfl rfl rfl i.did (Turns.refl _ _ _) (by rw [if_neg (by omega)]; rfl) rfl rfl (by simp [KTy, hk]) ⟨-1, (i.did.turns.out x (.inr (Nat.le_refl _))).2.1.trans hz, (fun e => by rw [hkn] at e; cases e), fun _ => rfl⟩ (fun e => by omega)
  exact ⟨D.vars _, by show r.vars.take s.vars.length = s.vars; rw [hm]; exact List.take_left' rfl⟩
theorem parsC_good {body : Nat} : ∀ {l : List (List UInt8 × Nat)} {vs vs' : List VarM}, parsC body l vs = .good vs' → (∀ p ∈ l, 1 ≤ p.2 ∧ p.2 ≤ 4) → (∀ v ∈ vs, 1 ≤ v.ty ∧ v.ty ≤ 4 ∧ v.slot < vs.length) → vs'.length = vs.length + l.length ∧ ∀ v ∈ vs', 1 ≤ v.ty ∧ v.ty ≤ 4 ∧ v.slot < vs'.length
 | [], vs, vs', h, _, hv => by
  injection h with h
  subst h
  exact ⟨rfl, hv⟩
 | p :: l, vs, vs', h, hp, hv => by
  unfold parsC at h
  split at h
  · cases h
  · have := parsC_good h (fun q hq => hp q (List.mem_cons_of_mem _ hq)) (fun v hv2 => by
     rcases List.mem_append.1 hv2 with hv2 | hv2
     · have := hv v hv2
       rw [List.length_append, List.length_singleton]; omega
     · rw [List.mem_singleton.1 hv2]
       have := hp p (List.mem_cons_self ..)
       rw [List.length_append, List.length_singleton]
       exact ⟨this.1, this.2, Nat.lt_succ_self _⟩)
    rw [List.length_append, List.length_singleton] at this
    exact ⟨by rw [this.1, List.length_cons]; omega, this.2⟩
structure FnDone (ns : List NodeM) (fs : List FuncM) (s : CkS) (k z : Nat) (f : FuncM) (a b : Nat) : Prop where
 at_ : ∀ y nd, a ≤ y → y < b → ns[y]? = some nd → NodeAt fs k z s y nd
 size : z = f.params.length + letsN ns a b
 lets : ∀ y nd, a ≤ y → y < b → ns[y]? = some nd → nd.kind = 10 → s.slots[y]? = some ((f.params.length + letsN ns a y : Nat) : Int)
 body : f.body + 1 = b
 le : a ≤ b
theorem FnDone.keep {z : Nat} {f : FuncM} (hn : NodesOk ns) (h : FnDone ns fs s k z f a b) (t : Turns b c s s') : FnDone ns fs s' k z f a b :=
 ⟨fun y nd h1 h2 hy => (h.at_ y nd h1 h2 hy).keep h2 (kidsLt hn hy) t (Nat.le_refl _), h.size, fun y nd h1 h2 hy hk => (t.out y (.inl h2)).2.1.trans (h.lets y nd h1 h2 hy hk), h.body, h.le⟩
inductive FnsDone (ns : List NodeM) (fs : List FuncM) (s : CkS) : Nat → List FuncM → List Nat → Nat → Nat → Prop where
 | nil (k a : Nat) : FnsDone ns fs s k [] [] a a
 | cons (k z : Nat) (f : FuncM) (l : List FuncM) (zs : List Nat) (a c b : Nat) (h : FnDone ns fs s k z f a c) (h2 : FnsDone ns fs s (k + 1) l zs c b) : FnsDone ns fs s k (f :: l) (z :: zs) a b
theorem func_did (hn : NodesOk ns) (hret : ∀ f ∈ fs, f.ret ≤ 4) {f : FuncM} (hp : ∀ p ∈ f.params, 1 ≤ p.2 ∧ p.2 ≤ 4) (hb : Kid ns clsB f.body) (hseg : Seg ns a [f.body] b) (hf : Fresh ns a b s) (he : funcC ns fs k f s = .good s') :
  FnDone ns fs s' k s'.size f a b ∧ Turns a b s s' := by
 obtain ⟨nd, hx, h1, rfl⟩ := seg1 hseg
 obtain ⟨c, hc, hk⟩ := hb
 rw [hx] at hc; injection hc with hc; subst hc
 unfold funcC at he
 obtain ⟨vs, hvs, he⟩ := CkR.bind_eq he
 obtain ⟨e1, e2⟩ := parsC_good hvs hp (fun v hv => by cases hv)
 have e1 : vs.length = f.params.length := by simpa using e1
 obtain ⟨o1, o2⟩ := blockC_did hn hret ns.length f.body { s with vars := vs, size := vs.length } s' nd a hx (by simpa [clsB] using hk) h1 ⟨hf.lt, hf.ls, hf.lf, hf.hb, hf.new⟩ e2 he
 have hz : s'.size = f.params.length + letsN ns a (f.body + 1) := by rw [o1.size, ← e1]
 exact ⟨⟨o1.at_, hz, fun y nd h1 h2 hy hk => by rw [← e1]; exact o1.lets y nd h1 h2 hy hk, rfl, Nat.le_succ_of_le h1.le⟩, o1.turns.lt, o1.turns.ls, o1.turns.lf, o1.turns.out⟩
theorem FnsDone.keep (hn : NodesOk ns) {l : List FuncM} {zs : List Nat} (h : FnsDone ns fs s k l zs a b) (t : Turns b c s s') : FnsDone ns fs s' k l zs a b ∧ a ≤ b := by
 induction h with
 | nil k a => exact ⟨.nil _ _, Nat.le_refl _⟩
 | cons k z f l zs a d b h h2 ih =>
  obtain ⟨i1, i2⟩ := ih t
  exact ⟨.cons _ _ _ _ _ _ _ _ (h.keep hn (c := c) (t.mono i2 (Nat.le_refl _) |>.mono (Nat.le_refl _) (Nat.le_refl _))) i1, Nat.le_trans h.le i2⟩
theorem funcs_did (hn : NodesOk ns) (hret : ∀ f ∈ fs, f.ret ≤ 4) : ∀ {l : List FuncM} {k a b : Nat} {zs0 zs : List Nat} {s s' : CkS}, (∀ f ∈ l, (∀ p ∈ f.params, 1 ≤ p.2 ∧ p.2 ≤ 4) ∧ Kid ns clsB f.body) → Seg ns a (l.map (·.body)) b → Fresh ns a b s → funcsC ns fs k l zs0 s = .good (zs, s') →
  ∃ zs1, zs = zs0 ++ zs1 ∧ FnsDone ns fs s' k l zs1 a b ∧ Turns a b s s'
 | [], k, a, b, zs0, zs, s, s', _, h, hf, he => by
  have := seg0 h
  subst this
  injection he with he
  injection he with h1 h2
  subst h1; subst h2
  exact ⟨[], by rw [List.append_nil], .nil _ _, Turns.refl _ _ _⟩
 | f :: l, k, a, b, zs0, zs, s, s', hp, h, hf, he => by
  unfold funcsC at he
  obtain ⟨r, hr, he⟩ := CkR.bind_eq he
  cases h with
  | cons _ _ _ _ nd hx h h2 =>
   obtain ⟨hp1, hk⟩ := hp f (List.mem_cons_self ..)
   have l2 := h2.le
   obtain ⟨o1, o2⟩ := func_did (k := k) (b := f.body + 1) hn hret hp1 hk (.cons _ _ _ _ nd hx h (.nil _)) (hf.sub (Nat.le_refl _) l2) hr
   obtain ⟨zs1, e, i1, i2⟩ := funcs_did hn hret (fun g hg => hp g (List.mem_cons_of_mem _ hg)) h2 ((hf.sub (Nat.le_trans h.le (Nat.le_succ _)) (Nat.le_refl _)).turn o2 (.inl (Nat.le_refl _))) he
   exact ⟨r.size :: zs1, by rw [e]; simp, .cons _ _ _ _ _ _ _ _ (o1.keep hn i2) i1, (o2.mono (Nat.le_refl _) l2).trans (i2.mono (Nat.le_trans h.le (Nat.le_succ _)) (Nat.le_refl _))⟩
end
def ProgM.st (p : ProgM) : CkS := ⟨p.types, p.slots, p.fn, [], 0⟩
structure ProgIs (p : ProgM) : Prop where
 tree : TreeIs p.ns p.fs
 lt : p.types.length = p.ns.length
 ls : p.slots.length = p.ns.length
 lf : p.fn.length = p.ns.length
 done : FnsDone p.ns p.fs p.st 0 p.fs p.sizes 0 p.ns.length
 heads : headsC p.fs = .good ()
theorem FnsDone.st {ns : List NodeM} {fs l : List FuncM} {k a b : Nat} {zs : List Nat} {s s' : CkS} (h : FnsDone ns fs s k l zs a b) (h1 : s'.types = s.types) (h2 : s'.slots = s.slots) (h3 : s'.fn = s.fn) : FnsDone ns fs s' k l zs a b := by
 obtain ⟨t, sl, f, v, z⟩ := s
 obtain ⟨t', sl', f', v', z'⟩ := s'
 dsimp only at h1 h2 h3
 subst h1; subst h2; subst h3
 induction h with
 | nil k a => exact .nil _ _
 | cons k z f l zs a d b h h2 ih => exact .cons _ _ _ _ _ _ _ _ ⟨fun y nd h1 h2 h3 => ⟨(h.at_ y nd h1 h2 h3).fn, (h.at_ y nd h1 h2 h3).ty, (h.at_ y nd h1 h2 h3).sl⟩, h.size, h.lets, h.body, h.le⟩ ih
theorem start_fresh (ns : List NodeM) : Fresh ns 0 ns.length (startC ns) :=
 ⟨List.length_replicate, List.length_replicate, List.length_replicate, Nat.le_refl _, fun y _ h => ⟨by show (List.replicate ns.length 0)[y]? = _; rw [List.getElem?_replicate, if_pos h], by show (List.replicate ns.length (-1 : Int))[y]? = _; rw [List.getElem?_replicate, if_pos h]⟩⟩
theorem check_is {ns : List NodeM} {fs : List FuncM} {p : ProgM} (ht : TreeIs ns fs) (h : checkT ns fs = .good p) : ProgIs p ∧ p.ns = ns ∧ p.fs = fs := by
 unfold checkT at h
 obtain ⟨_, hh, h⟩ := CkR.bind_eq h
 obtain ⟨r, hr, h⟩ := CkR.map_eq h
 subst h
 obtain ⟨zs1, e, i1, i2⟩ := funcs_did (zs := r.1) (s' := r.2) ht.ok.nodes (fun f hf => (ht.ok.types f hf).1) (fun f hf => ⟨fun p hp => ⟨ht.pos f hf p hp, (ht.ok.types f hf).2 p hp⟩, ht.ok.bodies f hf⟩) ht.seg (start_fresh ns) hr
 rw [List.nil_append] at e
 refine ⟨⟨ht, i2.lt.trans List.length_replicate, i2.ls.trans List.length_replicate, i2.lf.trans List.length_replicate, ?_, hh⟩, rfl, rfl⟩
 show FnsDone ns fs _ 0 fs r.1 0 ns.length
 rw [e]
 exact i1.st rfl rfl rfl
end Go.Proofs.YtlbjicjinnnboaaDoor
/- Functions' names: no two alike. -/
namespace Go.Proofs.YtlbjicjinnnboaaDoor
open Go.RowKit
open Pw
theorem findF_take {fs : List FuncM} (hu : (fs.map (·.name)).Nodup) {j : Nat} {f : FuncM} (hf : fs[j]? = some f) (nm : List UInt8) : findF (fs.take (j + 1)) nm = if f.name = nm then some j else findF (fs.take j) nm := by
 have hj := (List.getElem?_eq_some_iff.1 hf).1
 unfold findF
 rw [List.take_add_one, hf, List.findIdx?_append]
 have hl : (fs.take j).length = j := by rw [List.length_take]; omega
 by_cases he : f.name = nm
 · rw [if_pos he]
   have h0 : List.findIdx? (fun f => decide (f.name = nm)) (fs.take j) = none := by
    rw [List.findIdx?_eq_none_iff]
    intro g hg
    refine decide_eq_false fun h1 => ?_
    obtain ⟨i, hi, e⟩ := List.getElem_of_mem hg
    rw [List.length_take] at hi
    rw [List.getElem_take] at e
    have h2 := List.pairwise_iff_getElem.1 hu i j (by rw [List.length_map]; omega) (by rw [List.length_map]; omega) (by omega)
    rw [List.getElem_map, List.getElem_map, e, (List.getElem?_eq_some_iff.1 hf).2] at h2
    exact h2 (h1.trans he.symm)
   rw [h0]
   simp [he, hl]
 · rw [if_neg he]
   have h1 : (some f).toList = [f] := rfl
   rw [h1, List.findIdx?_cons, decide_eq_false he]
   simp
theorem twiceC_none : ∀ (l : List FuncM) (seen : List (List UInt8)), twiceC seen l = none → (l.map (·.name)).Nodup ∧ ∀ f ∈ l, f.name ∉ seen
 | [], seen, _ => ⟨List.nodup_nil, fun _ h => by cases h⟩
 | a :: l, seen, h => by
  have h : (if a.name ∈ seen then some a.body else twiceC (seen ++ [a.name]) l) = none := h
  split at h
  · cases h
  · rename_i hn
    obtain ⟨h1, h2⟩ := twiceC_none l _ h
    refine ⟨?_, fun f hf => ?_⟩
    · rw [List.map_cons, List.nodup_cons]
      refine ⟨fun hm => ?_, h1⟩
      obtain ⟨g, hg, e⟩ := List.mem_map.1 hm
      exact h2 g hg (by rw [e]; simp)
    · rcases List.mem_cons.1 hf with e | hf
      · subst e; exact hn
      · exact fun h3 => h2 f hf (List.mem_append_left _ h3)
theorem heads_uniq {fs : List FuncM} (h : headsC fs = .good ()) : (fs.map (·.name)).Nodup := by
 unfold headsC at h
 split at h
 · cases h
 · rename_i h2; exact (twiceC_none _ _ h2).1
end Go.Proofs.YtlbjicjinnnboaaDoor
