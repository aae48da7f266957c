/- MC: PModel, PTotal, PMem, PSmall, PStep, PStepB, PStepC, PStepD, PPut, PStepE, PStepF, PStepG, POk, PFew. -/
import Derived.Test.YtlbjicjinnnboaaDoorMA
import Derived.Test.YtlbjicjinnnboaaDoorMB
import Derived.StillTailTactics
set_option linter.unusedVariables false
set_option linter.unusedSimpArgs false
/- The parser: the model. -/
namespace Go.Proofs.YtlbjicjinnnboaaDoor
open Go.RowKit
structure NodeM where
 kind : Nat
 line : Nat
 n : Nat
 name : List UInt8
 l : List Nat
 deriving DecidableEq
structure PS where
 i : Nat
 nodes : List NodeM
 deep : Nat
 e : Nat
 place : Nat
abbrev tok0 : Tok := ⟨0, [], 0⟩
section
variable (src : List UInt8) (ts : List Tok)
def pTok (s : PS) : Tok := ts.getD s.i tok0
def pFail (k : Nat) (s : PS) : PS := if s.e = 0 then { s with e := k, place := (pTok ts s).place } else s
def pIs (x : List UInt8) (s : PS) : Bool := decide (s.e = 0) && (decide ((pTok ts s).kind = 5) || decide ((pTok ts s).kind = 4)) && decide ((pTok ts s).text = x)
def pKind (k : Nat) (s : PS) : Bool := decide (s.e = 0) && decide ((pTok ts s).kind = k)
def pGo (s : PS) : PS := { s with i := s.i + 1 }
def pMust (x : List UInt8) (s : PS) : PS := if pIs ts x s then pGo s else pFail ts 20 s
def pName (s : PS) : List UInt8 := if pKind ts 3 s then (pTok ts s).text else []
def pNamed (s : PS) : PS := if pKind ts 3 s then pGo s else pFail ts 20 s
def pLine (s : PS) : Nat := lineN src (pTok ts s).place
def pPut (kind line n : Nat) (name : List UInt8) (l : List Nat) (s : PS) : List Nat × PS := ([s.nodes.length], { s with nodes := s.nodes ++ [⟨kind, line, n, name, l⟩] })
def pDown (s : PS) : PS := let s := if 16 ≤ s.deep then pFail ts 21 s else s; { s with deep := s.deep + 1 }
def pUp (s : PS) : PS := { s with deep := s.deep - 1 }
def signsL : Nat → List (List UInt8)
 | 0 => [[124, 124]]
 | 1 => [[38, 38]]
 | 2 => [[60], [60, 61], [61, 61], [33, 61]]
 | 3 => [[43], [45]]
 | _ => [[42], [47], [37]]
def pNext (lv : Nat) (s : PS) : List UInt8 := ((signsL lv).find? fun x => pIs ts x s).getD []
def pCalls (s : PS) : Bool := pKind ts 3 s && (decide ((ts.getD (s.i + 1) tok0).kind = 5) && decide ((ts.getD (s.i + 1) tok0).text = [40]))
def pWord (s : PS) : List UInt8 := if pKind ts 4 s then (pTok ts s).text else []
def typeM (w : List UInt8) : Nat := if w = [105, 110, 116] then 1 else if w = [98, 111, 111, 108] then 2 else if w = [116, 101, 120, 116] then 3 else if w = [108, 105, 115, 116] then 4 else 0
def pType (s : PS) : Nat := typeM (pWord ts s)
def pTyped (s : PS) : PS := if pType ts s = 0 then pFail ts 20 s else pGo s
def atoiM (l : List UInt8) : Nat := digitsVal 0 l
inductive Task where
 | atom | factor | chain (lv : Nat) | more (lv line x : Nat) | args (l : List Nat) | call | right | block | stmts (l : List Nat) | named (line : Nat) | stmt
def run : Nat → Task → PS → Option (List Nat × PS)
 | 0, _, _ => none
 | f + 1, .atom, s =>
  if s.e ≠ 0 then some ([0], s)
  else if (pTok ts s).kind = 1 then some (pPut 1 (pLine src ts s) (atoiM (pTok ts s).text) [] [] (pGo s))
  else if (pTok ts s).kind = 2 then some (pPut 3 (pLine src ts s) 0 (pTok ts s).text [] (pGo s))
  else if (pTok ts s).kind = 3 then
    if pIs ts [91] (pGo s) then
      (run f (.chain 0) (pMust ts [91] (pDown ts (pGo s)))).map fun r => pPut 5 (pLine src ts s) 0 (pTok ts s).text r.1 (pUp (pMust ts [93] r.2))
    else some (pPut 4 (pLine src ts s) 0 (pTok ts s).text [] (pGo s))
  else if pIs ts [116, 114, 117, 101] s then some (pPut 2 (pLine src ts s) 1 [] [] (pGo s))
  else if pIs ts [102, 97, 108, 115, 101] s then some (pPut 2 (pLine src ts s) 0 [] [] (pGo s))
  else if pIs ts [108, 101, 110] s then
    if pIs ts [40] (pGo s) then
      (run f (.chain 0) (pMust ts [40] (pDown ts (pGo s)))).map fun r => pPut 6 (pLine src ts s) 0 [] r.1 (pUp (pMust ts [41] r.2))
    else some ([0], pFail ts 20 (pGo s))
  else if pIs ts [40] s then (run f (.chain 0) (pMust ts [40] (pDown ts s))).map fun r => (r.1, pUp (pMust ts [41] r.2))
  else some ([0], pFail ts 20 s)
 | f + 1, .factor, s =>
  if pIs ts [45] s then (run f .factor (pGo (pDown ts s))).map fun r => pPut 7 (pLine src ts s) 0 [] r.1 (pUp r.2)
  else if pIs ts [33] s then (run f .factor (pGo (pDown ts s))).map fun r => pPut 8 (pLine src ts s) 0 [] r.1 (pUp r.2)
  else run f .atom s
 | f + 1, .chain lv, s =>
  if lv = 5 then run f .factor s
  else (run f (.chain (lv + 1)) s).bind fun r => run f (.more lv (pLine src ts s) (r.1.headD 0)) r.2
 | f + 1, .more lv line x, s =>
  if pNext ts lv s = [] then some ([x], s)
  else (run f (.chain (lv + 1)) (pGo s)).bind fun r =>
    let p := pPut 9 line 0 (pNext ts lv s) [x, r.1.headD 0] r.2
    if lv = 2 then some p else run f (.more lv line (p.1.headD 0)) p.2
 | f + 1, .args l, s =>
  (run f (.chain 0) s).bind fun r => if pIs ts [44] r.2 then run f (.args (l ++ r.1)) (pGo r.2) else some (l ++ r.1, r.2)
 | f + 1, .call, s =>
  let s2 := pMust ts [40] (pNamed ts s)
  (if pIs ts [41] s2 = false ∧ s2.e = 0 then run f (.args []) s2 else some ([], s2)).map fun r => pPut 21 (pLine src ts s) 0 (pName ts s) r.1 (pMust ts [41] r.2)
 | f + 1, .right, s =>
  if pIs ts [105, 110, 112, 117, 116] s then some (pPut 19 (pLine src ts s) 0 [] [] (pGo s))
  else if pIs ts [110, 101, 119] s then
    (run f (.chain 0) (pMust ts [40] (pGo s))).map fun r => pPut 20 (pLine src ts s) 0 [] r.1 (pMust ts [41] r.2)
  else if pCalls ts s then run f .call s
  else run f (.chain 0) s
 | f + 1, .block, s =>
  if pIs ts [123] s then
    (run f (.stmts []) (pMust ts [123] (pDown ts s))).map fun r => pPut 18 (pLine src ts s) 0 [] r.1 (pUp (pMust ts [125] r.2))
  else some ([0], pFail ts 20 s)
 | f + 1, .stmts l, s =>
  if s.e ≠ 0 then some (l, s)
  else if pIs ts [125] s then some (l, s)
  else (run f .stmt s).bind fun r => run f (.stmts (l ++ r.1)) r.2
 | f + 1, .named line, s =>
  if pCalls ts s then (run f .call s).map fun r => pPut 13 line 0 [] r.1 (pMust ts [59] r.2)
  else if pIs ts [91] (pNamed ts s) then
    (run f (.chain 0) (pMust ts [91] (pDown ts (pNamed ts s)))).bind fun r =>
      (run f (.chain 0) (pMust ts [61] (pUp (pMust ts [93] r.2)))).map fun q => pPut 12 line 0 (pName ts s) (r.1 ++ q.1) (pMust ts [59] q.2)
  else (run f .right (pMust ts [61] (pNamed ts s))).map fun r => pPut 11 line 0 (pName ts s) r.1 (pMust ts [59] r.2)
 | f + 1, .stmt, s =>
  if pWord ts s = [108, 101, 116] then
    (run f .right (pMust ts [61] (pNamed ts (pGo s)))).map fun r => pPut 10 (pLine src ts s) 0 (pName ts (pGo s)) r.1 (pMust ts [59] r.2)
  else if pWord ts s = [112, 114, 105, 110, 116] then
    (run f (.chain 0) (pGo s)).map fun r => pPut 14 (pLine src ts s) 0 [] r.1 (pMust ts [59] r.2)
  else if pWord ts s = [119, 104, 105, 108, 101] then
    (run f (.chain 0) (pGo s)).bind fun r => (run f .block r.2).map fun b => pPut 16 (pLine src ts s) 0 [] (r.1 ++ b.1) b.2
  else if pWord ts s = [105, 102] then
    (run f (.chain 0) (pGo s)).bind fun r => (run f .block r.2).bind fun b =>
      if pIs ts [101, 108, 115, 101] b.2 then (run f .block (pGo b.2)).map fun c => pPut 15 (pLine src ts s) 0 [] (r.1 ++ b.1 ++ c.1) c.2
      else some (pPut 15 (pLine src ts s) 0 [] (r.1 ++ b.1) b.2)
  else if pWord ts s = [114, 101, 116, 117, 114, 110] then
    if pIs ts [59] (pGo s) then some (pPut 17 (pLine src ts s) 0 [] [] (pMust ts [59] (pGo s)))
    else (run f (.chain 0) (pGo s)).map fun r => pPut 17 (pLine src ts s) 0 [] r.1 (pMust ts [59] r.2)
  else run f (.named (pLine src ts s)) s
structure FuncM where
 name : List UInt8
 line : Nat
 params : List (List UInt8 × Nat)
 ret : Nat
 body : Nat
def runParams : Nat → List (List UInt8 × Nat) → PS → Option (List (List UInt8 × Nat) × PS)
 | 0, _, _ => none
 | f + 1, acc, s =>
  let s1 := pNamed ts s
  let s2 := pTyped ts s1
  let acc2 := acc ++ [(pName ts s, pType ts s1)]
  if pIs ts [44] s2 then runParams f acc2 (pGo s2) else some (acc2, s2)
def runFunc (f : Nat) (s : PS) : Option (FuncM × PS) :=
 let s1 := pMust ts [102, 110] s
 let s3 := pMust ts [40] (pNamed ts s1)
 (if pIs ts [41] s3 = false ∧ s3.e = 0 then runParams ts f [] s3 else some ([], s3)).bind fun p =>
   let s4 := pMust ts [41] p.2
   let ret := if pIs ts [123] s4 then 0 else pType ts s4
   let s5 := if pIs ts [123] s4 then s4 else pTyped ts s4
   (run src ts f .block s5).map fun b => (⟨pName ts s1, pLine src ts s, p.1, ret, b.1.headD 0⟩, b.2)
def runFns : Nat → List FuncM → PS → Option (List FuncM × PS)
 | 0, _, _ => none
 | f + 1, acc, s =>
  if s.e ≠ 0 then some (acc, s)
  else if pKind ts 0 s then some (acc, s)
  else (runFunc src ts f s).bind fun r => runFns f (acc ++ [r.1]) r.2
end
inductive ParseR where
 | good (nodes : List NodeM) (fns : List FuncM)
 | bad (p e : Nat)
def parseFuel (ts : List Tok) : Nat := 40 * ts.length + 100
def parseT (src : List UInt8) (ts : List Tok) : Option ParseR :=
 (runFns src ts (parseFuel ts) [] ⟨0, [], 0, 0, 0⟩).map fun r =>
   if r.2.e ≠ 0 then .bad r.2.place r.2.e
   else if 300 < r.2.nodes.length ∨ 6 < r.1.length ∨ r.1.any (fun f => decide (3 < f.params.length)) = true then .bad 0 4
   else .good r.2.nodes r.1
def parseM (src : List UInt8) : Option ParseR :=
 match lexM src with
 | .bad p e => some (.bad p e)
 | .good ts => parseT src ts
structure Ext (s t : PS) : Prop where
 i : s.i ≤ t.i
 err : s.e ≠ 0 → t.e = s.e ∧ t.place = s.place
 nodes : ∃ x, t.nodes = s.nodes ++ x
section
variable {src : List UInt8} {ts : List Tok} {s t u : PS}
theorem Ext.refl (s : PS) : Ext s s := ⟨Nat.le_refl _, fun _ => ⟨rfl, rfl⟩, [], by simp⟩
theorem Ext.trans (h : Ext s t) (g : Ext t u) : Ext s u := by
 refine ⟨Nat.le_trans h.i g.i, fun he => ?_, ?_⟩
 · obtain ⟨a1, a2⟩ := h.err he
   obtain ⟨b1, b2⟩ := g.err (by rw [a1]; exact he)
   exact ⟨b1.trans a1, b2.trans a2⟩
 · obtain ⟨x, hx⟩ := h.nodes
   obtain ⟨y, hy⟩ := g.nodes
   exact ⟨x ++ y, by rw [hy, hx, List.append_assoc]⟩
theorem Ext.fail (h : Ext s t) (k : Nat) : Ext s (pFail ts k t) := by
 refine h.trans ?_
 unfold pFail
 split
 · rename_i h0; exact ⟨Nat.le_refl _, fun he => absurd h0 he, [], by simp⟩
 · exact Ext.refl _
theorem Ext.go (h : Ext s t) : Ext s (pGo t) := h.trans ⟨Nat.le_succ _, fun _ => ⟨rfl, rfl⟩, [], by simp [pGo]⟩
theorem Ext.up (h : Ext s t) : Ext s (pUp t) := h.trans ⟨Nat.le_refl _, fun _ => ⟨rfl, rfl⟩, [], by simp [pUp]⟩
theorem Ext.down (h : Ext s t) : Ext s (pDown ts t) := by
 unfold pDown
 simp only
 split
 · exact (h.fail (ts := ts) 21).trans ⟨Nat.le_refl _, fun _ => ⟨rfl, rfl⟩, [], by simp⟩
 · exact h.trans ⟨Nat.le_refl _, fun _ => ⟨rfl, rfl⟩, [], by simp⟩
theorem Ext.must (h : Ext s t) (x : List UInt8) : Ext s (pMust ts x t) := by
 unfold pMust; split
 · exact h.go
 · exact h.fail _
theorem Ext.named (h : Ext s t) : Ext s (pNamed ts t) := by
 unfold pNamed; split
 · exact h.go
 · exact h.fail _
theorem Ext.typed (h : Ext s t) : Ext s (pTyped ts t) := by
 unfold pTyped; split
 · exact h.fail _
 · exact h.go
theorem Ext.put (h : Ext s t) (kind line n : Nat) (name : List UInt8) (l : List Nat) : Ext s (pPut kind line n name l t).2 :=
 h.trans ⟨Nat.le_refl _, fun _ => ⟨rfl, rfl⟩, [⟨kind, line, n, name, l⟩], rfl⟩
theorem tok_lt (h : (pTok ts s).kind ≠ 0) : s.i < ts.length := by
 by_cases hl : s.i < ts.length
 · exact hl
 · refine absurd ?_ h
   unfold pTok
   rw [List.getD, List.getElem?_eq_none (by omega)]; rfl
theorem pIs_kind {x : List UInt8} (h : pIs ts x s = true) : s.e = 0 ∧ (pTok ts s).kind ≠ 0 ∧ (pTok ts s).text = x := by
 unfold pIs at h
 simp at h
 exact ⟨h.1.1, by omega, h.2⟩
theorem pIs_lt {x : List UInt8} (h : pIs ts x s = true) : s.i < ts.length := tok_lt (pIs_kind h).2.1
theorem pKind_kind {k : Nat} (h : pKind ts k s = true) : s.e = 0 ∧ (pTok ts s).kind = k := by
 unfold pKind at h
 simpa using h
theorem pCalls_kind (h : pCalls ts s = true) : pKind ts 3 s = true := by
 unfold pCalls at h
 simp at h
 exact h.1
theorem pWord_kind {x : List UInt8} (hx : x ≠ []) (h : pWord ts s = x) : s.e = 0 ∧ (pTok ts s).kind = 4 := by
 unfold pWord at h
 split at h
 · rename_i hk; exact pKind_kind hk
 · exact absurd h.symm hx
theorem pNext_kind {lv : Nat} (h : pNext ts lv s ≠ []) : s.e = 0 ∧ s.i < ts.length := by
 unfold pNext at h
 cases hf : (signsL lv).find? fun x => pIs ts x s with
 | none => rw [hf] at h; simp at h
 | some x =>
  have := List.find?_some hf
  exact ⟨(pIs_kind this).1, pIs_lt this⟩
theorem run_ext : ∀ (n : Nat) (k : Task) (s : PS) (r : List Nat × PS), run src ts n k s = some r → Ext s r.2 := by
 intro n
 induction n with
 | zero => intro k s r h; simp [run] at h
 | succ n ih =>
  intro k s r h
  cases k <;> simp only [run] at h <;>
   (repeat' split at h) <;>
   (try simp only [Option.map_eq_some_iff, Option.bind_eq_some_iff, Option.some.injEq] at h) <;>
   (try (obtain ⟨q1, h1, h⟩ := h)) <;>
   (repeat' split at h) <;>
   (try simp only [Option.map_eq_some_iff, Option.bind_eq_some_iff, Option.some.injEq] at h) <;>
   (try (obtain ⟨q2, h2, h⟩ := h)) <;>
   (repeat' split at h) <;>
   (try simp only [Option.map_eq_some_iff, Option.bind_eq_some_iff, Option.some.injEq] at h) <;>
   (try (obtain ⟨q3, h3, h⟩ := h)) <;>
   (try subst h) <;>
   (try subst h1) <;>
   (repeat (first
     | exact Ext.refl _
     | apply Ext.put
     | apply Ext.up
     | apply Ext.must
     | apply Ext.named
     | apply Ext.typed
     | apply Ext.go
     | apply Ext.down
     | apply Ext.fail
     | refine Ext.trans ?_ (ih _ _ _ (by assumption))
     | dsimp only))
def rem (ts : List Tok) (s : PS) : Nat := if s.e = 0 then 16 * (ts.length - s.i) else 0
theorem rem_ext (h : Ext s t) : rem ts t ≤ rem ts s := by
 unfold rem
 have hi := h.i
 by_cases h0 : s.e = 0
 · rw [if_pos h0]; split <;> omega
 · rw [if_neg h0, if_neg (by rw [(h.err h0).1]; exact h0)]; omega
theorem rem_go (h0 : s.e = 0) (hi : s.i < ts.length) (h : Ext (pGo s) t) : rem ts t + 16 ≤ rem ts s := by
 have h1 : rem ts t ≤ rem ts (pGo s) := rem_ext h
 have h2 : rem ts (pGo s) = 16 * (ts.length - (s.i + 1)) := by unfold rem; rw [if_pos (show (pGo s).e = 0 from h0)]; rfl
 have h3 : rem ts s = 16 * (ts.length - s.i) := by unfold rem; rw [if_pos h0]
 omega
theorem rem_is {x : List UInt8} (hx : pIs ts x s = true) (h : Ext (pGo s) t) : rem ts t + 16 ≤ rem ts s := rem_go (pIs_kind hx).1 (pIs_lt hx) h
theorem rem_down {x : List UInt8} (hx : pIs ts x s = true) : rem ts (pMust ts x (pDown ts s)) + 16 ≤ rem ts s := by
 have h0 := (pIs_kind hx).1
 have hi := pIs_lt hx
 have h3 : rem ts s = 16 * (ts.length - s.i) := by unfold rem; rw [if_pos h0]
 unfold pDown
 by_cases hd : 16 ≤ s.deep
 · have he : (pDown ts s).e = 21 := by
    unfold pDown pFail
    simp only
    rw [if_pos hd, if_pos h0]
   have e1 := ((Ext.refl (pDown ts s)).must (ts := ts) x).err (by rw [he]; decide)
   have : rem ts (pMust ts x (pDown ts s)) = 0 := by
    unfold rem; rw [if_neg (by rw [e1.1, he]; decide)]
   unfold pDown at this
   rw [this]; omega
 · simp only
   rw [if_neg hd]
   have h4 : pIs ts x { s with deep := s.deep + 1 } = true := hx
   unfold pMust
   rw [if_pos h4]
   have : rem ts (pGo { s with deep := s.deep + 1 }) = 16 * (ts.length - (s.i + 1)) := by
    unfold rem; rw [if_pos (show (pGo { s with deep := s.deep + 1 }).e = 0 from h0)]; rfl
   omega
def cost : Task → Nat
 | .atom => 1 | .factor => 2 | .chain lv => 8 - lv | .more _ _ _ => 2 | .args _ => 9 | .call => 10 | .right => 11 | .named _ => 12 | .stmt => 13 | .stmts _ => 14 | .block => 15
def okTask : Task → Prop
 | .chain lv => lv ≤ 5
 | .more lv _ _ => lv ≤ 4
 | _ => True
theorem go_down_ext (s : PS) : Ext (pGo s) (pGo (pDown ts s)) := by
 have h := (Ext.refl s).down (ts := ts)
 exact ⟨Nat.succ_le_succ h.i, fun he => h.err he, h.nodes⟩
theorem named_ext {n line : Nat} {r : List Nat × PS} (h : run src ts n (.named line) s = some r) (hc : pCalls ts s = false) : Ext (pNamed ts s) r.2 := by
 cases n with
 | zero => simp [run] at h
 | succ n =>
  simp only [run] at h
  rw [if_neg (by rw [hc]; simp)] at h
  split at h
  · simp only [Option.map_eq_some_iff, Option.bind_eq_some_iff] at h
    obtain ⟨q1, h1, q2, h2, h⟩ := h
    subst h
    (repeat (first
      | exact Ext.refl _
      | apply Ext.put
      | apply Ext.up
      | apply Ext.must
      | (refine Ext.trans ?_ (run_ext _ _ _ _ (by assumption)))
      | apply Ext.named
      | apply Ext.typed
      | apply Ext.go
      | apply Ext.down
      | apply Ext.fail
      | dsimp only))
  · simp only [Option.map_eq_some_iff] at h
    obtain ⟨q1, h1, h⟩ := h
    subst h
    (repeat (first
      | exact Ext.refl _
      | apply Ext.put
      | apply Ext.up
      | apply Ext.must
      | (refine Ext.trans ?_ (run_ext _ _ _ _ (by assumption)))
      | apply Ext.named
      | apply Ext.typed
      | apply Ext.go
      | apply Ext.down
      | apply Ext.fail
      | dsimp only))
theorem call_ext {n : Nat} {r : List Nat × PS} (h : run src ts n .call s = some r) : Ext (pNamed ts s) r.2 := by
 cases n with
 | zero => simp [run] at h
 | succ n =>
  simp only [run] at h
  split at h <;>
   simp only [Option.map_eq_some_iff, Option.some.injEq] at h <;>
   obtain ⟨q1, h1, h⟩ := h <;>
   subst h <;>
   (try subst h1) <;>
   (repeat (first
     | exact Ext.refl _
     | apply Ext.put
     | apply Ext.up
     | apply Ext.must
     | (refine Ext.trans ?_ (run_ext _ _ _ _ (by assumption)))
     | apply Ext.named
     | apply Ext.typed
     | apply Ext.go
     | apply Ext.down
     | apply Ext.fail
     | dsimp only))
theorem named_goes (h : Ext (pNamed ts s) t) (h0 : s.e = 0) : t.e ≠ 0 ∨ rem ts t + 16 ≤ rem ts s := by
 unfold pNamed at h
 by_cases hk : pKind ts 3 s = true
 · rw [if_pos hk] at h
   exact .inr (rem_go h0 (tok_lt (by rw [(pKind_kind hk).2]; decide)) h)
 · rw [if_neg hk] at h
   left
   have he : (pFail ts 20 s).e = 20 := by unfold pFail; rw [if_pos h0]
   rw [(h.err (by rw [he]; decide)).1, he]; decide
theorem stmt_goes {n : Nat} {r : List Nat × PS} (h : run src ts n .stmt s = some r) (h0 : s.e = 0) : r.2.e ≠ 0 ∨ rem ts r.2 + 16 ≤ rem ts s := by
 cases n with
 | zero => simp [run] at h
 | succ n =>
  have word : ∀ x, x ≠ [] → pWord ts s = x → Ext (pGo s) r.2 → rem ts r.2 + 16 ≤ rem ts s := fun x hx hw he => by
    obtain ⟨_, hk4⟩ := pWord_kind hx hw
    exact rem_go h0 (tok_lt (by rw [hk4]; decide)) he
  simp only [run] at h
  split at h
  · rename_i hw
    refine .inr (word _ (by decide) hw ?_)
    simp only [Option.map_eq_some_iff] at h
    obtain ⟨q1, h1, h⟩ := h
    subst h
    (repeat (first
      | exact Ext.refl _
      | apply Ext.put
      | apply Ext.up
      | apply Ext.must
      | (refine Ext.trans ?_ (run_ext _ _ _ _ (by assumption)))
      | apply Ext.named
      | apply Ext.typed
      | apply Ext.go
      | apply Ext.down
      | apply Ext.fail
      | dsimp only))
  · split at h
    · rename_i hw
      refine .inr (word _ (by decide) hw ?_)
      simp only [Option.map_eq_some_iff] at h
      obtain ⟨q1, h1, h⟩ := h
      subst h
      (repeat (first
      | exact Ext.refl _
      | apply Ext.put
      | apply Ext.up
      | apply Ext.must
      | (refine Ext.trans ?_ (run_ext _ _ _ _ (by assumption)))
      | apply Ext.named
      | apply Ext.typed
      | apply Ext.go
      | apply Ext.down
      | apply Ext.fail
      | dsimp only))
    · split at h
      · rename_i hw
        refine .inr (word _ (by decide) hw ?_)
        simp only [Option.map_eq_some_iff, Option.bind_eq_some_iff] at h
        obtain ⟨q1, h1, q2, h2, h⟩ := h
        subst h
        (repeat (first
      | exact Ext.refl _
      | apply Ext.put
      | apply Ext.up
      | apply Ext.must
      | (refine Ext.trans ?_ (run_ext _ _ _ _ (by assumption)))
      | apply Ext.named
      | apply Ext.typed
      | apply Ext.go
      | apply Ext.down
      | apply Ext.fail
      | dsimp only))
      · split at h
        · rename_i hw
          refine .inr (word _ (by decide) hw ?_)
          simp only [Option.bind_eq_some_iff] at h
          obtain ⟨q1, h1, q2, h2, h⟩ := h
          split at h
          · simp only [Option.map_eq_some_iff] at h
            obtain ⟨q3, h3, h⟩ := h
            subst h
            (repeat (first
      | exact Ext.refl _
      | apply Ext.put
      | apply Ext.up
      | apply Ext.must
      | (refine Ext.trans ?_ (run_ext _ _ _ _ (by assumption)))
      | apply Ext.named
      | apply Ext.typed
      | apply Ext.go
      | apply Ext.down
      | apply Ext.fail
      | dsimp only))
          · simp only [Option.some.injEq] at h
            subst h
            (repeat (first
      | exact Ext.refl _
      | apply Ext.put
      | apply Ext.up
      | apply Ext.must
      | (refine Ext.trans ?_ (run_ext _ _ _ _ (by assumption)))
      | apply Ext.named
      | apply Ext.typed
      | apply Ext.go
      | apply Ext.down
      | apply Ext.fail
      | dsimp only))
        · split at h
          · rename_i hw
            refine .inr (word _ (by decide) hw ?_)
            split at h
            · simp only [Option.some.injEq] at h
              subst h
              (repeat (first
      | exact Ext.refl _
      | apply Ext.put
      | apply Ext.up
      | apply Ext.must
      | (refine Ext.trans ?_ (run_ext _ _ _ _ (by assumption)))
      | apply Ext.named
      | apply Ext.typed
      | apply Ext.go
      | apply Ext.down
      | apply Ext.fail
      | dsimp only))
            · simp only [Option.map_eq_some_iff] at h
              obtain ⟨q1, h1, h⟩ := h
              subst h
              (repeat (first
      | exact Ext.refl _
      | apply Ext.put
      | apply Ext.up
      | apply Ext.must
      | (refine Ext.trans ?_ (run_ext _ _ _ _ (by assumption)))
      | apply Ext.named
      | apply Ext.typed
      | apply Ext.go
      | apply Ext.down
      | apply Ext.fail
      | dsimp only))
          · by_cases hc : pCalls ts s = true
            · cases n with
              | zero => simp [run] at h
              | succ n =>
                simp only [run] at h
                rw [if_pos hc] at h
                simp only [Option.map_eq_some_iff] at h
                obtain ⟨q1, h1, h⟩ := h
                subst h
                exact named_goes (((call_ext h1).must _).put _ _ _ _ _) h0
            · exact named_goes (named_ext h (by simpa using hc)) h0
theorem run_some : ∀ (n : Nat) (k : Task) (s : PS), okTask k → rem ts s + cost k ≤ n → ∃ r, run src ts n k s = some r := by
 intro n
 induction n with
 | zero => intro k s hk h; cases k <;> simp [cost] at h <;> (simp [okTask] at hk) <;> omega
 | succ n ih =>
  intro k s hk h
  cases k with
  | atom =>
   simp only [cost] at h
   simp only [run]
   split
   · exact ⟨_, rfl⟩
   · rename_i h0
     have h0 : s.e = 0 := by simpa using h0
     split
     · exact ⟨_, rfl⟩
     · split
       · exact ⟨_, rfl⟩
       · split
         · rename_i hk3
           split
           · rename_i hx
             have hr := rem_down hx
             have hg := rem_go (ts := ts) h0 (tok_lt (by rw [hk3]; decide)) (Ext.refl (pGo s))
             obtain ⟨q, hq⟩ := ih (.chain 0) (pMust ts [91] (pDown ts (pGo s))) (by simp [okTask]) (by simp only [cost]; omega)
             rw [hq]; exact ⟨_, rfl⟩
           · exact ⟨_, rfl⟩
         · split
           · exact ⟨_, rfl⟩
           · split
             · exact ⟨_, rfl⟩
             · split
               · rename_i hl
                 split
                 · rename_i hx
                   have hr := rem_down hx
                   have hg := rem_is hl (Ext.refl (pGo s))
                   obtain ⟨q, hq⟩ := ih (.chain 0) (pMust ts [40] (pDown ts (pGo s))) (by simp [okTask]) (by simp only [cost]; omega)
                   rw [hq]; exact ⟨_, rfl⟩
                 · exact ⟨_, rfl⟩
               · split
                 · rename_i hx
                   have hr := rem_down hx
                   obtain ⟨q, hq⟩ := ih (.chain 0) (pMust ts [40] (pDown ts s)) (by simp [okTask]) (by simp only [cost]; omega)
                   rw [hq]; exact ⟨_, rfl⟩
                 · exact ⟨_, rfl⟩
  | factor =>
   simp only [cost] at h
   simp only [run]
   split
   · rename_i hx
     have hg := rem_is hx (go_down_ext (ts := ts) s)
     obtain ⟨q, hq⟩ := ih .factor (pGo (pDown ts s)) trivial (by simp only [cost]; omega)
     rw [hq]; exact ⟨_, rfl⟩
   · split
     · rename_i hx
       have hg := rem_is hx (go_down_ext (ts := ts) s)
       obtain ⟨q, hq⟩ := ih .factor (pGo (pDown ts s)) trivial (by simp only [cost]; omega)
       rw [hq]; exact ⟨_, rfl⟩
     · exact ih .atom s trivial (by simp only [cost]; omega)
  | chain lv =>
   simp only [okTask] at hk
   simp only [cost] at h
   simp only [run]
   split
   · exact ih .factor s trivial (by simp only [cost]; omega)
   · obtain ⟨q, hq⟩ := ih (.chain (lv + 1)) s (by simp only [okTask]; omega) (by simp only [cost]; omega)
     rw [hq]
     have he := rem_ext (ts := ts) (run_ext _ _ _ _ hq)
     exact ih (.more lv _ _) q.2 (by simp only [okTask]; omega) (by simp only [cost]; omega)
  | more lv line x =>
   simp only [okTask] at hk
   simp only [cost] at h
   simp only [run]
   split
   · exact ⟨_, rfl⟩
   · rename_i hx
     obtain ⟨h0, hi⟩ := pNext_kind hx
     have hg := rem_go (ts := ts) h0 hi (Ext.refl (pGo s))
     obtain ⟨q, hq⟩ := ih (.chain (lv + 1)) (pGo s) (by simp only [okTask]; omega) (by simp only [cost]; omega)
     rw [hq]
     have he := rem_ext (ts := ts) (run_ext _ _ _ _ hq)
     simp only [Option.bind_some]
     split
     · exact ⟨_, rfl⟩
     · have hp := rem_ext (ts := ts) ((Ext.refl q.2).put 9 line 0 (pNext ts lv s) [x, q.1.headD 0])
       exact ih (.more lv line _) _ (by simp only [okTask]; omega) (by simp only [cost]; omega)
  | args l =>
   simp only [cost] at h
   simp only [run]
   obtain ⟨q, hq⟩ := ih (.chain 0) s (by simp [okTask]) (by simp only [cost]; omega)
   rw [hq]
   have he := rem_ext (ts := ts) (run_ext _ _ _ _ hq)
   simp only [Option.bind_some]
   split
   · rename_i hx
     have hg := rem_is hx (Ext.refl (pGo q.2))
     exact ih (.args _) _ trivial (by simp only [cost]; omega)
   · exact ⟨_, rfl⟩
  | call =>
   simp only [cost] at h
   simp only [run]
   have he := rem_ext (ts := ts) (((Ext.refl s).named (ts := ts)).must (ts := ts) [40])
   split
   · obtain ⟨q, hq⟩ := ih (.args []) (pMust ts [40] (pNamed ts s)) trivial (by simp only [cost]; omega)
     rw [hq]; exact ⟨_, rfl⟩
   · exact ⟨_, rfl⟩
  | right =>
   simp only [cost] at h
   simp only [run]
   split
   · exact ⟨_, rfl⟩
   · split
     · have he := rem_ext (ts := ts) (((Ext.refl s).go).must (ts := ts) [40])
       obtain ⟨q, hq⟩ := ih (.chain 0) (pMust ts [40] (pGo s)) (by simp [okTask]) (by simp only [cost]; omega)
       rw [hq]; exact ⟨_, rfl⟩
     · split
       · exact ih .call s trivial (by simp only [cost]; omega)
       · exact ih (.chain 0) s (by simp [okTask]) (by simp only [cost]; omega)
  | block =>
   simp only [cost] at h
   simp only [run]
   split
   · have he := rem_ext (ts := ts) (((Ext.refl s).down (ts := ts)).must (ts := ts) [123])
     obtain ⟨q, hq⟩ := ih (.stmts []) (pMust ts [123] (pDown ts s)) trivial (by simp only [cost]; omega)
     rw [hq]; exact ⟨_, rfl⟩
   · exact ⟨_, rfl⟩
  | stmts l =>
   simp only [cost] at h
   simp only [run]
   split
   · exact ⟨_, rfl⟩
   · rename_i h0
     have h0 : s.e = 0 := by simpa using h0
     split
     · exact ⟨_, rfl⟩
     · obtain ⟨q, hq⟩ := ih .stmt s trivial (by simp only [cost]; omega)
       rw [hq]
       simp only [Option.bind_some]
       by_cases hq0 : q.2.e = 0
       · have hg := (stmt_goes hq h0).resolve_left (fun x => x hq0)
         exact ih (.stmts _) _ trivial (by simp only [cost]; omega)
       · cases n with
         | zero => omega
         | succ n => exact ⟨(l ++ q.1, q.2), by simp only [run]; rw [if_pos hq0]⟩
  | named line =>
   simp only [cost] at h
   simp only [run]
   split
   · obtain ⟨q, hq⟩ := ih .call s trivial (by simp only [cost]; omega)
     rw [hq]; exact ⟨_, rfl⟩
   · split
     · have he := rem_ext (ts := ts) ((((Ext.refl s).named (ts := ts)).down (ts := ts)).must (ts := ts) [91])
       obtain ⟨q, hq⟩ := ih (.chain 0) (pMust ts [91] (pDown ts (pNamed ts s))) (by simp [okTask]) (by simp only [cost]; omega)
       rw [hq]
       have he2 := rem_ext (ts := ts) (((run_ext _ _ _ _ hq).must (ts := ts) [93]).up.must (ts := ts) [61])
       obtain ⟨q2, hq2⟩ := ih (.chain 0) (pMust ts [61] (pUp (pMust ts [93] q.2))) (by simp [okTask]) (by simp only [cost]; omega)
       simp only [Option.bind_some]
       rw [hq2]; exact ⟨_, rfl⟩
     · have he := rem_ext (ts := ts) (((Ext.refl s).named (ts := ts)).must (ts := ts) [61])
       obtain ⟨q, hq⟩ := ih .right (pMust ts [61] (pNamed ts s)) trivial (by simp only [cost]; omega)
       rw [hq]; exact ⟨_, rfl⟩
  | stmt =>
   simp only [cost] at h
   simp only [run]
   have goes : ∀ x, x ≠ [] → pWord ts s = x → rem ts (pGo s) + 16 ≤ rem ts s := fun x hx hw => by
     obtain ⟨h0, hk4⟩ := pWord_kind hx hw
     exact rem_go h0 (tok_lt (by rw [hk4]; decide)) (Ext.refl _)
   split
   · rename_i hw
     have hg := goes _ (by decide) hw
     have he := rem_ext (ts := ts) (((Ext.refl (pGo s)).named (ts := ts)).must (ts := ts) [61])
     obtain ⟨q, hq⟩ := ih .right (pMust ts [61] (pNamed ts (pGo s))) trivial (by simp only [cost]; omega)
     rw [hq]; exact ⟨_, rfl⟩
   · split
     · rename_i hw
       have hg := goes _ (by decide) hw
       obtain ⟨q, hq⟩ := ih (.chain 0) (pGo s) (by simp [okTask]) (by simp only [cost]; omega)
       rw [hq]; exact ⟨_, rfl⟩
     · split
       · rename_i hw
         have hg := goes _ (by decide) hw
         obtain ⟨q, hq⟩ := ih (.chain 0) (pGo s) (by simp [okTask]) (by simp only [cost]; omega)
         rw [hq]
         have he := rem_ext (ts := ts) (run_ext _ _ _ _ hq)
         obtain ⟨b, hb⟩ := ih .block q.2 trivial (by simp only [cost]; omega)
         simp only [Option.bind_some]
         rw [hb]; exact ⟨_, rfl⟩
       · split
         · rename_i hw
           have hg := goes _ (by decide) hw
           obtain ⟨q, hq⟩ := ih (.chain 0) (pGo s) (by simp [okTask]) (by simp only [cost]; omega)
           rw [hq]
           have he := rem_ext (ts := ts) (run_ext _ _ _ _ hq)
           obtain ⟨b, hb⟩ := ih .block q.2 trivial (by simp only [cost]; omega)
           simp only [Option.bind_some]
           rw [hb]
           have he2 := rem_ext (ts := ts) (run_ext _ _ _ _ hb)
           simp only [Option.bind_some]
           split
           · have he3 := rem_ext (ts := ts) ((Ext.refl b.2).go)
             obtain ⟨c, hc⟩ := ih .block (pGo b.2) trivial (by simp only [cost]; omega)
             rw [hc]; exact ⟨_, rfl⟩
           · exact ⟨_, rfl⟩
         · split
           · rename_i hw
             have hg := goes _ (by decide) hw
             split
             · exact ⟨_, rfl⟩
             · obtain ⟨q, hq⟩ := ih (.chain 0) (pGo s) (by simp [okTask]) (by simp only [cost]; omega)
               rw [hq]; exact ⟨_, rfl⟩
           · exact ih (.named _) s trivial (by simp only [cost]; omega)
end
theorem TyNode : SlTy Tryd.prog 23 49 5 64 (.agg #[.int .i64 0, .int .i64 0, .int .i64 0, .string ⟨#[]⟩, .slice none 0 0]) := SlTy.mk' (by kernel_rfl) (by kernel_rfl) rfl (by decide)
def NodeTy (w : World) (k : Nat) : Prop := ∃ cs f, w.heap[k]? = some (.cells cs 49 f)
def FrR (g : Nat) (w w' : World) : Prop := Fr (fun k => k = g ∨ (g < k ∧ NodeTy w k)) w w'
theorem FrR.trans {g : Nat} {w w1 w2 : World} (h : FrR g w w1) (h2 : FrR g w1 w2) : FrR g w w2 := by
 refine Fr.trans h h2 (fun _ _ x => x) (fun k hk hM => ?_)
 rcases hM with rfl | ⟨hgk, cs, f, hc⟩
 · exact .inl rfl
 · by_cases hn : k = g ∨ (g < k ∧ NodeTy w k)
   · exact hn
   · have := h.block k hk hn
     exact .inr ⟨hgk, cs, f, by rw [← this]; exact hc⟩
theorem FrR.no {g : Nat} {w w1 : World} (h : Fr nob w w1) : FrR g w w1 := Fr.ofNo h
theorem FrR.blk {g b t : Nat} {cs : Array Value} {w w' : World} (h : FrR g w w') (hb : Blk w b t cs) (h1 : b ≠ g) (h2 : t ≠ 49) : Blk w' b t cs := by
 refine hb.fr h ?_
 rintro (e | ⟨_, cs', f, hc⟩)
 · exact h1 e
 · unfold Blk at hb
   rw [hb] at hc
   injection hc with hc
   injection hc with _ ht
   exact h2 ht
def nodeCells (n : NodeM) (lv : Value) : List Value := [.int .i64 n.kind, .int .i64 n.line, .int .i64 n.n, .string (bs n.name), lv]
def nodesCells : List NodeM → List Value → List Value
 | n :: ns, v :: vs => nodeCells n v ++ nodesCells ns vs
 | _, _ => []
theorem nodesCells_snoc : ∀ (ns : List NodeM) (vs : List Value) (n : NodeM) (v : Value), ns.length = vs.length → nodesCells (ns ++ [n]) (vs ++ [v]) = nodesCells ns vs ++ nodeCells n v
 | [], [], n, v, _ => by simp [nodesCells]
 | [], _ :: _, _, _, h => by simp at h
 | _ :: _, [], _, _, h => by simp at h
 | a :: ns, b :: vs, n, v, h => by
  rw [List.cons_append, List.cons_append, nodesCells, nodesCells_snoc ns vs n v (by simpa using h), nodesCells, List.append_assoc]
def ints (l : List Nat) : List Value := l.map fun (x : Nat) => Value.int .i64 (x : Int)
def Below2 (w : World) : List NodeM → List Value → Prop
 | [], [] => True
 | n :: ns, v :: vs => Own w 3 1 v n.l.length (ints n.l) ∧ Below2 w ns vs
 | _, _ => False
structure ToksOk (ts : List Tok) : Prop where
 pos : 0 < ts.length
 few : ts.length ≤ 1000
 at_ : ∀ t ∈ ts, t.kind ≤ 5 ∧ t.place ≤ 1000
 last : (ts.getD (ts.length - 1) tok0).kind = 0
 nums : ∀ t ∈ ts, t.kind = 1 → t.text ≠ [] ∧ allDigits t.text ∧ digitsVal 0 t.text ≤ 9223372036854775807
 short : ∀ t ∈ ts, t.text.length ≤ 1000
structure PSOk (ts : List Tok) (s : PS) : Prop where
 room : s.i < ts.length
 deep : s.deep ≤ 17
 fine : s.e = 0 → s.deep ≤ 16
 err : s.e ≤ 21
 place : s.place ≤ 1000
structure Rdr (src : ByteArray) (tb tc : Nat) (ts : List Tok) (g : Nat) (lvs : List Value) (w : World) (s : PS) : Prop where
 cells : ∃ nv, Blk w g 61 #[.string src, .slice (some ⟨tb, 0, none⟩) ts.length tc, .int .i64 s.i, nv, .int .i64 s.deep, .int .i64 s.e, .int .i64 s.place] ∧ Own w 49 5 nv s.nodes.length (nodesCells s.nodes lvs)
 below : Below2 w s.nodes lvs
 same : s.nodes.length = lvs.length
 toks : ∃ b0, Toks b0 w (.slice (some ⟨tb, 0, none⟩) ts.length tc) ts
 newer : ∀ nv, w.cell? ⟨g, 3, none⟩ = some nv → ∀ k, blk nv = some k → g < k
section
variable {src : ByteArray} {tb tc : Nat} {ts : List Tok} {g : Nat} {lvs : List Value} {w w' : World} {s : PS}
theorem Below2.no : ∀ {ns : List NodeM} {vs : List Value}, Below2 w ns vs → Fr nob w w' → Below2 w' ns vs
 | [], [], _, _ => trivial
 | [], _ :: _, h, _ => h.elim
 | _ :: _, [], h, _ => h.elim
 | _ :: _, _ :: _, h, f => ⟨h.1.fr f (fun _ _ x => x), Below2.no h.2 f⟩
theorem Rdr.no (h : Rdr src tb tc ts g lvs w s) (f : Fr nob w w') : Rdr src tb tc ts g lvs w' s := by
 obtain ⟨nv, hb, ho⟩ := h.cells
 obtain ⟨b0, ht⟩ := h.toks
 exact ⟨⟨nv, hb.fr f (fun x => x), ho.fr f (fun _ _ x => x)⟩, h.below.no f, h.same, ⟨b0, ht.no f⟩, fun nv h1 => h.newer nv (by rw [← f.cell (p := ⟨g, 3, none⟩) hb.lt (fun x => x)]; exact h1)⟩
theorem Rdr.tok (h : Rdr src tb tc ts g lvs w s) (hk : PSOk ts s) : ts[s.i]? = some (pTok ts s) ∧ tb < w.heap.size ∧
  w.cell? ⟨tb, s.i * 3, none⟩ = some (.int .i64 (pTok ts s).kind) ∧ w.cell? ⟨tb, s.i * 3 + 1, none⟩ = some (.string (bs (pTok ts s).text)) ∧ w.cell? ⟨tb, s.i * 3 + 2, none⟩ = some (.int .i64 (pTok ts s).place) := by
 obtain ⟨b0, ht⟩ := h.toks
 have hi : ts[s.i]? = some (pTok ts s) := by
  unfold pTok
  rw [List.getD, List.getElem?_eq_getElem hk.room]; rfl
 obtain ⟨g2, hg, _, hlt, hat⟩ := ht.some (by have := hk.room; omega)
 injection hg with hg
 injection hg with hg
 subst hg
 exact ⟨hi, hlt, hat s.i _ hi⟩
end
set_option maxHeartbeats 1600000 in
set_option maxRecDepth 100000 in
theorem kind_any {src : ByteArray} {tb tc : Nat} {ts : List Tok} {g : Nat} {lvs : List Value} {w : World} {s : PS} (h : Rdr src tb tc ts g lvs w s) (hk : PSOk ts s) (k : Nat) :
   Calls Tryd.prog 16 #[.pointer (some ⟨g, 0, none⟩), .int .i64 k] w fun e w' => e = .returned (.bool (pKind ts k s)) ∧ Fr nob w w' := by
 obtain ⟨nv, hb, ho⟩ := h.cells
 obtain ⟨hi, htb, x0, x1, x2⟩ := h.tok hk
 have c1 := hb.cell 1
 have c2 := hb.cell 2
 have c5 := hb.cell 5
 have hr : (s.i : Int) < (ts.length : Int) := by have := hk.room; omega
 unfold pKind
 clear x1 x2 hi ho hb h hk
 simp at c1 c2 c5
 generalize (pTok ts s).kind = tk at *
 by_cases he : s.e = 0
 · have heb : ((s.e : Int) == 0) = true := by rw [he]; rfl
   rw [decide_eq_true he, Bool.true_and]
   clear he
   by_cases h2 : tk = k
   · have h2b : ((tk : Int) == (k : Int)) = true := by rw [h2]; simp
     rw [decide_eq_true h2]
     clear h2
     go_enter Tryd.func16, Tryd.ntmps16
     go_wp2
     go_quiet (fail)
     go_wp2
     go_ret
     exact ⟨rfl, (Fr.refl nob w).drewN _⟩
   · have h2b : ((tk : Int) == (k : Int)) = false := beq_eq_false_iff_ne.2 (by omega)
     rw [decide_eq_false h2]
     clear h2
     go_enter Tryd.func16, Tryd.ntmps16
     go_wp2
     go_quiet (fail)
     go_wp2
     go_ret
     exact ⟨rfl, (Fr.refl nob w).drewN _⟩
 · have heb : ((s.e : Int) == 0) = false := beq_eq_false_iff_ne.2 (by omega)
   rw [decide_eq_false he, Bool.false_and]
   clear he
   go_enter Tryd.func16, Tryd.ntmps16
   go_wp2
   go_quiet (fail)
   go_wp2
   go_ret
   exact ⟨rfl, (Fr.refl nob w).drewN _⟩
set_option maxHeartbeats 1600000 in
set_option maxRecDepth 100000 in
theorem is_any {src : ByteArray} {tb tc : Nat} {ts : List Tok} {g : Nat} {lvs : List Value} {w : World} {s : PS} (h : Rdr src tb tc ts g lvs w s) (hk : PSOk ts s) (X : ByteArray) :
   Calls Tryd.prog 28 #[.pointer (some ⟨g, 0, none⟩), .string X] w fun e w' => e = .returned (.bool (pIs ts X.data.toList s)) ∧ Fr nob w w' := by
 obtain ⟨nv, hb, ho⟩ := h.cells
 obtain ⟨hi, htb, x0, x1, x2⟩ := h.tok hk
 have hg := hb.lt
 have c1 := hb.cell 1
 have c2 := hb.cell 2
 have c5 := hb.cell 5
 have hr : (s.i : Int) < (ts.length : Int) := by have := hk.room; omega
 have hx : (bs (pTok ts s).text).toList = (pTok ts s).text := by rw [ByteArray.toList_eq]; rfl
 have hX : X.toList = X.data.toList := ByteArray.toList_eq X
 unfold pIs
 clear hi ho hb h hk
 simp at c1 c2 c5
 generalize (pTok ts s).kind = tk at *
 generalize (pTok ts s).place = tp at *
 generalize (pTok ts s).text = tt at *
 generalize hbt : bs tt = bt at *
 have n1 := World.new_ne w ⟨g, 1, none⟩ c1
 have n2 := World.new_ne w ⟨tb, s.i * 3, none⟩ x0
 obtain ⟨R, hR⟩ : ∃ R, (decide (s.e = 0) && (decide (tk = 5) || decide (tk = 4)) && decide (tt = X.data.toList)) = R := ⟨_, rfl⟩
 rw [hR]
 have HR := hid hR
 have HX := hid hx
 have HX2 := hid hX
 clear hR
 clear hx hX hbt
 go_enter Tryd.func28, Tryd.ntmps28
 go_wp2
 go_region_held3 (fun wx => wx.cell? ⟨g, 1, none⟩ = some (.slice (some ⟨tb, 0, none⟩) ts.length tc) ∧ wx.cell? ⟨g, 2, none⟩ = some (.int .i64 s.i) ∧ wx.cell? ⟨g, 5, none⟩ = some (.int .i64 s.e) ∧ wx.cell? ⟨tb, s.i * 3, none⟩ = some (.int .i64 tk) ∧ wx.cell? ⟨tb, s.i * 3 + 1, none⟩ = some (.string bt) ∧ wx.cell? ⟨tb, s.i * 3 + 2, none⟩ = some (.int .i64 tp)) (go_keep) (first | fail)
 have FR := hid (show Fr nob w (w.alloc (.cells #[.int .i64 tk, .string bt, .int .i64 tp] 73)).drew from ((Fr.refl nob w).alloc _).drew)
 clear c1 c2 x0 x1 x2 n1 n2
 by_cases he : s.e = 0
 · have heb : ((s.e : Int) == 0) = true := by rw [he]; rfl
   by_cases hT : tt = X.data.toList
   case' pos => have htb : (bt.toList == X.toList) = true := by rw [HX.out, HX2.out, hT]; simp
   case' neg => have htb : (bt.toList == X.toList) = false := by rw [HX.out, HX2.out]; exact beq_eq_false_iff_ne.2 hT
   all_goals
    by_cases h5 : tk = 5
    · have h5b : ((tk : Int) == 5) = true := by rw [h5]; rfl
      obtain ⟨b, hb⟩ : ∃ b, decide (tt = X.data.toList) = b := ⟨_, rfl⟩
      have hRb : R = b := by rw [← HR.out, decide_eq_true he, decide_eq_true h5, hb]; rfl
      first | (rw [decide_eq_true hT] at hb) | (rw [decide_eq_false hT] at hb)
      subst hb
      subst hRb
      clear h5 hT he
      go_wp2
      go_ret
      exact ⟨rfl, FR.out⟩
    · have h5b : ((tk : Int) == 5) = false := beq_eq_false_iff_ne.2 (by omega)
      by_cases h4 : tk = 4
      · have h4b : ((tk : Int) == 4) = true := by rw [h4]; rfl
        obtain ⟨b, hb⟩ : ∃ b, decide (tt = X.data.toList) = b := ⟨_, rfl⟩
        have hRb : R = b := by rw [← HR.out, decide_eq_true he, decide_eq_false h5, decide_eq_true h4, hb]; rfl
        first | (rw [decide_eq_true hT] at hb) | (rw [decide_eq_false hT] at hb)
        subst hb
        subst hRb
        clear h5 h4 hT he
        go_wp2
        go_ret
        exact ⟨rfl, FR.out⟩
      · have h4b : ((tk : Int) == 4) = false := beq_eq_false_iff_ne.2 (by omega)
        have hRb : R = false := by rw [← HR.out, decide_eq_true he, decide_eq_false h5, decide_eq_false h4]; rfl
        subst hRb
        clear h5 h4 hT he
        go_wp2
        go_ret
        exact ⟨rfl, FR.out⟩
 · have heb : ((s.e : Int) == 0) = false := beq_eq_false_iff_ne.2 (by omega)
   have hRb : R = false := by rw [← HR.out, decide_eq_false he]; rfl
   subst hRb
   clear he
   go_wp2
   go_ret
   exact ⟨rfl, FR.out⟩
section
variable {src : ByteArray} {tb tc : Nat} {ts : List Tok} {g : Nat} {lvs : List Value} {w w' : World} {s : PS}
theorem Below2.one {cs : Array Value} {t : TypeId} (hb : Blk w g t cs) (ht : 3 ≠ t) : ∀ {ns : List NodeM} {vs : List Value}, Below2 w ns vs → Fr (oneb g) w w' → Below2 w' ns vs
 | [], [], _, _ => trivial
 | [], _ :: _, h, _ => h.elim
 | _ :: _, [], h, _ => h.elim
 | _ :: _, _ :: _, h, f => ⟨h.1.fr f (fun b hb' hm => h.1.blk_ne hb ht (by rw [hb', show b = g from hm])), Below2.one hb ht h.2 f⟩
theorem Rdr.set {cs : Array Value} {nv : Value} (h : Rdr src tb tc ts g lvs w s) (hb : Blk w g 61 cs) (j : Nat) (u : Value) {s' : PS} (hn : s'.nodes = s.nodes)
   (hc : ∀ nv, cs = #[.string src, .slice (some ⟨tb, 0, none⟩) ts.length tc, .int .i64 s.i, nv, .int .i64 s.deep, .int .i64 s.e, .int .i64 s.place] → cs.setIfInBounds j u = #[.string src, .slice (some ⟨tb, 0, none⟩) ts.length tc, .int .i64 s'.i, nv, .int .i64 s'.deep, .int .i64 s'.e, .int .i64 s'.place]) :
   Rdr src tb tc ts g lvs (w.setCell ⟨g, j, none⟩ u) s' := by
 obtain ⟨nv, hb2, ho⟩ := h.cells
 obtain ⟨b0, ht⟩ := h.toks
 have e0 := hb.symm.trans hb2
 injection e0 with e0
 injection e0 with e _ _
 have f : Fr (oneb g) w (w.setCell ⟨g, j, none⟩ u) := (Fr.refl _ w).setCell _ _ (fun _ => rfl)
 refine ⟨⟨nv, ?_, ?_⟩, ?_, by rw [hn]; exact h.same, ⟨b0, ht.own.fr f (fun b hb' hm => ht.own.blk_ne hb (by decide) (by rw [hb', show b = g from hm])), ht.new⟩, fun nv2 h1 => ?_⟩
 · have := hb.setCell j u
   rwa [hc nv e] at this
 · rw [hn]
   exact ho.fr f (fun b hb' hm => ho.blk_ne hb (by decide) (by rw [hb', show b = g from hm]))
 · rw [hn]
   exact h.below.one hb (by decide) f
 · have hbs := hb.setCell j u
   rw [hc nv e] at hbs
   have h3 := hbs.cell 3
   rw [h3] at h1
   injection h1 with h1
   subst h1
   exact h.newer _ (hb2.cell 3)
theorem Rdr.blk (h : Rdr src tb tc ts g lvs w s) : ∃ nv, Blk w g 61 #[.string src, .slice (some ⟨tb, 0, none⟩) ts.length tc, .int .i64 s.i, nv, .int .i64 s.deep, .int .i64 s.e, .int .i64 s.place] := by
 obtain ⟨nv, hb, _⟩ := h.cells; exact ⟨nv, hb⟩
theorem Rdr.setI (h : Rdr src tb tc ts g lvs w s) (x : Nat) : Rdr src tb tc ts g lvs (w.setCell ⟨g, 2, none⟩ (.int .i64 x)) { s with i := x } := by
 obtain ⟨nv, hb⟩ := h.blk
 exact h.set (nv := nv) hb 2 _ rfl (fun nv2 e => by rw [e]; rfl)
theorem Rdr.setD (h : Rdr src tb tc ts g lvs w s) (x : Nat) : Rdr src tb tc ts g lvs (w.setCell ⟨g, 4, none⟩ (.int .i64 x)) { s with deep := x } := by
 obtain ⟨nv, hb⟩ := h.blk
 exact h.set (nv := nv) hb 4 _ rfl (fun nv2 e => by rw [e]; rfl)
theorem Rdr.setE (h : Rdr src tb tc ts g lvs w s) (x : Nat) : Rdr src tb tc ts g lvs (w.setCell ⟨g, 5, none⟩ (.int .i64 x)) { s with e := x } := by
 obtain ⟨nv, hb⟩ := h.blk
 exact h.set (nv := nv) hb 5 _ rfl (fun nv2 e => by rw [e]; rfl)
theorem Rdr.setP (h : Rdr src tb tc ts g lvs w s) (x : Nat) : Rdr src tb tc ts g lvs (w.setCell ⟨g, 6, none⟩ (.int .i64 x)) { s with place := x } := by
 obtain ⟨nv, hb⟩ := h.blk
 exact h.set (nv := nv) hb 6 _ rfl (fun nv2 e => by rw [e]; rfl)
end
set_option maxHeartbeats 1600000 in
set_option maxRecDepth 100000 in
theorem fails_any {src : ByteArray} {tb tc : Nat} {ts : List Tok} {g : Nat} {lvs : List Value} {w : World} {s : PS} (h : Rdr src tb tc ts g lvs w s) (hk : PSOk ts s) (k : Nat) :
   Calls Tryd.prog 43 #[.pointer (some ⟨g, 0, none⟩), .int .i64 k] w fun e w' => e = .returned (.tuple #[]) ∧ Rdr src tb tc ts g lvs w' (pFail ts k s) ∧ FrR g w w' := by
 obtain ⟨nv, hb⟩ := h.blk
 obtain ⟨hi, htb, x0, x1, x2⟩ := h.tok hk
 have H := hid h
 have hg := hb.lt
 have c1 := hb.cell 1
 have c2 := hb.cell 2
 have c5 := hb.cell 5
 have c6 := hb.cell 6
 have f5 := hb.frozen 5
 have f6 := hb.frozen 6
 have hr : (s.i : Int) < (ts.length : Int) := by have := hk.room; omega
 have htg : tb ≠ g := by
   obtain ⟨b0, ht⟩ := h.toks
   intro e
   exact ht.own.blk_ne hb (by decide) (by simp [Go.Proofs.YtlbjicjinnnboaaDoor.blk, e]; have := ht.own.cap; obtain ⟨A, c, e1, h1, _⟩ := this; injection e1 with _ _ e3; have := hk.room; omega)
 simp at c1 c2 c5 c6
 by_cases he : s.e = 0
 · have heb : ((s.e : Int) == 0) = true := by rw [he]; rfl
   have e1 : pFail ts k s = { s with e := k, place := (pTok ts s).place } := by unfold pFail; rw [if_pos he]
   rw [e1]
   clear e1 he hi hb h hk x0 x1
   generalize (pTok ts s).place = tp at *
   go_enter Tryd.func43, Tryd.ntmps43
   have n1 : (⟨g, 5, none⟩ : Addr) ≠ ⟨g, 1, none⟩ := by simp
   have n2 : (⟨g, 5, none⟩ : Addr) ≠ ⟨g, 2, none⟩ := by simp
   have n3 : (⟨g, 5, none⟩ : Addr) ≠ ⟨g, 6, none⟩ := by simp
   have n4 : (⟨g, 5, none⟩ : Addr) ≠ ⟨tb, s.i * 3 + 2, none⟩ := by intro e; injection e with e; exact htg e.symm
   have d1 := (World.cell?_setCell_other w ⟨g, 5, none⟩ ⟨g, 1, none⟩ (.int .i64 k) n1).trans c1
   have d2 := (World.cell?_setCell_other w ⟨g, 5, none⟩ ⟨g, 2, none⟩ (.int .i64 k) n2).trans c2
   have d6 := (World.cell?_setCell_other w ⟨g, 5, none⟩ ⟨g, 6, none⟩ (.int .i64 k) n3).trans c6
   have dx := (World.cell?_setCell_other w ⟨g, 5, none⟩ ⟨tb, s.i * 3 + 2, none⟩ (.int .i64 k) n4).trans x2
   have HB := H.out.setE k
   have G1 : Fr (oneb g) w (w.setCell ⟨g, 5, none⟩ (.int .i64 k)) := (Fr.refl _ w).setCell _ _ (fun _ => rfl)
   have FG := hid G1
   have fz : (w.setCell ⟨g, 5, none⟩ (.int .i64 k)).frozen? ⟨g, 6, none⟩ = false := by
    obtain ⟨nv2, hb2⟩ := HB.blk
    exact hb2.frozen 6
   have HB2 := hid HB
   clear n1 n2 n3 n4 G1 HB
   go_wp2
   clear c1 c2 c5 c6 x2 f5 f6
   generalize w.setCell ⟨g, 5, none⟩ (.int .i64 k) = w1 at *
   have m1 : (⟨g, 6, none⟩ : Addr) ≠ ⟨g, 1, none⟩ := by simp
   have m2 : (⟨g, 6, none⟩ : Addr) ≠ ⟨g, 2, none⟩ := by simp
   have m4 : (⟨g, 6, none⟩ : Addr) ≠ ⟨tb, s.i * 3 + 2, none⟩ := by intro e; injection e with e; exact htg e.symm
   have D1 := hid d1
   have D2 := hid d2
   have DX := hid dx
   have e1 := hid ((World.cell?_setCell_other w1.drew ⟨g, 6, none⟩ ⟨g, 1, none⟩ (.int .i64 tp) m1).trans d1)
   have e2 := hid ((World.cell?_setCell_other w1.drew ⟨g, 6, none⟩ ⟨g, 2, none⟩ (.int .i64 tp) m2).trans d2)
   have ex := hid ((World.cell?_setCell_other w1.drew ⟨g, 6, none⟩ ⟨tb, s.i * 3 + 2, none⟩ (.int .i64 tp) m4).trans dx)
   clear m1 m2 m4
   go_region_held3 (fun wx => wx.cell? ⟨g, 1, none⟩ = some (.slice (some ⟨tb, 0, none⟩) ts.length tc) ∧ wx.cell? ⟨g, 2, none⟩ = some (.int .i64 s.i) ∧ wx.cell? ⟨tb, s.i * 3 + 2, none⟩ = some (.int .i64 tp)) (first | exact ⟨D1.out, D2.out, DX.out⟩ | exact ⟨e1.out, e2.out, ex.out⟩) (first | fail)
   refine bodyPost_end (results_none rfl _ _ _) rfl ⟨rfl, (HB2.out.setP tp).no ((Fr.refl nob _).drew), ?_⟩
   exact ((FG.out.setCell ⟨g, 6, none⟩ _ (fun _ => rfl)).drew).mono (fun k _ e => .inl e)
 · have heb : ((s.e : Int) == 0) = false := beq_eq_false_iff_ne.2 (by omega)
   have e1 : pFail ts k s = s := by unfold pFail; rw [if_neg he]
   rw [e1]
   clear e1 he hi hb h hk x0 x1 x2
   go_enter Tryd.func43, Tryd.ntmps43
   go_wp2
   refine bodyPost_end (results_none rfl _ _ _) rfl ⟨rfl, H.out, Fr.refl _ _⟩
section
variable {ts : List Tok} {s : PS}
theorem PSOk.fail (h : PSOk ts s) (ht : ToksOk ts) (k : Nat) (hk : k ≤ 21) (hk0 : 1 ≤ k) : PSOk ts (pFail ts k s) := by
 unfold pFail
 split
 · refine ⟨h.room, h.deep, fun e => ?_, hk, ?_⟩
   · exact absurd e (by show k ≠ 0; omega)
   · have hm : pTok ts s ∈ ts := by
      unfold pTok
      rw [List.getD, List.getElem?_eq_getElem h.room]
      exact List.getElem_mem _
     exact (ht.at_ _ hm).2
 · exact h
theorem PSOk.go (h : PSOk ts s) (ht : ToksOk ts) (hk : (pTok ts s).kind ≠ 0) : PSOk ts (pGo s) := by
 refine ⟨?_, h.deep, h.fine, h.err, h.place⟩
 have hr := h.room
 by_cases e : s.i = ts.length - 1
 · refine absurd ?_ hk
   unfold pTok
   rw [e]; exact ht.last
 · show s.i + 1 < ts.length
   omega
theorem PSOk.must (h : PSOk ts s) (ht : ToksOk ts) (x : List UInt8) : PSOk ts (pMust ts x s) := by
 unfold pMust
 split
 · rename_i hx; exact h.go ht (pIs_kind hx).2.1
 · exact h.fail ht 20 (by decide) (by decide)
theorem PSOk.named (h : PSOk ts s) (ht : ToksOk ts) : PSOk ts (pNamed ts s) := by
 unfold pNamed
 split
 · rename_i hx; exact h.go ht (by rw [(pKind_kind hx).2]; decide)
 · exact h.fail ht 20 (by decide) (by decide)
theorem PSOk.typed (h : PSOk ts s) (ht : ToksOk ts) : PSOk ts (pTyped ts s) := by
 unfold pTyped
 split
 · exact h.fail ht 20 (by decide) (by decide)
 · rename_i hx
   refine h.go ht ?_
   unfold pType pWord at hx
   split at hx
   · rename_i hk; rw [(pKind_kind hk).2]; decide
   · exact absurd rfl hx
theorem PSOk.down (h : PSOk ts s) (ht : ToksOk ts) (h0 : s.e = 0) : PSOk ts (pDown ts s) := by
 have hd := h.fine h0
 unfold pDown
 by_cases h16 : 16 ≤ s.deep
 · have hf := h.fail ht 21 (by decide) (by decide)
   simp only
   rw [if_pos h16]
   have he : (pFail ts 21 s).e = 21 := by unfold pFail; rw [if_pos h0]
   have hdd : (pFail ts 21 s).deep = s.deep := by unfold pFail; rw [if_pos h0]
   exact ⟨hf.room, by show (pFail ts 21 s).deep + 1 ≤ 17; omega, fun e => absurd e (by show (pFail ts 21 s).e ≠ 0; omega), hf.err, hf.place⟩
 · simp only
   rw [if_neg h16]
   exact ⟨h.room, by show s.deep + 1 ≤ 17; omega, fun _ => by show s.deep + 1 ≤ 16; omega, h.err, h.place⟩
theorem PSOk.up (h : PSOk ts s) : PSOk ts (pUp s) := ⟨h.room, by show s.deep - 1 ≤ 17; have := h.deep; omega, fun e => by show s.deep - 1 ≤ 16; have := h.fine e; omega, h.err, h.place⟩
theorem PSOk.put (h : PSOk ts s) (k line n : Nat) (name : List UInt8) (l : List Nat) : PSOk ts (pPut k line n name l s).2 := ⟨h.room, h.deep, h.fine, h.err, h.place⟩
end
theorem ToksOk.i_le {ts : List Tok} {s : PS} (ht : ToksOk ts) (h : PSOk ts s) : (s.i : Int) ≤ 1000 := by have := ht.few; have := h.room; omega
set_option maxHeartbeats 1600000 in
set_option maxRecDepth 100000 in
theorem must_any {src : ByteArray} {tb tc : Nat} {ts : List Tok} {g : Nat} {lvs : List Value} {w : World} {s : PS} (h : Rdr src tb tc ts g lvs w s) (hk : PSOk ts s) (ht : ToksOk ts) (X : ByteArray) :
  Calls Tryd.prog 26 #[.pointer (some ⟨g, 0, none⟩), .string X] w fun e w' => e = .returned (.tuple #[]) ∧ Rdr src tb tc ts g lvs w' (pMust ts X.data.toList s) ∧ FrR g w w' := by
 have H := hid h
 have HK := hid hk
 have hi := ht.i_le hk
 have HI := hid (is_any h hk X)
 clear h hk ht
 unfold pMust
 generalize pIs ts X.data.toList s = b at *
 cases b with
 | true =>
  go_enter Tryd.func26, Tryd.ntmps26
  go_wp2_with (go_at_call 28; go_must (refine HI.out.mono ?_; rintro e w1 ⟨rfl, hf⟩; have F1 := hid hf; have H1 := hid (H.out.no hf); (obtain ⟨nv, hb⟩ := H1.out.blk); have c2 := hb.cell 2; have f2 := hb.frozen 2; simp at c2; clear hf hb))
  refine bodyPost_end (results_none rfl _ _ _) rfl ⟨rfl, ?_, ?_⟩
  · exact H1.out.setI (s.i + 1)
  · exact FrR.trans (FrR.no F1.out) (((Fr.refl (oneb g) w1).setCell ⟨g, 2, none⟩ _ (fun _ => rfl)).mono (fun k _ e => .inl e))
 | false =>
  go_enter Tryd.func26, Tryd.ntmps26
  go_wp2_with (first | (go_at_call 28; go_must (refine HI.out.mono ?_; rintro e w1 ⟨rfl, hf⟩; have F1 := hid hf; have H1 := hid (H.out.no hf); clear hf)) | (go_at_call 43; go_must (refine (fails_any H1.out HK.out 20).mono ?_; rintro e w2 ⟨rfl, hr, hf2⟩; have H2 := hid hr; have F2 := hid hf2; clear hr hf2)))
  refine bodyPost_ret (results_none rfl _ _ _) rfl ⟨rfl, H2.out, FrR.trans (FrR.no F1.out) F2.out⟩
theorem Rdr.tokAt {src : ByteArray} {tb tc : Nat} {ts : List Tok} {g : Nat} {lvs : List Value} {w : World} {s : PS} (h : Rdr src tb tc ts g lvs w s) {i : Nat} {t : Tok} (hi : ts[i]? = some t) :
  w.cell? ⟨tb, i * 3, none⟩ = some (.int .i64 t.kind) ∧ w.cell? ⟨tb, i * 3 + 1, none⟩ = some (.string (bs t.text)) ∧ w.cell? ⟨tb, i * 3 + 2, none⟩ = some (.int .i64 t.place) := by
 obtain ⟨b0, ht⟩ := h.toks
 obtain ⟨g2, hg, _, hlt, hat⟩ := ht.some (by have := (List.getElem?_eq_some_iff.1 hi).1; omega)
 injection hg with hg
 injection hg with hg
 subst hg
 exact hat i _ hi
set_option maxHeartbeats 1600000 in
set_option maxRecDepth 100000 in
theorem name_any {src : ByteArray} {tb tc : Nat} {ts : List Tok} {g : Nat} {lvs : List Value} {w : World} {s : PS} (h : Rdr src tb tc ts g lvs w s) (hk : PSOk ts s) (ht : ToksOk ts) :
  Calls Tryd.prog 27 #[.pointer (some ⟨g, 0, none⟩)] w fun e w' => e = .returned (.string (bs (pName ts s))) ∧ Rdr src tb tc ts g lvs w' (pNamed ts s) ∧ FrR g w w' := by
 have H := hid h
 have HK := hid hk
 have hi := ht.i_le hk
 obtain ⟨hti, _⟩ := h.tok hk
 have HTI := hid hti
 have hr : (s.i : Int) < (ts.length : Int) := by have := hk.room; omega
 have HI := hid (kind_any h hk 3)
 clear h hk ht hti
 unfold pNamed pName
 generalize pKind ts 3 s = b at *
 cases b with
 | true =>
  go_enter Tryd.func27, Tryd.ntmps27
  go_upto_region 6 with (go_at_call 16; go_must (refine HI.out.mono ?_; rintro e w1 ⟨rfl, hf⟩; have F1 := hid hf; have H1 := hid (H.out.no hf); (obtain ⟨nv, hb⟩ := H1.out.blk); have c2 := hb.cell 2; have f2 := hb.frozen 2; simp at c2; clear hf hb))
  have H2 := hid (H1.out.setI (s.i + 1))
  have F2 := hid (show FrR g w1 (w1.setCell ⟨g, 2, none⟩ (.int .i64 ((s.i + 1 : Nat) : Int))) from ((Fr.refl (oneb g) w1).setCell ⟨g, 2, none⟩ _ (fun _ => rfl)).mono (fun k _ e => .inl e))
  rw [show ((s.i + 1 : Nat) : Int) = (s.i : Int) + 1 by omega] at H2 F2
  clear c2 f2
  generalize w1.setCell ⟨g, 2, none⟩ (.int .i64 ((s.i : Int) + 1)) = w2 at *
  obtain ⟨nv2, hb2⟩ := H2.out.blk
  have c1 := hb2.cell 1
  have c2 := hb2.cell 2
  obtain ⟨_, x1, _⟩ := H2.out.tokAt HTI.out
  simp at c1 c2
  clear hb2
  go_quiet (fail)
  go_wp2
  go_ret
  exact ⟨rfl, H2.out.no ((Fr.refl nob _).drewN _), (FrR.trans (FrR.no F1.out) F2.out).trans (FrR.no ((Fr.refl nob _).drewN _))⟩
 | false =>
  go_enter Tryd.func27, Tryd.ntmps27
  go_wp2_with (first | (go_at_call 16; go_must (refine HI.out.mono ?_; rintro e w1 ⟨rfl, hf⟩; have F1 := hid hf; have H1 := hid (H.out.no hf); clear hf)) | (go_at_call 43; go_must (refine (fails_any H1.out HK.out 20).mono ?_; rintro e w2 ⟨rfl, hr, hf2⟩; have H2 := hid hr; have F2 := hid hf2; clear hr hf2)))
  go_ret
  exact ⟨rfl, H2.out, FrR.trans (FrR.no F1.out) F2.out⟩
set_option maxHeartbeats 1600000 in
set_option maxRecDepth 100000 in
theorem rword2_any {src : ByteArray} {tb tc : Nat} {ts : List Tok} {g : Nat} {lvs : List Value} {w : World} {s : PS} (h : Rdr src tb tc ts g lvs w s) (hk : PSOk ts s) :
  Calls Tryd.prog 44 #[.pointer (some ⟨g, 0, none⟩)] w fun e w' => e = .returned (.string (bs (pWord ts s))) ∧ Fr nob w w' := by
 have H := hid h
 obtain ⟨hti, _⟩ := h.tok hk
 have HTI := hid hti
 have hr : (s.i : Int) < (ts.length : Int) := by have := hk.room; omega
 have HI := hid (kind_any h hk 4)
 clear h hk hti
 unfold pWord
 generalize pKind ts 4 s = b at *
 cases b with
 | true =>
  go_enter Tryd.func44, Tryd.ntmps44
  go_upto_region 3 with (go_at_call 16; go_must (refine HI.out.mono ?_; rintro e w1 ⟨rfl, hf⟩; have F1 := hid hf; have H1 := hid (H.out.no hf); clear hf))
  obtain ⟨nv2, hb2⟩ := H1.out.blk
  have c1 := hb2.cell 1
  have c2 := hb2.cell 2
  obtain ⟨_, x1, _⟩ := H1.out.tokAt HTI.out
  simp at c1 c2
  clear hb2
  go_quiet (fail)
  go_wp2
  go_ret
  exact ⟨rfl, F1.out.drewN _⟩
 | false =>
  go_enter Tryd.func44, Tryd.ntmps44
  go_wp2_with (go_at_call 16; go_must (refine HI.out.mono ?_; rintro e w1 ⟨rfl, hf⟩; have F1 := hid hf; clear hf))
  go_ret
  exact ⟨rfl, F1.out⟩
set_option maxHeartbeats 1600000 in
set_option maxRecDepth 100000 in
theorem pline_any {src : ByteArray} {tb tc : Nat} {ts : List Tok} {g : Nat} {lvs : List Value} {w : World} {s : PS} (h : Rdr src tb tc ts g lvs w s) (hk : PSOk ts s) (hs : src.size ≤ 281474976710656) :
  Calls Tryd.prog 25 #[.pointer (some ⟨g, 0, none⟩)] w fun e w' => e = .returned (.int .i64 (pLine src.data.toList ts s)) ∧ Fr nob w w' := by
 obtain ⟨nv, hb, ho⟩ := h.cells
 obtain ⟨hi, htb, x0, x1, x2⟩ := h.tok hk
 have c0 := hb.cell 0
 have c1 := hb.cell 1
 have c2 := hb.cell 2
 have hr : (s.i : Int) < (ts.length : Int) := by have := hk.room; omega
 have HL := hid (fun w' => rline_any src hs (pTok ts s).place w')
 unfold pLine
 clear x0 x1 hi ho hb h hk
 simp at c0 c1 c2
 generalize lineN src.data.toList ((pTok ts s).place : Int) = n at *
 generalize (((pTok ts s).place : Nat) : Int) = tp at *
 go_enter Tryd.func25, Tryd.ntmps25
 go_wp2
 go_quiet ((go_at_call 42; exact Calls.quiet_of_same ((HL.out _).mono (fun _ _ h => ⟨h.1, h.2.symm⟩))))
 go_wp2
 go_ret
 exact ⟨rfl, (Fr.refl nob w).drewN _⟩
set_option maxHeartbeats 1600000 in
set_option maxRecDepth 100000 in
theorem down_any {src : ByteArray} {tb tc : Nat} {ts : List Tok} {g : Nat} {lvs : List Value} {w : World} {s : PS} (h : Rdr src tb tc ts g lvs w s) (hk : PSOk ts s) :
   Calls Tryd.prog 46 #[.pointer (some ⟨g, 0, none⟩)] w fun e w' => e = .returned (.tuple #[]) ∧ Rdr src tb tc ts g lvs w' (pDown ts s) ∧ FrR g w w' := by
 have H := hid h
 have HK := hid hk
 obtain ⟨nv, hb⟩ := h.blk
 have c4 := hb.cell 4
 have f4 := hb.frozen 4
 simp at c4
 have hd : (s.deep : Int) ≤ 17 := by have := hk.deep; omega
 clear h hk hb
 unfold pDown
 by_cases h16 : 16 ≤ s.deep
 · simp only
   rw [if_pos h16]
   have h17 : (16 : Int) ≤ (s.deep : Int) := by omega
   have hdd : (pFail ts 21 s).deep = s.deep := by unfold pFail; split <;> rfl
   have HD := hid hdd
   clear h16 hdd f4
   go_enter Tryd.func46, Tryd.ntmps46
   go_wp2_with (go_at_call 43; go_must (refine (fails_any H.out HK.out 21).mono ?_; rintro e w2 ⟨rfl, hr, hf2⟩; have H2 := hid hr; have F2 := hid hf2; (obtain ⟨nv2, hb2⟩ := hr.blk); rw [HD.out] at hb2; have d4 := hb2.cell 4; have g4 := hb2.frozen 4; simp at d4; clear hr hf2 hb2))
   refine bodyPost_end (results_none rfl _ _ _) rfl ⟨rfl, ?_, ?_⟩
   · have := H2.out.setD (s.deep + 1)
     rw [HD.out]
     exact this
   · exact FrR.trans F2.out (((Fr.refl (oneb g) w2).setCell ⟨g, 4, none⟩ _ (fun _ => rfl)).mono (fun k _ e => .inl e))
 · simp only
   rw [if_neg h16]
   have h17 : (s.deep : Int) < 16 := by omega
   clear h16
   go_enter Tryd.func46, Tryd.ntmps46
   go_wp2
   refine bodyPost_end (results_none rfl _ _ _) rfl ⟨rfl, ?_, ?_⟩
   · exact H.out.setD (s.deep + 1)
   · exact ((Fr.refl (oneb g) w).setCell ⟨g, 4, none⟩ _ (fun _ => rfl)).mono (fun k _ e => .inl e)
theorem type_any (X : ByteArray) (w : World) : Calls Tryd.prog 45 #[.string X] w fun e w' => e = .returned (.int .i64 (typeM X.data.toList)) ∧ w = w' := by
 have hX : X.toList = X.data.toList := ByteArray.toList_eq X
 unfold typeM
 generalize X.data.toList = x at *
 by_cases h1 : x = [105, 110, 116]
 · subst h1
   rw [if_pos rfl]
   go_enter Tryd.func45, Tryd.ntmps45
   go_wp2
   go_ret
   exact ⟨rfl, rfl⟩
 · rw [if_neg h1]
   have b1 : (x == [105, 110, 116]) = false := beq_eq_false_iff_ne.2 h1
   by_cases h2 : x = [98, 111, 111, 108]
   · subst h2
     rw [if_pos rfl]
     clear h1 b1
     go_enter Tryd.func45, Tryd.ntmps45
     go_wp2
     go_ret
     exact ⟨rfl, rfl⟩
   · rw [if_neg h2]
     have b2 : (x == [98, 111, 111, 108]) = false := beq_eq_false_iff_ne.2 h2
     by_cases h3 : x = [116, 101, 120, 116]
     · subst h3
       rw [if_pos rfl]
       clear h1 b1 h2 b2
       go_enter Tryd.func45, Tryd.ntmps45
       go_wp2
       go_ret
       exact ⟨rfl, rfl⟩
     · rw [if_neg h3]
       have b3 : (x == [116, 101, 120, 116]) = false := beq_eq_false_iff_ne.2 h3
       by_cases h4 : x = [108, 105, 115, 116]
       · subst h4
         rw [if_pos rfl]
         clear h1 b1 h2 b2 h3 b3
         go_enter Tryd.func45, Tryd.ntmps45
         go_wp2
         go_ret
         exact ⟨rfl, rfl⟩
       · rw [if_neg h4]
         have b4 : (x == [108, 105, 115, 116]) = false := beq_eq_false_iff_ne.2 h4
         clear h1 h2 h3 h4
         go_enter Tryd.func45, Tryd.ntmps45
         go_wp2
         go_ret
         exact ⟨rfl, rfl⟩
theorem Own.ty {w : World} {e size n : Nat} {v : Value} {xs : List Value} (h : Own w e size v n xs) {k : Nat} (hk : blk v = some k) : ∃ cs, Blk w k e cs := by
 obtain ⟨hl, A, c, rfl, ⟨rfl, _⟩ | ⟨g', cur, rfl, h0, hb', r⟩⟩ := h
 · cases A <;> simp [blk] at hk
 · simp [blk] at hk
   exact ⟨cur, by rw [← hk.2]; exact hb'⟩
theorem Below2.frR {g : Nat} {w w' : World} {cs : Array Value} {t : TypeId} (hb : Blk w g t cs) (ht : 3 ≠ t) : ∀ {ns : List NodeM} {vs : List Value}, Below2 w ns vs → FrR g w w' → Below2 w' ns vs
 | [], [], _, _ => trivial
 | [], _ :: _, h, _ => h.elim
 | _ :: _, [], h, _ => h.elim
 | _ :: _, _ :: _, h, f => ⟨h.1.fr f (fun b hb' hm => by
  rcases hm with e | ⟨_, cs', f', hc⟩
  · exact h.1.blk_ne hb ht (by rw [hb', e])
  · obtain ⟨cur, hcur⟩ := h.1.ty hb'
    unfold Blk at hcur
    rw [hcur] at hc
    injection hc with hc
    injection hc with _ h2 _
    exact absurd h2 (by decide)), Below2.frR hb ht h.2 f⟩
theorem Below2.snoc {w : World} {n : NodeM} {v : Value} (hn : Own w 3 1 v n.l.length (ints n.l)) : ∀ {ns : List NodeM} {vs : List Value}, Below2 w ns vs → Below2 w (ns ++ [n]) (vs ++ [v])
 | [], [], _ => ⟨hn, trivial⟩
 | [], _ :: _, h => h.elim
 | _ :: _, [], h => h.elim
 | _ :: _, _ :: _, h => ⟨h.1, Below2.snoc hn h.2⟩
theorem Own.frR {g : Nat} {w w' : World} {cs : Array Value} {t e size n : Nat} {v : Value} {xs : List Value} (h : Own w e size v n xs) (hb : Blk w g t cs) (ht : e ≠ t) (hn : e ≠ 49) (f : FrR g w w') : Own w' e size v n xs :=
 h.fr f (fun b hb' hm => by
  rcases hm with e1 | ⟨_, cs', f', hc⟩
  · exact h.blk_ne hb ht (by rw [hb', e1])
  · obtain ⟨cur, hcur⟩ := h.ty hb'
    unfold Blk at hcur
    rw [hcur] at hc
    injection hc with hc
    injection hc with _ h2 _
    exact hn h2)
set_option maxHeartbeats 1600000 in
set_option maxRecDepth 100000 in
theorem put_any {src : ByteArray} {tb tc : Nat} {ts : List Tok} {g : Nat} {lvs : List Value} {w : World} {s : PS} (h : Rdr src tb tc ts g lvs w s) (k line n : Nat) (name : List UInt8) (lv : Value) (l : List Nat)
   (hl : Own w 3 1 lv l.length (ints l)) (hn : s.nodes.length ≤ 1000000) :
   Calls Tryd.prog 48 #[.pointer (some ⟨g, 0, none⟩), .int .i64 k, .int .i64 line, .int .i64 n, .string (bs name), lv] w fun e w' =>
     e = .returned (.int .i64 s.nodes.length) ∧ Rdr src tb tc ts g (lvs ++ [lv]) w' (pPut k line n name l s).2 ∧ FrR g w w' := by
 obtain ⟨nv, hb, ho⟩ := h.cells
 obtain ⟨b0, ht⟩ := h.toks
 have hnw := h.newer nv (hb.cell 3)
 have NW := hid hnw
 clear hnw
 have c3 := hb.cell 3
 have f3 := hb.frozen 3
 obtain ⟨A, c, rfl, hc1, hc2⟩ := ho.cap
 obtain ⟨A1, c1, rfl, hc3, hc4⟩ := hl.cap
 simp at c3
 have hg := hb.lt
 have H := hid h
 have HO := hid ho
 have HB := hid hb
 have HL := hid hl
 have HT := hid ht
 have hn2 : (s.nodes.length : Int) ≤ 1000000 := by omega
 generalize hN : s.nodes.length = N at *
 generalize hM : l.length = M at *
 obtain ⟨B, hB⟩ : ∃ B, bs name = B := ⟨_, rfl⟩
 have NM := hid hB
 rw [hB]
 clear h ho hb hl ht hB
 go_enter Tryd.func48, Tryd.ntmps48
 go_wp2_with (at_builtin; refine wpList_append (v := .slice A N c) (m := 1) (news := [.int .i64 k, .int .i64 line, .int .i64 n, .string B, .slice A1 M c1]) rfl _ _ rfl TyNode rfl rfl (HO.out.alloc _) (Rd.ofBlk (n := 1) (cs := [.int .i64 k, .int .i64 line, .int .i64 n, .string B, .slice A1 M c1]) (Blk.new _ _ _) rfl (by decide)) (by simp [Value.oneCell']) (by omega) (by unfold maxLen; omega) ?_; intro A3 c3' w3 ho3 hf3 hv3; have O3 := hid ho3; have F3 := hid hf3; have V3 := hid hv3; have B3 := hid ((HB.out.alloc _).fr hf3 (fun hm => HO.out.blk_ne HB.out (by decide) hm)); have g3 := B3.out.frozen 3; have d3 := B3.out.cell 3; simp at d3; clear ho3 hf3 hv3)
 go_ret
 have hFR : FrR g w w3 := by
   refine Fr.trans (M1 := nob) ((Fr.refl nob w).alloc _) F3.out (fun _ _ x => x.elim) (fun k2 hk2 hm => ?_)
   obtain ⟨cur, hcur⟩ := HO.out.ty (k := k2) hm
   exact .inr ⟨NW.out k2 hm, cur, _, hcur⟩
 have hset : Fr (oneb g) w3 (w3.setCell ⟨g, 3, none⟩ (.slice A3 (N + 1) c3')) := (Fr.refl (oneb g) w3).setCell _ _ (fun _ => rfl)
 have hFR2 : FrR g w (w3.setCell ⟨g, 3, none⟩ (.slice A3 (N + 1) c3')) := FrR.trans hFR (hset.mono (fun k _ e => .inl e))
 refine ⟨by first | rfl | simp, ⟨⟨.slice A3 (N + 1) c3', ?_, ?_⟩, ?_, ?_, ⟨b0, ?_⟩, fun nv2 h1 k2 hk2 => ?_⟩, hFR2⟩
 · exact B3.out.setCell 3 _
 · have e1 : (pPut k line n name l s).2.nodes = s.nodes ++ [⟨k, line, n, name, l⟩] := rfl
   rw [e1, nodesCells_snoc _ _ _ _ H.out.same, List.length_append, hN]
   have := O3.out
   rw [← NM.out] at this
   exact this.fr hset (fun b hb' hm => O3.out.blk_ne B3.out (by decide) (by rw [hb', show b = g from hm]))
 · have hl2 : Own w 3 1 (.slice A1 M c1) l.length (ints l) := by rw [hM]; exact HL.out
   exact Below2.snoc (hl2.frR HB.out (by decide) (by decide) hFR2) (H.out.below.frR HB.out (by decide) hFR2)
 · show (s.nodes ++ [_]).length = (lvs ++ [_]).length
   rw [List.length_append, List.length_append, H.out.same]; rfl
 · exact ⟨HT.out.own.frR HB.out (by decide) (by decide) hFR2, HT.out.new⟩
 · have h3 := (B3.out.setCell 3 (.slice A3 (N + 1) c3')).cell 3
   rw [h3] at h1
   simp at h1
   subst h1
   rcases V3.out with e | e
   · exact NW.out k2 (by rw [← e]; exact hk2)
   · rw [e] at hk2
     injection hk2 with hk2
     have := HB.out.lt
     simp at hk2; omega
theorem typeM_le (x : List UInt8) : typeM x ≤ 4 := by
 unfold typeM
 (repeat' split) <;> omega
set_option maxHeartbeats 1600000 in
set_option maxRecDepth 100000 in
theorem typed_any {src : ByteArray} {tb tc : Nat} {ts : List Tok} {g : Nat} {lvs : List Value} {w : World} {s : PS} (h : Rdr src tb tc ts g lvs w s) (hk : PSOk ts s) (ht : ToksOk ts) :
   Calls Tryd.prog 29 #[.pointer (some ⟨g, 0, none⟩)] w fun e w' => e = .returned (.int .i64 (pType ts s)) ∧ Rdr src tb tc ts g lvs w' (pTyped ts s) ∧ FrR g w w' := by
 have H := hid h
 have HK := hid hk
 have hi := ht.i_le hk
 have HW := hid (rword2_any h hk)
 have HT := hid (fun w' => type_any (bs (pWord ts s)) w')
 rw [show (bs (pWord ts s)).data.toList = pWord ts s from rfl] at HT
 have hle := typeM_le (pWord ts s)
 unfold pTyped
 have e0 : pType ts s = typeM (pWord ts s) := rfl
 rw [e0]
 generalize typeM (pWord ts s) = t at *
 generalize bs (pWord ts s) = wd at *
 clear h hk ht e0
 by_cases h0 : t = 0
 · subst h0
   rw [if_pos rfl]
   go_enter Tryd.func29, Tryd.ntmps29
   go_wp2_with (first | (go_at_call 44; go_must (refine HW.out.mono ?_; rintro e w1 ⟨rfl, hf⟩; have F1 := hid hf; have H1 := hid (H.out.no hf); clear hf)) | (go_at_call 45; refine (HT.out _).mono ?_; rintro e w3 ⟨rfl, rfl⟩) | (go_at_call 43; go_must (refine (fails_any H1.out HK.out 20).mono ?_; rintro e w2 ⟨rfl, hr, hf2⟩; have H2 := hid hr; have F2 := hid hf2; clear hr hf2)))
   go_ret
   exact ⟨rfl, H2.out, FrR.trans (FrR.no F1.out) F2.out⟩
 · rw [if_neg h0]
   have tb2 : ((t : Int) == 0) = false := beq_eq_false_iff_ne.2 (by omega)
   clear h0
   go_enter Tryd.func29, Tryd.ntmps29
   go_wp2_with (first | (go_at_call 44; go_must (refine HW.out.mono ?_; rintro e w1 ⟨rfl, hf⟩; have F1 := hid hf; have H1 := hid (H.out.no hf); (obtain ⟨nv, hb⟩ := H1.out.blk); have c2 := hb.cell 2; have f2 := hb.frozen 2; simp at c2; clear hf hb)) | (go_at_call 45; refine (HT.out _).mono ?_; rintro e w3 ⟨rfl, rfl⟩))
   go_ret
   exact ⟨rfl, H1.out.setI (s.i + 1), FrR.trans (FrR.no F1.out) (((Fr.refl (oneb g) w1).setCell ⟨g, 2, none⟩ _ (fun _ => rfl)).mono (fun k _ e => .inl e))⟩
set_option maxHeartbeats 1600000 in
set_option maxRecDepth 100000 in
theorem calls_any {src : ByteArray} {tb tc : Nat} {ts : List Tok} {g : Nat} {lvs : List Value} {w : World} {s : PS} (h : Rdr src tb tc ts g lvs w s) (hk : PSOk ts s) (ht : ToksOk ts) :
  Calls Tryd.prog 63 #[.pointer (some ⟨g, 0, none⟩)] w fun e w' => e = .returned (.bool (pCalls ts s)) ∧ Fr nob w w' := by
 have H := hid h
 have hi := ht.i_le hk
 have HI := hid (kind_any h hk 3)
 have hnext : pKind ts 3 s = true → s.i + 1 < ts.length := fun hx => (hk.go ht (by rw [(pKind_kind hx).2]; decide)).room
 unfold pCalls
 clear h hk ht
 generalize pKind ts 3 s = b at *
 cases b with
 | false =>
  rw [Bool.false_and]
  clear hnext
  go_enter Tryd.func63, Tryd.ntmps63
  go_upto_region 2 with (go_at_call 16; go_must (refine HI.out.mono ?_; rintro e w1 ⟨rfl, hf⟩; have F1 := hid hf; clear hf))
  go_quiet (fail)
  go_wp2
  go_ret
  exact ⟨rfl, F1.out.drewN _⟩
 | true =>
  have hn := hnext rfl
  have hr : (s.i : Int) + 1 < (ts.length : Int) := by omega
  obtain ⟨u, hu⟩ : ∃ u, ts[s.i + 1]? = some u := ⟨ts[s.i + 1], List.getElem?_eq_getElem hn⟩
  have hug : ts.getD (s.i + 1) tok0 = u := by rw [List.getD, hu]; rfl
  rw [hug, Bool.true_and]
  have HU := hid hu
  have hx : (bs u.text).toList = u.text := by rw [ByteArray.toList_eq]; rfl
  have d1 : IntKind.i64.wrap ((s.i : Int) + 1) = (s.i : Int) + 1 := IntWalk.i64_in _ (by omega)
  have d2 : (0 : Int) ≤ (s.i : Int) + 1 := by omega
  have d3 : ((s.i : Int) + 1).toNat = s.i + 1 := by omega
  obtain ⟨R, hR⟩ : ∃ R, (decide (u.kind = 5) && decide (u.text = [40])) = R := ⟨_, rfl⟩
  rw [hR]
  have HR := hid hR
  have HX := hid hx
  clear hnext hug hu hn hx hR
  go_enter Tryd.func63, Tryd.ntmps63
  go_upto_region 2 with (go_at_call 16; go_must (refine HI.out.mono ?_; rintro e w1 ⟨rfl, hf⟩; have F1 := hid hf; have H1 := hid (H.out.no hf); clear hf))
  obtain ⟨nv2, hb2⟩ := H1.out.blk
  have c1 := hb2.cell 1
  have c2 := hb2.cell 2
  obtain ⟨x0, x1, _⟩ := H1.out.tokAt HU.out
  simp at c1 c2
  clear hb2
  generalize bs u.text = ut at *
  by_cases h5 : u.kind = 5
  · have h5b : ((u.kind : Int) == 5) = true := by rw [h5]; rfl
    by_cases hT : u.text = [40]
    · have hTb : (ut.toList == [40]) = true := by rw [HX.out, hT]; rfl
      obtain rfl : R = true := by rw [← HR.out, decide_eq_true h5, decide_eq_true hT]; rfl
      clear h5 hT
      go_quiet (fail)
      go_wp2
      go_ret
      exact ⟨rfl, F1.out.drewN _⟩
    · have hTb : (ut.toList == [40]) = false := by rw [HX.out]; exact beq_eq_false_iff_ne.2 hT
      obtain rfl : R = false := by rw [← HR.out, decide_eq_true h5, decide_eq_false hT]; rfl
      clear h5 hT
      go_quiet (fail)
      go_wp2
      go_ret
      exact ⟨rfl, F1.out.drewN _⟩
  · have h5b : ((u.kind : Int) == 5) = false := beq_eq_false_iff_ne.2 (by omega)
    obtain rfl : R = false := by rw [← HR.out, decide_eq_false h5]; rfl
    clear h5
    go_quiet (fail)
    go_wp2
    go_ret
    exact ⟨rfl, F1.out.drewN _⟩
def signV (lv : Nat) : Array Value := ((signsL lv).map fun x => Value.string (bs x)).toArray
set_option maxRecDepth 100000 in
theorem signs_any (lv : Nat) (h : lv ≤ 4) (w : World) : Calls Tryd.prog 72 #[.int .i64 lv] w fun e w' => (∃ g2, e = .returned (.slice (some ⟨g2, 0, none⟩) (signsL lv).length (signsL lv).length) ∧ Blk w' g2 9 (signV lv)) ∧ Fr nob w w' := by
 rcases (by omega : lv = 0 ∨ lv = 1 ∨ lv = 2 ∨ lv = 3 ∨ lv = 4) with rfl | rfl | rfl | rfl | rfl
 all_goals
  go_enter Tryd.func72, Tryd.ntmps72
  go_wp2
  go_ret
  exact ⟨⟨w.heap.size, rfl, Blk.new w 9 _⟩, (Fr.refl nob w).alloc _⟩
theorem signV_at {lv j : Nat} (h : j < (signsL lv).length) : ∃ x, (signsL lv)[j]? = some x ∧ (signV lv)[j]? = some (.string (bs x)) := by
 refine ⟨(signsL lv)[j], List.getElem?_eq_getElem h, ?_⟩
 unfold signV
 simp [List.getElem?_eq_getElem h]
theorem find_first {p : List UInt8 → Bool} : ∀ {l : List (List UInt8)} {j : Nat} {x : List UInt8}, l[j]? = some x → p x = true → (∀ k y, k < j → l[k]? = some y → p y = false) → l.find? p = some x
 | [], _, _, h, _, _ => by simp at h
 | a :: l, 0, x, h, hp, _ => by simp at h; subst h; simp [hp]
 | a :: l, j + 1, x, h, hp, hn => by
  have ha := hn 0 a (by omega) rfl
  rw [List.find?_cons, ha]
  exact find_first (by simpa using h) hp (fun k y hk hy => hn (k + 1) y (by omega) (by simpa using hy))
set_option maxHeartbeats 1600000 in
set_option maxRecDepth 100000 in
theorem next_any {src : ByteArray} {tb tc : Nat} {ts : List Tok} {g : Nat} {lvs : List Value} {w : World} {s : PS} (h : Rdr src tb tc ts g lvs w s) (hk : PSOk ts s) (lv : Nat) (hlv : lv ≤ 4) :
  Calls Tryd.prog 68 #[.pointer (some ⟨g, 0, none⟩), .int .i64 lv] w fun e w' => e = .returned (.string (bs (pNext ts lv s))) ∧ Fr nob w w' := by
 have H := hid h
 have HK := hid hk
 have HS := hid (signs_any lv hlv)
 have hlen : (signsL lv).length ≤ 4 := by
  rcases (by omega : lv = 0 ∨ lv = 1 ∨ lv = 2 ∨ lv = 3 ∨ lv = 4) with rfl | rfl | rfl | rfl | rfl <;> decide
 have SV := hid (fun j (hj : j < (signsL lv).length) => signV_at hj)
 have hN := fun (j : Nat) (x : List UInt8) (h1 : (signsL lv)[j]? = some x) (h2 : pIs ts x s = true) (h3 : ∀ k y, k < j → (signsL lv)[k]? = some y → pIs ts y s = false) => (show pNext ts lv s = x by unfold pNext; rw [find_first h1 h2 h3]; rfl)
 have hZ := fun (h3 : ∀ k y, k < (signsL lv).length → (signsL lv)[k]? = some y → pIs ts y s = false) => (show pNext ts lv s = [] by
  unfold pNext
  rw [List.find?_eq_none.2 (fun y hy => by
    obtain ⟨k, hk, hky⟩ := List.getElem_of_mem hy
    rw [h3 k y hk (by rw [List.getElem?_eq_getElem hk, hky])]; simp)]; rfl)
 have HN := hid hN
 have HZ := hid hZ
 clear h hk hN hZ hlv
 generalize hr : pNext ts lv s = R at *
 clear hr
 generalize signV lv = sv at *
 generalize hL : signsL lv = L at *
 clear hL
 go_enter Tryd.func68, Tryd.ntmps68
 go_wp2_with (go_at_call 72; go_must (refine (HS.out _).mono ?_; rintro e w1 ⟨⟨g2, rfl, hb⟩, hf⟩; have F1 := hid hf; have H1 := hid (H.out.no hf); have B1 := hid hb; clear hf hb))
 go_loopw [6] (fun i w' => ∃ j : Nat, j ≤ L.length ∧ i = .int .i64 j ∧ Hid (∀ k y, k < j → L[k]? = some y → pIs ts y s = false) ∧ Hid (Fr nob w1 w')) (fun i _ => L.length - (intOf i).toNat)
 case atStart => exact ⟨0, Nat.zero_le _, rfl, hid (fun k y hk => absurd hk (Nat.not_lt_zero _)), hid (Fr.refl _ _)⟩
 case round =>
  obtain ⟨j, hj, rfl, HJ, F2⟩ := hrel
  by_cases hjl : j < L.length
  · have hjl2 : (j : Int) < (L.length : Int) := by omega
    obtain ⟨x, hx, hxv⟩ := SV.out j hjl
    have B2 := hid (B1.out.fr F2.out (fun x => x))
    have c0 := (B2.out.cell j).trans hxv
    have HX := hid hx
    have HI := hid (is_any (H1.out.no F2.out) HK.out (bs x))
    rw [show (bs x).data.toList = x from rfl] at HI
    have hj6 : (j : Int) ≤ 4 := by omega
    clear hx hxv
    cases hb : pIs ts x s with
    | true =>
     have e1 := hid (HN.out j x HX.out hb HJ.out)
     rw [hb] at HI
     clear hb
     generalize hXX : bs x = X at *
     have XE := hid hXX
     clear hXX
     go_wp2_with (go_at_call 28; go_must (refine HI.out.mono ?_; rintro e w3 ⟨rfl, hf3⟩; have F3 := hid hf3; have c1 := (F3.out.cell (p := ⟨g2, j, none⟩) B2.out.lt (fun x => x)).trans c0; clear hf3))
     go_ret
     exact ⟨by rw [e1.out, XE.out]; first | done | rfl, (F1.out.tr F2.out).tr F3.out⟩
    | false =>
     have hn2 := hid (show ∀ k y, k < j + 1 → L[k]? = some y → pIs ts y s = false from fun k y hk hy => by
      by_cases e : k = j
      · subst e
        rw [HX.out] at hy
        injection hy with hy
        subst hy; exact hb
      · exact HJ.out k y (by omega) hy)
     rw [hb] at HI
     clear hb
     generalize bs x = X at *
     go_wp2_with (go_at_call 28; go_must (refine HI.out.mono ?_; rintro e w3 ⟨rfl, hf3⟩; have F3 := hid hf3; clear hf3))
     go_roundw
     case rel => exact ⟨j + 1, by omega, by go_num, hn2, hid (F2.out.tr F3.out)⟩
     case measure => simp [intOf]; omega
  · have hjl2 : (L.length : Int) ≤ (j : Int) := by omega
    have e1 := hid (HZ.out (fun k y hk hy => HJ.out k y (by omega) hy))
    go_wp2
    go_ret
    exact ⟨by rw [e1.out]; first | done | rfl, F1.out.tr F2.out⟩
section
variable {src : List UInt8} {ts : List Tok} {s : PS}
theorem pTok_down (s : PS) : pTok ts (pDown ts s) = pTok ts s := by
 unfold pDown pFail pTok
 simp only
 split
 · split <;> rfl
 · rfl
theorem PSOk.goDown {x : List UInt8} (h : PSOk ts s) (ht : ToksOk ts) (hx : pIs ts x s = true) : PSOk ts (pGo (pDown ts s)) :=
 (h.down ht (pIs_kind hx).1).go ht (by rw [pTok_down]; exact (pIs_kind hx).2.1)
theorem PSOk.downIs {x : List UInt8} (h : PSOk ts s) (ht : ToksOk ts) (hx : pIs ts x s = true) : PSOk ts (pDown ts s) := h.down ht (pIs_kind hx).1
theorem PSOk.goIs {x : List UInt8} (h : PSOk ts s) (ht : ToksOk ts) (hx : pIs ts x s = true) : PSOk ts (pGo s) := h.go ht (pIs_kind hx).2.1
theorem PSOk.goNext {lv : Nat} (h : PSOk ts s) (ht : ToksOk ts) (hx : pNext ts lv s ≠ []) : PSOk ts (pGo s) := by
 unfold pNext at hx
 cases hf : (signsL lv).find? fun x => pIs ts x s with
 | none => rw [hf] at hx; simp at hx
 | some x =>
  have hp := List.find?_some hf
  exact h.goIs (x := x) ht hp
theorem PSOk.goWord {x : List UInt8} (h : PSOk ts s) (ht : ToksOk ts) (hw : pWord ts s = x) (hx : x ≠ []) : PSOk ts (pGo s) := h.go ht (by rw [(pWord_kind hx hw).2]; decide)
theorem PSOk.goKind {k : Nat} (h : PSOk ts s) (ht : ToksOk ts) (hk : (pTok ts s).kind = k) (h0 : k ≠ 0) : PSOk ts (pGo s) := h.go ht (by rw [hk]; exact h0)
theorem run_ok (ht : ToksOk ts) : ∀ (n : Nat) (k : Task) (s : PS) (r : List Nat × PS), run src ts n k s = some r → PSOk ts s → PSOk ts r.2 := by
 intro n
 induction n with
 | zero => intro k s r h; simp [run] at h
 | succ n ih =>
  intro k s r h hs
  cases k <;> simp only [run] at h <;>
   (repeat' split at h) <;>
   (try simp only [Option.map_eq_some_iff, Option.bind_eq_some_iff, Option.some.injEq] at h) <;>
   (try (obtain ⟨q1, h1, h⟩ := h)) <;>
   (repeat' split at h) <;>
   (try simp only [Option.map_eq_some_iff, Option.bind_eq_some_iff, Option.some.injEq] at h) <;>
   (try (obtain ⟨q2, h2, h⟩ := h)) <;>
   (repeat' split at h) <;>
   (try simp only [Option.map_eq_some_iff, Option.bind_eq_some_iff, Option.some.injEq] at h) <;>
   (try (obtain ⟨q3, h3, h⟩ := h)) <;>
   (try subst h) <;>
   (try subst h1) <;>
   (repeat (first
     | assumption
     | apply PSOk.put
     | apply PSOk.up
     | (refine PSOk.must ?_ ht _)
     | (refine PSOk.named ?_ ht)
     | (refine PSOk.typed ?_ ht)
     | (refine PSOk.fail ?_ ht 20 (by decide) (by decide))
     | (refine PSOk.goDown ?_ ht (by assumption))
     | (refine PSOk.downIs ?_ ht (by assumption))
     | (refine PSOk.goIs ?_ ht (by assumption))
     | (refine PSOk.goNext ?_ ht (by assumption))
     | (refine PSOk.goWord ?_ ht (by assumption) (by simp))
     | (refine PSOk.goKind ?_ ht (by assumption) (by decide))
     | (refine ih _ _ _ (by assumption) ?_)
     | dsimp only))
end
def pot (s : PS) : Int := (s.nodes.length : Int) - 20 * (s.i : Int)
section
variable {src : List UInt8} {ts : List Tok} {s : PS}
theorem pot_go (s : PS) : pot (pGo s) = pot s - 20 := by unfold pot pGo; simp only; omega
theorem pot_fail (k : Nat) (s : PS) : pot (pFail ts k s) = pot s := by unfold pFail; split <;> rfl
theorem pot_must (x : List UInt8) (s : PS) : pot (pMust ts x s) ≤ pot s := by
 unfold pMust; split
 · rw [pot_go]; omega
 · rw [pot_fail]; omega
theorem pot_named (s : PS) : pot (pNamed ts s) ≤ pot s := by
 unfold pNamed; split
 · rw [pot_go]; omega
 · rw [pot_fail]; omega
theorem pot_down (s : PS) : pot (pDown ts s) = pot s := by
 unfold pDown
 simp only
 split
 · exact pot_fail 21 s
 · rfl
theorem pot_put (k line n : Nat) (name : List UInt8) (l : List Nat) (s : PS) : pot (pPut k line n name l s).2 = pot s + 1 := by unfold pot pPut; simp; omega
def kN : Task → Int
 | .call => 1 | .right => 1 | .block => 3 | .named _ => 2 | .stmt => 2 | .stmts _ => 2 | _ => 0
def kS : Task → Prop
 | .named _ => True | .stmt => True | _ => False
theorem potR_go {b : Int} (h : pot s ≤ b) : pot (pGo s) ≤ b - 20 := by rw [pot_go]; omega
theorem potR_must {b : Int} (x : List UInt8) (h : pot s ≤ b) : pot (pMust ts x s) ≤ b := Int.le_trans (pot_must x s) h
theorem potR_named {b : Int} (h : pot s ≤ b) : pot (pNamed ts s) ≤ b := Int.le_trans (pot_named s) h
theorem potR_down {b : Int} (h : pot s ≤ b) : pot (pDown ts s) ≤ b := by rw [pot_down]; exact h
theorem potR_up {b : Int} (h : pot s ≤ b) : pot (pUp s) ≤ b := h
theorem potR_fail {b : Int} (k : Nat) (h : pot s ≤ b) : pot (pFail ts k s) ≤ b := by rw [pot_fail]; exact h
theorem potR_put {b : Int} (k line n : Nat) (name : List UInt8) (l : List Nat) (h : pot s ≤ b) : pot (pPut k line n name l s).2 ≤ b + 1 := by rw [pot_put]; omega
theorem e_named (h : (pNamed ts s).e = 0) : pKind ts 3 s = true := by
 unfold pNamed at h
 by_cases hk : pKind ts 3 s = true
 · exact hk
 · rw [if_neg hk] at h
   unfold pFail at h
   split at h
   · simp at h
   · rename_i h0; exact absurd h h0
theorem potR_namedK {b : Int} (hk : (pNamed ts s).e = 0) (h : pot s ≤ b) : pot (pNamed ts s) ≤ b - 20 := by
 have := e_named hk
 unfold pNamed; rw [if_pos this]; exact potR_go h
theorem Ext.e0 {t : PS} (h : Ext s t) (h0 : t.e = 0) : s.e = 0 := by
 by_cases e : s.e = 0
 · exact e
 · exact absurd ((h.err e).1.symm.trans h0) e
set_option maxHeartbeats 1600000 in
theorem run_few : ∀ (n : Nat) (k : Task) (s : PS) (r : List Nat × PS), run src ts n k s = some r → pot r.2 ≤ pot s + kN k ∧ (kS k → r.2.e = 0 → pot r.2 ≤ pot s - 10) ∧ (k = .call → (pNamed ts s).e = 0 → pot r.2 ≤ pot s - 19) := by
 intro n
 induction n with
 | zero => intro k s r h; simp [run] at h
 | succ n ih =>
  have ih1 : ∀ (k : Task) (s : PS) (r : List Nat × PS) (b : Int), run src ts n k s = some r → pot s ≤ b → pot r.2 ≤ b + kN k := fun k s r b h hb => Int.le_trans (ih k s r h).1 (by omega)
  intro k s r h
  have h0 := h
  cases k
  case stmts l =>
   refine ⟨?_, fun hk => hk.elim, fun hk => by cases hk⟩
   simp only [run] at h
   split at h
   · simp only [Option.some.injEq] at h; subst h; (simp only [kN]; omega)
   · split at h
     · simp only [Option.some.injEq] at h; subst h; (simp only [kN]; omega)
     · simp only [Option.bind_eq_some_iff] at h
       obtain ⟨q1, h1, h⟩ := h
       obtain ⟨a1, a2, _⟩ := ih _ _ _ h1
       by_cases he : q1.2.e = 0
       · have b1 := a2 trivial he
         have := (ih _ _ _ h).1
         simp only [kN] at this ⊢
         omega
       · cases n with
         | zero => simp [run] at h
         | succ n =>
           simp only [run] at h
           rw [if_pos he] at h
           simp only [Option.some.injEq] at h
           subst h
           exact a1
  case named line =>
   simp only [run] at h
   split at h
   · rename_i hc
     simp only [Option.map_eq_some_iff] at h
     obtain ⟨q1, h1, h⟩ := h
     subst h
     have hk := pCalls_kind hc
     have hn0 : (pNamed ts s).e = 0 := by unfold pNamed; rw [if_pos hk]; exact (pKind_kind hk).1
     have hc2 : pot q1.2 ≤ pot s - 19 := (ih _ _ _ h1).2.2 rfl hn0
     have := potR_put 13 line 0 [] q1.1 (potR_must (ts := ts) [59] hc2)
     simp only [kN, kS]
     refine ⟨by omega, fun _ _ => by omega, fun hk => by cases hk⟩
   · split at h
     · rename_i hx
       simp only [Option.map_eq_some_iff, Option.bind_eq_some_iff] at h
       obtain ⟨q1, h1, q2, h2, h⟩ := h
       subst h
       have hn0 := (pIs_kind hx).1
       have hb := potR_put 12 line 0 (pName ts s) (q1.1 ++ q2.1) (potR_must (ts := ts) [59] (ih1 _ _ _ _ h2 (potR_must _ (potR_up (potR_must _ (ih1 _ _ _ _ h1 (potR_must _ (potR_down (potR_namedK hn0 (Int.le_refl _))))))))))
       simp only [kN, kS] at hb ⊢
       refine ⟨by omega, fun _ _ => by omega, fun hk => by cases hk⟩
     · simp only [Option.map_eq_some_iff] at h
       obtain ⟨q1, h1, h⟩ := h
       subst h
       have hb := potR_put 11 line 0 (pName ts s) q1.1 (potR_must (ts := ts) [59] (ih1 _ _ _ _ h1 (potR_must _ (potR_named (Int.le_refl _)))))
       simp only [kN, kS] at hb ⊢
       refine ⟨by omega, fun _ he => ?_, fun hk => by cases hk⟩
       have hn0 : (pNamed ts s).e = 0 := by
         refine Ext.e0 (t := (pPut 11 line 0 (pName ts s) q1.1 (pMust ts [59] q1.2)).2) ?_ he
         exact ((((Ext.refl _).must (ts := ts) [61]).trans (run_ext _ _ _ _ h1)).must (ts := ts) [59]).put _ _ _ _ _
       have hb := potR_put 11 line 0 (pName ts s) q1.1 (potR_must (ts := ts) [59] (ih1 _ _ _ _ h1 (potR_must _ (potR_namedK hn0 (Int.le_refl _)))))
       simp only [kN] at hb ⊢
       omega
  case stmt =>
   simp only [run] at h
   have fin : ∀ {b : Int}, pot r.2 ≤ b → b ≤ pot s - 10 → pot r.2 ≤ pot s + 2 ∧ (True → r.2.e = 0 → pot r.2 ≤ pot s - 10) ∧ (Task.stmt = .call → (pNamed ts s).e = 0 → pot r.2 ≤ pot s - 19) := fun h1 h2 => ⟨by omega, fun _ _ => by omega, fun hk => by cases hk⟩
   simp only [kN, kS]
   by_cases hw : pWord ts s = [108, 101, 116]
   · rw [if_pos hw] at h
     simp only [Option.map_eq_some_iff] at h
     obtain ⟨q1, h1, h⟩ := h
     subst h
     refine fin (potR_put _ _ _ _ _ (potR_must _ (ih1 _ _ _ _ h1 (potR_must _ (potR_named (potR_go (Int.le_refl _))))))) (by simp only [kN]; omega)
   · rw [if_neg hw] at h; clear hw
     by_cases hw : pWord ts s = [112, 114, 105, 110, 116]
     · rw [if_pos hw] at h
       simp only [Option.map_eq_some_iff] at h
       obtain ⟨q1, h1, h⟩ := h
       subst h
       refine fin (potR_put _ _ _ _ _ (potR_must _ (ih1 _ _ _ _ h1 (potR_go (Int.le_refl _))))) (by simp only [kN]; omega)
     · rw [if_neg hw] at h; clear hw
       by_cases hw : pWord ts s = [119, 104, 105, 108, 101]
       · rw [if_pos hw] at h
         simp only [Option.map_eq_some_iff, Option.bind_eq_some_iff] at h
         obtain ⟨q1, h1, q2, h2, h⟩ := h
         subst h
         refine fin (potR_put _ _ _ _ _ (ih1 _ _ _ _ h2 (ih1 _ _ _ _ h1 (potR_go (Int.le_refl _))))) (by simp only [kN]; omega)
       · rw [if_neg hw] at h; clear hw
         by_cases hw : pWord ts s = [105, 102]
         · rw [if_pos hw] at h
           simp only [Option.bind_eq_some_iff] at h
           obtain ⟨q1, h1, q2, h2, h⟩ := h
           split at h
           · simp only [Option.map_eq_some_iff] at h
             obtain ⟨q3, h3, h⟩ := h
             subst h
             refine fin (potR_put _ _ _ _ _ (ih1 _ _ _ _ h3 (potR_go (ih1 _ _ _ _ h2 (ih1 _ _ _ _ h1 (potR_go (Int.le_refl _))))))) (by simp only [kN]; omega)
           · simp only [Option.some.injEq] at h
             subst h
             refine fin (potR_put _ _ _ _ _ (ih1 _ _ _ _ h2 (ih1 _ _ _ _ h1 (potR_go (Int.le_refl _))))) (by simp only [kN]; omega)
         · rw [if_neg hw] at h; clear hw
           by_cases hw : pWord ts s = [114, 101, 116, 117, 114, 110]
           · rw [if_pos hw] at h
             split at h
             · simp only [Option.some.injEq] at h
               subst h
               refine fin (potR_put _ _ _ _ _ (potR_must _ (potR_go (Int.le_refl _)))) (by omega)
             · simp only [Option.map_eq_some_iff] at h
               obtain ⟨q1, h1, h⟩ := h
               subst h
               refine fin (potR_put _ _ _ _ _ (potR_must _ (ih1 _ _ _ _ h1 (potR_go (Int.le_refl _))))) (by simp only [kN]; omega)
           · rw [if_neg hw] at h; clear hw
             obtain ⟨a1, a2, _⟩ := ih _ _ _ h
             exact ⟨a1, fun _ => a2 trivial, fun hk => by cases hk⟩
  case call =>
   simp only [run] at h
   simp only [kN, kS]
   have key : ∀ {b : Int}, pot (pMust ts [40] (pNamed ts s)) ≤ b → pot r.2 ≤ b + 1 := fun {b} hb => by
     split at h <;> simp only [Option.map_eq_some_iff, Option.some.injEq] at h <;> obtain ⟨q1, h1, h⟩ := h <;> subst h
     · have := potR_put 21 (pLine src ts s) 0 (pName ts s) q1.1 (potR_must (ts := ts) [41] (ih1 _ _ _ _ h1 hb))
       simp only [kN] at this
       omega
     · subst h1
       exact potR_put 21 (pLine src ts s) 0 (pName ts s) [] (potR_must (ts := ts) [41] hb)
   refine ⟨key (potR_must _ (potR_named (Int.le_refl _))), fun hk => hk.elim, fun _ hn0 => ?_⟩
   have := key (potR_must _ (potR_namedK hn0 (Int.le_refl _)))
   omega
  all_goals
   refine ⟨?_, fun hk => hk.elim, fun hk => by cases hk⟩
   simp only [run] at h
   (repeat' split at h) <;>
   (try simp only [Option.map_eq_some_iff, Option.bind_eq_some_iff, Option.some.injEq] at h) <;>
   (try (obtain ⟨q1, h1, h⟩ := h)) <;>
   (repeat' split at h) <;>
   (try simp only [Option.map_eq_some_iff, Option.bind_eq_some_iff, Option.some.injEq] at h) <;>
   (try (obtain ⟨q2, h2, h⟩ := h)) <;>
   (repeat' split at h) <;>
   (try simp only [Option.map_eq_some_iff, Option.bind_eq_some_iff, Option.some.injEq] at h) <;>
   (try subst h) <;>
   (try subst h1) <;>
   (apply Int.le_trans
    focus (repeat (with_reducible (first
     | apply potR_put
     | apply potR_up
     | apply potR_must
     | apply potR_named
     | apply potR_fail
     | apply potR_go
     | apply potR_down
     | apply ih1 _ _ _ _ (by assumption)
     | dsimp only
     | exact Int.le_refl _)))
    (first | (simp only [kN]; omega) | omega | (simp only [kN] at *; omega)))
end
end Go.Proofs.YtlbjicjinnnboaaDoor
