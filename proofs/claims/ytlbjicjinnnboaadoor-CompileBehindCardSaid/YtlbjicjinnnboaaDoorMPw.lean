/- MPw: PWf2, PSz2, PPar2. -/
import Derived.Test.YtlbjicjinnnboaaDoorME
set_option linter.unusedVariables false
set_option linter.unusedSimpArgs false
/- The parser: what holds of the tree of a source. -/
namespace Go.Proofs.YtlbjicjinnnboaaDoor
namespace Pw
open Go.RowKit
def clsE (k : Nat) : Bool := decide (1 ≤ k) && decide (k ≤ 9)
def clsR (k : Nat) : Bool := clsE k || (decide (19 ≤ k) && decide (k ≤ 21))
def clsS (k : Nat) : Bool := decide (10 ≤ k) && decide (k ≤ 17)
def clsB (k : Nat) : Bool := decide (k = 18)
def clsC (k : Nat) : Bool := decide (k = 21)
def allSigns : List (List UInt8) := [[124, 124], [38, 38], [60], [60, 61], [61, 61], [33, 61], [43], [45], [42], [47], [37]]
def Kid (ns : List NodeM) (cls : Nat → Bool) (x : Nat) : Prop := ∃ c, ns[x]? = some c ∧ cls c.kind = true
inductive NodeOk (ns : List NodeM) : NodeM → Prop where
 | int (line n : Nat) (h : n ≤ 9223372036854775807) : NodeOk ns ⟨1, line, n, [], []⟩
 | bool (line n : Nat) (h : n ≤ 1) : NodeOk ns ⟨2, line, n, [], []⟩
 | text (line : Nat) (x : List UInt8) : NodeOk ns ⟨3, line, 0, x, []⟩
 | var (line : Nat) (x : List UInt8) : NodeOk ns ⟨4, line, 0, x, []⟩
 | index (line : Nat) (x : List UInt8) (a : Nat) (h : Kid ns clsE a) : NodeOk ns ⟨5, line, 0, x, [a]⟩
 | len (line a : Nat) (h : Kid ns clsE a) : NodeOk ns ⟨6, line, 0, [], [a]⟩
 | neg (line a : Nat) (h : Kid ns clsE a) : NodeOk ns ⟨7, line, 0, [], [a]⟩
 | not (line a : Nat) (h : Kid ns clsE a) : NodeOk ns ⟨8, line, 0, [], [a]⟩
 | bin (line : Nat) (x : List UInt8) (a b : Nat) (hx : x ∈ allSigns) (h : Kid ns clsE a) (h2 : Kid ns clsE b) : NodeOk ns ⟨9, line, 0, x, [a, b]⟩
 | let_ (line : Nat) (x : List UInt8) (a : Nat) (h : Kid ns clsR a) : NodeOk ns ⟨10, line, 0, x, [a]⟩
 | set (line : Nat) (x : List UInt8) (a : Nat) (h : Kid ns clsR a) : NodeOk ns ⟨11, line, 0, x, [a]⟩
 | put (line : Nat) (x : List UInt8) (a b : Nat) (h : Kid ns clsE a) (h2 : Kid ns clsE b) : NodeOk ns ⟨12, line, 0, x, [a, b]⟩
 | do_ (line a : Nat) (h : Kid ns clsC a) : NodeOk ns ⟨13, line, 0, [], [a]⟩
 | print (line a : Nat) (h : Kid ns clsE a) : NodeOk ns ⟨14, line, 0, [], [a]⟩
 | if2 (line a b : Nat) (h : Kid ns clsE a) (h2 : Kid ns clsB b) : NodeOk ns ⟨15, line, 0, [], [a, b]⟩
 | if3 (line a b c : Nat) (h : Kid ns clsE a) (h2 : Kid ns clsB b) (h3 : Kid ns clsB c) : NodeOk ns ⟨15, line, 0, [], [a, b, c]⟩
 | loop (line a b : Nat) (h : Kid ns clsE a) (h2 : Kid ns clsB b) : NodeOk ns ⟨16, line, 0, [], [a, b]⟩
 | ret0 (line : Nat) : NodeOk ns ⟨17, line, 0, [], []⟩
 | ret1 (line a : Nat) (h : Kid ns clsE a) : NodeOk ns ⟨17, line, 0, [], [a]⟩
 | block (line : Nat) (l : List Nat) (h : ∀ a ∈ l, Kid ns clsS a) : NodeOk ns ⟨18, line, 0, [], l⟩
 | input (line : Nat) : NodeOk ns ⟨19, line, 0, [], []⟩
 | new (line a : Nat) (h : Kid ns clsE a) : NodeOk ns ⟨20, line, 0, [], [a]⟩
 | call (line : Nat) (x : List UInt8) (l : List Nat) (h : ∀ a ∈ l, Kid ns clsE a) : NodeOk ns ⟨21, line, 0, x, l⟩
def NodesOk (ns : List NodeM) : Prop := ∀ i nd, ns[i]? = some nd → NodeOk (ns.take i) nd
theorem NodesOk.snoc {ns : List NodeM} {nd : NodeM} (h : NodesOk ns) (hn : NodeOk ns nd) : NodesOk (ns ++ [nd]) := by
 intro i x hx
 by_cases hi : i < ns.length
 · rw [List.getElem?_append_left hi] at hx
   rw [List.take_append_of_le_length (by omega)]
   exact h i x hx
 · rw [List.getElem?_append_right (by omega)] at hx
   by_cases he : i = ns.length
   · subst he
     rw [Nat.sub_self] at hx
     simp at hx
     subst hx
     rw [List.take_left]; exact hn
   · rw [List.getElem?_eq_none (by simp; omega)] at hx; cases hx
theorem Kid.mono {ns : List NodeM} {cls : Nat → Bool} {x : Nat} (h : Kid ns cls x) (y : List NodeM) : Kid (ns ++ y) cls x := by
 obtain ⟨c, hc, hk⟩ := h
 exact ⟨c, by rw [List.getElem?_append_left (List.getElem?_eq_some_iff.1 hc).1]; exact hc, hk⟩
theorem Kid.ext {s t : PS} {cls : Nat → Bool} {x : Nat} (h : Kid s.nodes cls x) (e : Ext s t) : Kid t.nodes cls x := by
 obtain ⟨y, hy⟩ := e.nodes
 rw [hy]; exact h.mono y
theorem Kid.new (ns : List NodeM) (nd : NodeM) {cls : Nat → Bool} (h : cls nd.kind = true) : Kid (ns ++ [nd]) cls ns.length := ⟨nd, by simp, h⟩
theorem Kid.le {ns : List NodeM} {c1 c2 : Nat → Bool} {x : Nat} (h : Kid ns c1 x) (hc : ∀ k, c1 k = true → c2 k = true) : Kid ns c2 x := by
 obtain ⟨c, h1, h2⟩ := h
 exact ⟨c, h1, hc _ h2⟩
section
variable {src : List UInt8} {ts : List Tok}
def AllK (ns : List NodeM) (cls : Nat → Bool) (l : List Nat) : Prop := ∀ a ∈ l, Kid ns cls a
def preT (k : Task) (s : PS) : Prop := match k with
 | .more _ _ x => Kid s.nodes clsE x
 | .args l => AllK s.nodes clsE l
 | .stmts l => AllK s.nodes clsS l
 | _ => True
def resT (k : Task) : Nat → Bool := match k with
 | .call => clsC
 | .right => clsR
 | .block => clsB
 | .stmts _ => clsS
 | .named _ => clsS
 | .stmt => clsS
 | _ => clsE
theorem put_wf {k line n : Nat} {name : List UInt8} {l : List Nat} {s : PS} {cls : Nat → Bool} (h : NodesOk s.nodes) (hn : NodeOk s.nodes ⟨k, line, n, name, l⟩) (hc : cls k = true) :
  NodesOk (pPut k line n name l s).2.nodes ∧ AllK (pPut k line n name l s).2.nodes cls (pPut k line n name l s).1 :=
 ⟨h.snoc hn, fun a ha => by rw [List.mem_singleton.1 ha]; exact Kid.new _ _ hc⟩
theorem nodes_fail (k : Nat) (s : PS) : (pFail ts k s).nodes = s.nodes := by unfold pFail; split <;> rfl
theorem nodes_must (x : List UInt8) (s : PS) : (pMust ts x s).nodes = s.nodes := by
 unfold pMust; split
 · rfl
 · exact nodes_fail 20 s
theorem nodes_named (s : PS) : (pNamed ts s).nodes = s.nodes := by
 unfold pNamed; split
 · rfl
 · exact nodes_fail 20 s
theorem nodes_typed (s : PS) : (pTyped ts s).nodes = s.nodes := by
 unfold pTyped; split
 · exact nodes_fail 20 s
 · rfl
theorem nodes_down (s : PS) : (pDown ts s).nodes = s.nodes := by
 unfold pDown; simp only; split
 · rw [nodes_fail]
 · rfl
theorem e_fail {k : Nat} {s : PS} (hk : k ≠ 0) (h : (pFail ts k s).e = 0) : False := by
 unfold pFail at h
 split at h
 · exact hk h
 · rename_i h0; exact h0 h
theorem kid1 {ns : List NodeM} {cls : Nat → Bool} {l : List Nat} (h : AllK ns cls l) (h1 : l = [oneOf l]) : Kid ns cls (oneOf l) := h _ (by rw [h1]; exact List.mem_singleton.2 rfl)
theorem next_sign {lv : Nat} {s : PS} (h : pNext ts lv s ≠ []) : pNext ts lv s ∈ allSigns := by
 unfold pNext at h ⊢
 cases hf : (signsL lv).find? fun x => pIs ts x s with
 | none => rw [hf] at h; simp at h
 | some x =>
  have hm := List.mem_of_find?_eq_some hf
  show x ∈ allSigns
  unfold signsL at hm
  have key : ∀ l : List (List UInt8), (∀ y ∈ l, y ∈ allSigns) → x ∈ l → x ∈ allSigns := fun l h1 h2 => h1 x h2
  split at hm <;> exact key _ (by decide) hm
theorem run_wf (ht : ToksOk ts) : ∀ (n : Nat) (k : Task) (s : PS) (r : List Nat × PS), run src ts n k s = some r → PSOk ts s → r.2.e = 0 → NodesOk s.nodes → preT k s → NodesOk r.2.nodes ∧ AllK r.2.nodes (resT k) r.1 := by
 intro n
 induction n with
 | zero => intro k s r h; simp [run] at h
 | succ n ih =>
  intro k s r h hs he hw hp
  have ih2 : ∀ {k : Task} {s : PS} {r : List Nat × PS} {ns : List NodeM}, run src ts n k s = some r → PSOk ts s → r.2.e = 0 → s.nodes = ns → NodesOk ns → preT k s → NodesOk r.2.nodes ∧ AllK r.2.nodes (resT k) r.1 := fun h1 h2 h3 h4 h5 h6 => ih _ _ _ h1 h2 h3 (by rw [h4]; exact h5) h6
  cases k with
  | atom =>
   simp only [run] at h
   split at h
   · rename_i h0
     simp only [Option.some.injEq] at h; subst h; exact absurd he h0
   · rename_i h0
     have h0 : s.e = 0 := by simpa using h0
     split at h
     · rename_i h1
       simp only [Option.some.injEq] at h; subst h
       have hm : pTok ts s ∈ ts := by
         unfold pTok
         rw [List.getD, List.getElem?_eq_getElem hs.room]
         exact List.getElem_mem _
       exact put_wf hw (.int _ _ (ht.nums _ hm h1).2.2) rfl
     · split at h
       · simp only [Option.some.injEq] at h; subst h; exact put_wf hw (.text _ _) rfl
       · split at h
         · rename_i h3
           split at h
           · rename_i hx
             simp only [Option.map_eq_some_iff] at h
             obtain ⟨q, hq, rfl⟩ := h
             have hq1 := run_one _ _ _ _ hq trivial
             have e1 : q.2.e = 0 := ((Ext.refl q.2).must (ts := ts) [93]).e0 he
             obtain ⟨a, b⟩ := ih2 hq (((hs.goKind ht h3 (by omega)).down ht h0).must ht _) e1 (by rw [nodes_must, nodes_down]; rfl) hw trivial
             rw [hq1]
             refine put_wf (s := pUp (pMust ts [93] q.2)) (by show NodesOk (pMust ts [93] q.2).nodes; rw [nodes_must]; exact a) (.index _ _ _ ?_) rfl
             show Kid (pMust ts [93] q.2).nodes _ _
             rw [nodes_must]; exact kid1 b hq1
           · simp only [Option.some.injEq] at h; subst h; exact put_wf hw (.var _ _) rfl
         · split at h
           · simp only [Option.some.injEq] at h; subst h; exact put_wf hw (.bool _ _ (by omega)) rfl
           · split at h
             · simp only [Option.some.injEq] at h; subst h; exact put_wf hw (.bool _ _ (by omega)) rfl
             · split at h
               · rename_i hl
                 split at h
                 · simp only [Option.map_eq_some_iff] at h
                   obtain ⟨q, hq, rfl⟩ := h
                   have hq1 := run_one _ _ _ _ hq trivial
                   have e1 : q.2.e = 0 := ((Ext.refl q.2).must (ts := ts) [41]).e0 he
                   obtain ⟨a, b⟩ := ih2 hq (((hs.goIs ht hl).down ht h0).must ht _) e1 (by rw [nodes_must, nodes_down]; rfl) hw trivial
                   rw [hq1]
                   refine put_wf (s := pUp (pMust ts [41] q.2)) (by show NodesOk (pMust ts [41] q.2).nodes; rw [nodes_must]; exact a) (.len _ _ ?_) rfl
                   show Kid (pMust ts [41] q.2).nodes _ _
                   rw [nodes_must]; exact kid1 b hq1
                 · simp only [Option.some.injEq] at h; subst h; exact (e_fail (by decide) he).elim
               · split at h
                 · simp only [Option.map_eq_some_iff] at h
                   obtain ⟨q, hq, rfl⟩ := h
                   have e1 : q.2.e = 0 := ((Ext.refl q.2).must (ts := ts) [41]).e0 he
                   obtain ⟨a, b⟩ := ih2 hq ((hs.down ht h0).must ht _) e1 (by rw [nodes_must, nodes_down]) hw trivial
                   refine ⟨by show NodesOk (pMust ts [41] q.2).nodes; rw [nodes_must]; exact a, ?_⟩
                   show AllK (pMust ts [41] q.2).nodes _ _
                   rw [nodes_must]; exact b
                 · simp only [Option.some.injEq] at h; subst h; exact (e_fail (by decide) he).elim
  | factor =>
   simp only [run] at h
   split at h
   · rename_i hx
     simp only [Option.map_eq_some_iff] at h
     obtain ⟨q, hq, rfl⟩ := h
     have hq1 := run_one _ _ _ _ hq trivial
     obtain ⟨a, b⟩ := ih2 hq (hs.goDown ht hx) he (show (pDown ts s).nodes = s.nodes from nodes_down s) hw trivial
     rw [hq1]
     exact put_wf (s := pUp q.2) a (.neg _ _ (kid1 b hq1)) rfl
   · split at h
     · rename_i hx
       simp only [Option.map_eq_some_iff] at h
       obtain ⟨q, hq, rfl⟩ := h
       have hq1 := run_one _ _ _ _ hq trivial
       obtain ⟨a, b⟩ := ih2 hq (hs.goDown ht hx) he (show (pDown ts s).nodes = s.nodes from nodes_down s) hw trivial
       rw [hq1]
       exact put_wf (s := pUp q.2) a (.not _ _ (kid1 b hq1)) rfl
     · (have h9 := ih _ _ _ h hs he hw trivial; exact h9)
  | chain lv =>
   simp only [run] at h
   split at h
   · (have h9 := ih _ _ _ h hs he hw trivial; exact h9)
   · simp only [Option.bind_eq_some_iff] at h
     obtain ⟨q, hq, h⟩ := h
     have hq1 := run_one _ _ _ _ hq trivial
     have e1 : q.2.e = 0 := (run_ext _ _ _ _ h).e0 he
     obtain ⟨a, b⟩ := ih2 hq hs e1 rfl hw trivial
     (have h9 := ih _ _ _ h (run_ok ht _ _ _ _ hq hs) he a (kid1 b hq1); exact h9)
  | more lv line x =>
   simp only [run] at h
   split at h
   · simp only [Option.some.injEq] at h; subst h
     exact ⟨hw, fun a ha => by rw [List.mem_singleton.1 ha]; exact hp⟩
   · rename_i hx
     simp only [Option.bind_eq_some_iff] at h
     obtain ⟨q, hq, h⟩ := h
     have hq1 := run_one _ _ _ _ hq trivial
     have hok := run_ok ht _ _ _ _ hq (hs.goNext ht hx)
     have hkx : Kid q.2.nodes clsE x := Kid.ext (s := pGo s) hp (run_ext _ _ _ _ hq)
     split at h
     · simp only [Option.some.injEq] at h; subst h
       obtain ⟨a, b⟩ := ih2 hq (hs.goNext ht hx) he (show (pGo s).nodes = s.nodes from rfl) hw trivial
       exact put_wf a (.bin _ _ _ _ (next_sign hx) hkx (kid1 b hq1)) rfl
     · have e1 : q.2.e = 0 := (run_ext _ _ _ _ h).e0 he
       obtain ⟨a, b⟩ := ih2 hq (hs.goNext ht hx) e1 (show (pGo s).nodes = s.nodes from rfl) hw trivial
       obtain ⟨c, d⟩ := put_wf (line := line) (n := 0) (cls := clsE) a (.bin _ _ _ _ (next_sign hx) hkx (kid1 b hq1)) rfl
       (have h9 := ih _ _ _ h (hok.put _ _ _ _ _) he c (d _ (List.mem_singleton.2 rfl)); exact h9)
  | args l =>
   simp only [run, Option.bind_eq_some_iff] at h
   obtain ⟨q, hq, h⟩ := h
   have hq1 := run_one _ _ _ _ hq trivial
   have hok := run_ok ht _ _ _ _ hq hs
   have hle := run_ext _ _ _ _ hq
   split at h
   · rename_i hx
     have e1 : q.2.e = 0 := (pIs_kind hx).1
     obtain ⟨a, b⟩ := ih2 hq hs e1 rfl hw trivial
     have h9 := ih _ _ _ h (hok.goIs ht hx) he a (show AllK q.2.nodes clsE (l ++ q.1) from fun y hy => by
       rcases List.mem_append.1 hy with hy | hy
       · exact (hp y hy).ext hle
       · exact b y hy)
     exact h9
   · simp only [Option.some.injEq] at h; subst h
     obtain ⟨a, b⟩ := ih2 hq hs he rfl hw trivial
     refine ⟨a, fun y hy => ?_⟩
     rcases List.mem_append.1 hy with hy | hy
     · exact (hp y hy).ext hle
     · exact b y hy
  | call =>
   simp only [run, Option.map_eq_some_iff] at h
   obtain ⟨q, hq, rfl⟩ := h
   have e1 : q.2.e = 0 := ((Ext.refl q.2).must (ts := ts) [41]).e0 he
   have hw2 : NodesOk (pMust ts [40] (pNamed ts s)).nodes := by rw [nodes_must, nodes_named]; exact hw
   have key : NodesOk q.2.nodes ∧ AllK q.2.nodes clsE q.1 := by
     split at hq
     · exact ih2 hq ((hs.named ht).must ht _) e1 rfl hw2 (fun y hy => by cases hy)
     · simp only [Option.some.injEq] at hq; subst hq
       exact ⟨hw2, fun y hy => by cases hy⟩
   refine put_wf (s := pMust ts [41] q.2) (by rw [nodes_must]; exact key.1) (.call _ _ _ (fun y hy => ?_)) rfl
   rw [nodes_must]; exact key.2 y hy
  | right =>
   simp only [run] at h
   split at h
   · simp only [Option.some.injEq] at h; subst h; exact put_wf hw (.input _) rfl
   · split at h
     · rename_i hx
       simp only [Option.map_eq_some_iff] at h
       obtain ⟨q, hq, rfl⟩ := h
       have hq1 := run_one _ _ _ _ hq trivial
       have e1 : q.2.e = 0 := ((Ext.refl q.2).must (ts := ts) [41]).e0 he
       obtain ⟨a, b⟩ := ih2 hq ((hs.goIs ht hx).must ht _) e1 (by rw [nodes_must]; rfl) hw trivial
       rw [hq1]
       refine put_wf (s := pMust ts [41] q.2) (by rw [nodes_must]; exact a) (.new _ _ ?_) rfl
       rw [nodes_must]; exact kid1 b hq1
     · split at h
       · obtain ⟨a, b⟩ := ih2 h hs he rfl hw trivial
         exact ⟨a, fun y hy => (b y hy).le (fun k hk => by have : k = 21 := by simpa [resT, clsC] using hk
                                                           subst this; rfl)⟩
       · obtain ⟨a, b⟩ := ih2 h hs he rfl hw trivial
         exact ⟨a, fun y hy => (b y hy).le (fun k hk => by have : clsE k = true := hk
                                                           show clsR k = true
                                                           unfold clsR; rw [this]; rfl)⟩
  | block =>
   simp only [run] at h
   split at h
   · rename_i hx
     simp only [Option.map_eq_some_iff] at h
     obtain ⟨q, hq, rfl⟩ := h
     have e1 : q.2.e = 0 := ((Ext.refl q.2).must (ts := ts) [125]).e0 he
     obtain ⟨a, b⟩ := ih2 hq ((hs.downIs ht hx).must ht _) e1 (by rw [nodes_must, nodes_down]) hw (fun y hy => by cases hy)
     refine put_wf (s := pUp (pMust ts [125] q.2)) (by show NodesOk (pMust ts [125] q.2).nodes; rw [nodes_must]; exact a) (.block _ _ (fun y hy => ?_)) rfl
     show Kid (pMust ts [125] q.2).nodes _ _
     rw [nodes_must]; exact b y hy
   · simp only [Option.some.injEq] at h; subst h; exact (e_fail (by decide) he).elim
  | stmts l =>
   simp only [run] at h
   split at h
   · rename_i h0
     simp only [Option.some.injEq] at h; subst h; exact absurd he h0
   · split at h
     · simp only [Option.some.injEq] at h; subst h; exact ⟨hw, hp⟩
     · simp only [Option.bind_eq_some_iff] at h
       obtain ⟨q, hq, h⟩ := h
       have e1 : q.2.e = 0 := (run_ext _ _ _ _ h).e0 he
       obtain ⟨a, b⟩ := ih2 hq hs e1 rfl hw trivial
       have h9 := ih _ _ _ h (run_ok ht _ _ _ _ hq hs) he a (show AllK q.2.nodes clsS (l ++ q.1) from fun y hy => by
         rcases List.mem_append.1 hy with hy | hy
         · exact (hp y hy).ext (run_ext _ _ _ _ hq)
         · exact b y hy)
       exact h9
  | named line =>
   simp only [run] at h
   split at h
   · simp only [Option.map_eq_some_iff] at h
     obtain ⟨q, hq, rfl⟩ := h
     have hq1 := run_one _ _ _ _ hq trivial
     have e1 : q.2.e = 0 := ((Ext.refl q.2).must (ts := ts) [59]).e0 he
     obtain ⟨a, b⟩ := ih2 hq hs e1 rfl hw trivial
     rw [hq1]
     refine put_wf (s := pMust ts [59] q.2) (by rw [nodes_must]; exact a) (.do_ _ _ ?_) rfl
     rw [nodes_must]; exact kid1 b hq1
   · split at h
     · rename_i hx
       simp only [Option.map_eq_some_iff, Option.bind_eq_some_iff] at h
       obtain ⟨q, hq, u, hu, rfl⟩ := h
       have hq1 := run_one _ _ _ _ hq trivial
       have hu1 := run_one _ _ _ _ hu trivial
       have e2 : u.2.e = 0 := ((Ext.refl u.2).must (ts := ts) [59]).e0 he
       have hx2 := ((((Ext.refl q.2).must (ts := ts) [93]).up).must (ts := ts) [61])
       have e1 : q.2.e = 0 := hx2.e0 ((run_ext _ _ _ _ hu).e0 e2)
       have hsn : PSOk ts (pNamed ts s) := hs.named ht
       obtain ⟨a, b⟩ := ih2 hq ((hsn.downIs ht hx).must ht _) e1 (by rw [nodes_must, nodes_down, nodes_named]) hw trivial
       have hokq := run_ok ht _ _ _ _ hq ((hsn.downIs ht hx).must ht _)
       obtain ⟨c, d⟩ := ih2 hu (((hokq.must ht _).up).must ht _) e2 (show (pMust ts [61] (pUp (pMust ts [93] q.2))).nodes = q.2.nodes by rw [nodes_must]; exact nodes_must _ _) a trivial
       rw [hq1, hu1]
       refine put_wf (s := pMust ts [59] u.2) (by rw [nodes_must]; exact c) (.put _ _ _ _ ?_ ?_) rfl
       · rw [nodes_must]
         exact (kid1 b hq1).ext (hx2.trans (run_ext _ _ _ _ hu))
       · rw [nodes_must]; exact kid1 d hu1
     · simp only [Option.map_eq_some_iff] at h
       obtain ⟨q, hq, rfl⟩ := h
       have hq1 := run_one _ _ _ _ hq trivial
       have e1 : q.2.e = 0 := ((Ext.refl q.2).must (ts := ts) [59]).e0 he
       obtain ⟨a, b⟩ := ih2 hq ((hs.named ht).must ht _) e1 (by rw [nodes_must, nodes_named]) hw trivial
       rw [hq1]
       refine put_wf (s := pMust ts [59] q.2) (by rw [nodes_must]; exact a) (.set _ _ _ ?_) rfl
       rw [nodes_must]; exact kid1 b hq1
  | stmt =>
   simp only [run] at h
   split at h
   · rename_i hwd
     simp only [Option.map_eq_some_iff] at h
     obtain ⟨q, hq, rfl⟩ := h
     have hq1 := run_one _ _ _ _ hq trivial
     have e1 : q.2.e = 0 := ((Ext.refl q.2).must (ts := ts) [59]).e0 he
     obtain ⟨a, b⟩ := ih2 hq (((hs.goWord ht hwd (by simp)).named ht).must ht _) e1 (by rw [nodes_must, nodes_named]; rfl) hw trivial
     rw [hq1]
     refine put_wf (s := pMust ts [59] q.2) (by rw [nodes_must]; exact a) (.let_ _ _ _ ?_) rfl
     rw [nodes_must]; exact kid1 b hq1
   · split at h
     · rename_i hwd
       simp only [Option.map_eq_some_iff] at h
       obtain ⟨q, hq, rfl⟩ := h
       have hq1 := run_one _ _ _ _ hq trivial
       have e1 : q.2.e = 0 := ((Ext.refl q.2).must (ts := ts) [59]).e0 he
       obtain ⟨a, b⟩ := ih2 hq (hs.goWord ht hwd (by simp)) e1 (show (pGo s).nodes = s.nodes from rfl) hw trivial
       rw [hq1]
       refine put_wf (s := pMust ts [59] q.2) (by rw [nodes_must]; exact a) (.print _ _ ?_) rfl
       rw [nodes_must]; exact kid1 b hq1
     · split at h
       · rename_i hwd
         simp only [Option.map_eq_some_iff, Option.bind_eq_some_iff] at h
         obtain ⟨q, hq, u, hu, rfl⟩ := h
         have hq1 := run_one _ _ _ _ hq trivial
         have hu1 := run_one _ _ _ _ hu trivial
         have e1 : q.2.e = 0 := (run_ext _ _ _ _ hu).e0 he
         obtain ⟨a, b⟩ := ih2 hq (hs.goWord ht hwd (by simp)) e1 (show (pGo s).nodes = s.nodes from rfl) hw trivial
         obtain ⟨c, d⟩ := ih2 hu (run_ok ht _ _ _ _ hq (hs.goWord ht hwd (by simp))) he rfl a trivial
         rw [hq1, hu1]
         exact put_wf (s := u.2) c (.loop _ _ _ ((kid1 b hq1).ext (run_ext _ _ _ _ hu)) (kid1 d hu1)) rfl
       · split at h
         · rename_i hwd
           simp only [Option.bind_eq_some_iff] at h
           obtain ⟨q, hq, u, hu, h⟩ := h
           have hq1 := run_one _ _ _ _ hq trivial
           have hu1 := run_one _ _ _ _ hu trivial
           have hokq := run_ok ht _ _ _ _ hq (hs.goWord ht hwd (by simp))
           have hoku := run_ok ht _ _ _ _ hu hokq
           split at h
           · rename_i hx
             simp only [Option.map_eq_some_iff] at h
             obtain ⟨v, hv, rfl⟩ := h
             have hv1 := run_one _ _ _ _ hv trivial
             have e2 : u.2.e = 0 := (pIs_kind hx).1
             have e1 : q.2.e = 0 := (run_ext _ _ _ _ hu).e0 e2
             obtain ⟨a, b⟩ := ih2 hq (hs.goWord ht hwd (by simp)) e1 (show (pGo s).nodes = s.nodes from rfl) hw trivial
             obtain ⟨c, d⟩ := ih2 hu hokq e2 rfl a trivial
             obtain ⟨f, g⟩ := ih2 hv (hoku.goIs ht hx) he (show (pGo u.2).nodes = u.2.nodes from rfl) c trivial
             have e3 : Ext u.2 v.2 := ((Ext.refl u.2).go).trans (run_ext _ _ _ _ hv)
             rw [hq1, hu1, hv1]
             exact put_wf (s := v.2) f (.if3 _ _ _ _ (((kid1 b hq1).ext (run_ext _ _ _ _ hu)).ext e3) ((kid1 d hu1).ext e3) (kid1 g hv1)) rfl
           · simp only [Option.some.injEq] at h; subst h
             have e1 : q.2.e = 0 := (run_ext _ _ _ _ hu).e0 he
             obtain ⟨a, b⟩ := ih2 hq (hs.goWord ht hwd (by simp)) e1 (show (pGo s).nodes = s.nodes from rfl) hw trivial
             obtain ⟨c, d⟩ := ih2 hu hokq he rfl a trivial
             rw [hq1, hu1]
             exact put_wf (s := u.2) c (.if2 _ _ _ ((kid1 b hq1).ext (run_ext _ _ _ _ hu)) (kid1 d hu1)) rfl
         · split at h
           · rename_i hwd
             split at h
             · simp only [Option.some.injEq] at h; subst h
               exact put_wf (s := pMust ts [59] (pGo s)) (by rw [nodes_must]; exact hw) (.ret0 _) rfl
             · simp only [Option.map_eq_some_iff] at h
               obtain ⟨q, hq, rfl⟩ := h
               have hq1 := run_one _ _ _ _ hq trivial
               have e1 : q.2.e = 0 := ((Ext.refl q.2).must (ts := ts) [59]).e0 he
               obtain ⟨a, b⟩ := ih2 hq (hs.goWord ht hwd (by simp)) e1 (show (pGo s).nodes = s.nodes from rfl) hw trivial
               rw [hq1]
               refine put_wf (s := pMust ts [59] q.2) (by rw [nodes_must]; exact a) (.ret1 _ _ ?_) rfl
               rw [nodes_must]; exact kid1 b hq1
           · (have h9 := ih _ _ _ h hs he hw trivial; exact h9)
end
structure TreeOk (ns : List NodeM) (fs : List FuncM) : Prop where
 nodes : NodesOk ns
 bodies : ∀ f ∈ fs, Kid ns clsB f.body
 few : ns.length ≤ 300
 fewf : fs.length ≤ 6
 pars : ∀ f ∈ fs, f.params.length ≤ 3
 types : ∀ f ∈ fs, f.ret ≤ 4 ∧ ∀ p ∈ f.params, p.2 ≤ 4
section
variable {src : List UInt8} {ts : List Tok}
theorem params_types : ∀ (n : Nat) (acc : List (List UInt8 × Nat)) (s : PS) (p : List (List UInt8 × Nat) × PS), runParams ts n acc s = some p → (∀ q ∈ acc, q.2 ≤ 4) → ∀ q ∈ p.1, q.2 ≤ 4
 | 0, _, _, _, h, _ => by simp [runParams] at h
 | n + 1, acc, s, p, h, ha => by
  have h2 : ∀ q ∈ acc ++ [(pName ts s, pType ts (pNamed ts s))], q.2 ≤ 4 := fun q hq => by
    rcases List.mem_append.1 hq with hq | hq
    · exact ha q hq
    · rw [List.mem_singleton.1 hq]; exact typeM_le _
  simp only [runParams] at h
  split at h
  · exact params_types n _ _ _ h h2
  · simp only [Option.some.injEq] at h
    subst h; exact h2
theorem params_nodes : ∀ (n : Nat) (acc : List (List UInt8 × Nat)) (s : PS) (p : List (List UInt8 × Nat) × PS), runParams ts n acc s = some p → p.2.nodes = s.nodes
 | 0, _, _, _, h => by simp [runParams] at h
 | n + 1, acc, s, p, h => by
  simp only [runParams] at h
  split at h
  · rw [params_nodes n _ _ _ h]
    show (pTyped ts (pNamed ts s)).nodes = _
    rw [nodes_typed, nodes_named]
  · simp only [Option.some.injEq] at h
    subst h
    show (pTyped ts (pNamed ts s)).nodes = _
    rw [nodes_typed, nodes_named]
theorem func_wf (ht : ToksOk ts) {n : Nat} {s : PS} {fs : FuncM × PS} (h : runFunc src ts n s = some fs) (hs : PSOk ts s) (he : fs.2.e = 0) (hw : NodesOk s.nodes) :
   NodesOk fs.2.nodes ∧ Kid fs.2.nodes clsB fs.1.body ∧ fs.1.ret ≤ 4 ∧ ∀ p ∈ fs.1.params, p.2 ≤ 4 := by
 simp only [runFunc, Option.bind_eq_some_iff, Option.map_eq_some_iff] at h
 obtain ⟨p, hp, b, hb, rfl⟩ := h
 have h1 : PSOk ts (pMust ts [40] (pNamed ts (pMust ts [102, 110] s))) := ((hs.must ht _).named ht).must ht _
 have hn1 : (pMust ts [40] (pNamed ts (pMust ts [102, 110] s))).nodes = s.nodes := by rw [nodes_must, nodes_named, nodes_must]
 have h2 : PSOk ts p.2 ∧ p.2.nodes = s.nodes ∧ ∀ q ∈ p.1, q.2 ≤ 4 := by
   split at hp
   · exact ⟨params_ok ht _ _ _ _ hp h1, by rw [params_nodes _ _ _ _ hp, hn1], params_types _ _ _ _ hp (fun q hq => by cases hq)⟩
   · simp only [Option.some.injEq] at hp
     subst hp; exact ⟨h1, hn1, fun q hq => by cases hq⟩
 have hb1 := run_one _ _ _ _ hb trivial
 have key : NodesOk b.2.nodes ∧ AllK b.2.nodes clsB b.1 := by
   split at hb
   · exact run_wf ht _ _ _ _ hb (h2.1.must ht _) he (by rw [nodes_must, h2.2.1]; exact hw) trivial
   · exact run_wf ht _ _ _ _ hb ((h2.1.must ht _).typed ht) he (by rw [nodes_typed, nodes_must, h2.2.1]; exact hw) trivial
 refine ⟨key.1, kid1 key.2 hb1, ?_, h2.2.2⟩
 show (if pIs ts [123] (pMust ts [41] p.2) = true then 0 else pType ts (pMust ts [41] p.2)) ≤ 4
 split
 · omega
 · exact typeM_le _
theorem fns_wf (ht : ToksOk ts) : ∀ (n : Nat) (acc : List FuncM) (s : PS) (r : List FuncM × PS), runFns src ts n acc s = some r → PSOk ts s → r.2.e = 0 → NodesOk s.nodes → (∀ f ∈ acc, Kid s.nodes clsB f.body ∧ f.ret ≤ 4 ∧ ∀ p ∈ f.params, p.2 ≤ 4) →
  NodesOk r.2.nodes ∧ ∀ f ∈ r.1, Kid r.2.nodes clsB f.body ∧ f.ret ≤ 4 ∧ ∀ p ∈ f.params, p.2 ≤ 4
 | 0, _, _, _, h, _, _, _, _ => by simp [runFns] at h
 | n + 1, acc, s, r, h, hs, he, hw, ha => by
  simp only [runFns] at h
  split at h
  · simp only [Option.some.injEq] at h; subst h; exact ⟨hw, ha⟩
  · split at h
    · simp only [Option.some.injEq] at h; subst h; exact ⟨hw, ha⟩
    · simp only [Option.bind_eq_some_iff] at h
      obtain ⟨fs, hfs, h⟩ := h
      have e1 : fs.2.e = 0 := (fns_ext _ _ _ _ h).e0 he
      obtain ⟨a, b, c, d⟩ := func_wf ht hfs hs e1 hw
      refine fns_wf ht n _ _ _ h (func_ok ht hfs hs).1 he a (fun f hf => ?_)
      rcases List.mem_append.1 hf with hf | hf
      · obtain ⟨x, y⟩ := ha f hf
        exact ⟨x.ext (func_ext' hfs), y⟩
      · rw [List.mem_singleton.1 hf]; exact ⟨b, c, d⟩
theorem parse_ok {src : List UInt8} {ns : List NodeM} {fs : List FuncM} (h : parseM src = some (.good ns fs)) : TreeOk ns fs := by
 unfold parseM at h
 cases hl : lexM src with
 | bad p e => rw [hl] at h; simp at h
 | good ts =>
  rw [hl] at h
  have ht := lexM_toks hl
  simp only [parseT, Option.map_eq_some_iff] at h
  obtain ⟨q, hq, h⟩ := h
  split at h
  · cases h
  · rename_i h0
    have h0 : q.2.e = 0 := by simpa using h0
    split at h
    · cases h
    · rename_i hb
      injection h with h1 h2
      subst h1; subst h2
      have hs : PSOk ts ⟨0, [], 0, 0, 0⟩ := ⟨ht.pos, by decide, fun _ => by decide, by decide, by decide⟩
      obtain ⟨a, b⟩ := fns_wf ht _ _ _ _ hq hs h0 (fun i nd hi => by simp at hi) (fun f hf => by cases hf)
      refine ⟨a, fun f hf => (b f hf).1, by omega, by omega, fun f hf => ?_, fun f hf => (b f hf).2⟩
      by_cases h3 : f.params.length ≤ 3
      · exact h3
      · exact absurd (List.any_eq_true.2 ⟨f, hf, by simp; omega⟩) (fun e => hb (.inr (.inr e)))
end
end Pw
end Go.Proofs.YtlbjicjinnnboaaDoor
/- The parser: values that are made node by node; how great a tree is. -/
namespace Go.Proofs.YtlbjicjinnnboaaDoor
namespace Pw
open Go.RowKit
section
variable {α : Type} (g : (Nat → α) → NodeM → α) (d : α)
end
theorem Kid.lt {ns : List NodeM} {cls : Nat → Bool} {x : Nat} (h : Kid ns cls x) : x < ns.length := by
 obtain ⟨c, hc, _⟩ := h
 exact (List.getElem?_eq_some_iff.1 hc).1
theorem Kid.take {ns : List NodeM} {cls : Nat → Bool} {x i : Nat} (h : Kid (ns.take i) cls x) : x < i ∧ Kid ns cls x := by
 obtain ⟨c, hc, hk⟩ := h
 rw [List.getElem?_take] at hc
 split at hc
 · exact ⟨by assumption, c, hc, hk⟩
 · cases hc
section
variable {src : List UInt8} {ts : List Tok}
def pendT : Task → List Nat
 | .more _ _ x => [x] | .args l => l | .stmts l => l | _ => []
end
end Pw
end Go.Proofs.YtlbjicjinnnboaaDoor
/- The parser: how often a node hangs on others: just once. -/
namespace Go.Proofs.YtlbjicjinnnboaaDoor
namespace Pw
open Go.RowKit
def parN (ns : List NodeM) (x : Nat) : Nat := (ns.map fun nd => nd.l.count x).sum
def mN (ns : List NodeM) (x : Nat) : Nat := parN ns x + (if ns.length ≤ x then 1 else 0)
section
variable {src : List UInt8} {ts : List Tok}
theorem mN_put (k line n : Nat) (name : List UInt8) (l : List Nat) (s : PS) (x : Nat) : mN (pPut k line n name l s).2.nodes x + (pPut k line n name l s).1.count x = mN s.nodes x + l.count x := by
 show mN (s.nodes ++ [⟨k, line, n, name, l⟩]) x + [s.nodes.length].count x = _
 unfold mN parN
 rw [List.map_append, List.sum_append, List.length_append, List.count_singleton]
 simp only [List.map_cons, List.map_nil, List.sum_cons, List.sum_nil, List.length_cons, List.length_nil]
 by_cases h : s.nodes.length = x
 · subst h
   rw [if_neg (by omega), if_pos (Nat.le_refl _)]; simp; omega
 · have hb : (s.nodes.length == x) = false := by simpa using h
   rw [hb]
   by_cases h2 : s.nodes.length ≤ x
   · rw [if_pos (show s.nodes.length + (0 + 1) ≤ x by omega), if_pos h2]; simp <;> omega
   · rw [if_neg (show ¬ s.nodes.length + (0 + 1) ≤ x by omega), if_neg h2]; simp <;> omega
theorem e_must {x : List UInt8} {s : PS} (h : (pMust ts x s).e = 0) : s.e = 0 := ((Ext.refl s).must (ts := ts) x).e0 h
theorem run_e {n : Nat} {k : Task} {s : PS} {r : List Nat × PS} (h : run src ts n k s = some r) (he : r.2.e = 0) : s.e = 0 := (run_ext _ _ _ _ h).e0 he
theorem nodes_go (s : PS) : (pGo s).nodes = s.nodes := rfl
theorem nodes_up (s : PS) : (pUp s).nodes = s.nodes := rfl
theorem run_par : ∀ (n : Nat) (k : Task) (s : PS) (r : List Nat × PS), run src ts n k s = some r → r.2.e = 0 → ∀ x, mN r.2.nodes x + r.1.count x = mN s.nodes x + (pendT k).count x := by
 intro n
 induction n with
 | zero => intro k s r h; simp [run] at h
 | succ n ih =>
  intro k s r h he x
  have ih2 : ∀ {k : Task} {s : PS} {r : List Nat × PS} {ns : List NodeM}, run src ts n k s = some r → r.2.e = 0 → s.nodes = ns → mN r.2.nodes x + r.1.count x = mN ns x + (pendT k).count x := fun h1 h2 h3 => by
   subst h3
   exact ih _ _ _ h1 h2 x
  have put0 : ∀ (k line m : Nat) (name : List UInt8) (s : PS), mN (pPut k line m name [] s).2.nodes x + (pPut k line m name [] s).1.count x = mN s.nodes x + 0 := fun k line m name s => by
   rw [mN_put]; rfl
  cases k with
  | atom =>
   simp only [run] at h
   simp only [pendT, List.count_nil]
   split at h
   · rename_i h0
     simp only [Option.some.injEq] at h; subst h; exact absurd he h0
   · split at h
     · simp only [Option.some.injEq] at h; subst h; exact put0 _ _ _ _ (pGo s)
     · split at h
       · simp only [Option.some.injEq] at h; subst h; exact put0 _ _ _ _ (pGo s)
       · split at h
         · split at h
           · simp only [Option.map_eq_some_iff] at h
             obtain ⟨q, hq, rfl⟩ := h
             have c := ih2 hq (e_must (x := [93]) (ts := ts) he) (show _ = s.nodes by rw [nodes_must, nodes_down]; rfl)
             rw [mN_put, nodes_up, nodes_must]
             simp only [pendT, List.count_nil] at c
             omega
           · simp only [Option.some.injEq] at h; subst h; exact put0 _ _ _ _ (pGo s)
         · split at h
           · simp only [Option.some.injEq] at h; subst h; exact put0 _ _ _ _ (pGo s)
           · split at h
             · simp only [Option.some.injEq] at h; subst h; exact put0 _ _ _ _ (pGo s)
             · split at h
               · split at h
                 · simp only [Option.map_eq_some_iff] at h
                   obtain ⟨q, hq, rfl⟩ := h
                   have c := ih2 hq (e_must (x := [41]) (ts := ts) he) (show _ = s.nodes by rw [nodes_must, nodes_down]; rfl)
                   rw [mN_put, nodes_up, nodes_must]
                   simp only [pendT, List.count_nil] at c
                   omega
                 · simp only [Option.some.injEq] at h; subst h; exact (e_fail (by decide) he).elim
               · split at h
                 · simp only [Option.map_eq_some_iff] at h
                   obtain ⟨q, hq, rfl⟩ := h
                   have c := ih2 hq (e_must (x := [41]) (ts := ts) he) (show _ = s.nodes by rw [nodes_must, nodes_down])
                   show mN (pMust ts [41] q.2).nodes x + q.1.count x = _
                   rw [nodes_must]
                   exact c
                 · simp only [Option.some.injEq] at h; subst h; exact (e_fail (by decide) he).elim
  | factor =>
   simp only [run] at h
   simp only [pendT, List.count_nil]
   have go : ∀ {k}, ((run src ts n .factor (pGo (pDown ts s))).map fun r => pPut k (pLine src ts s) 0 [] r.1 (pUp r.2)) = some r → mN r.2.nodes x + r.1.count x = mN s.nodes x + 0 := fun h => by
     simp only [Option.map_eq_some_iff] at h
     obtain ⟨q, hq, rfl⟩ := h
     have c := ih2 hq he (show (pDown ts s).nodes = s.nodes from nodes_down s)
     rw [mN_put, nodes_up]
     simp only [pendT, List.count_nil] at c
     omega
   split at h
   · exact go h
   · split at h
     · exact go h
     · exact ih _ _ _ h he x
  | chain lv =>
   simp only [run] at h
   simp only [pendT, List.count_nil]
   split at h
   · exact ih _ _ _ h he x
   · simp only [Option.bind_eq_some_iff] at h
     obtain ⟨q, hq, h⟩ := h
     have hq1 := run_one _ _ _ _ hq trivial
     have c := ih2 hq (run_e h he) rfl
     have h9 := ih _ _ _ h he x
     simp only [pendT, List.count_nil] at c h9
     rw [hq1] at c
     have e2 : [q.1.headD 0] = [oneOf q.1] := rfl
     rw [e2] at h9
     omega
  | more lv line y =>
   simp only [run] at h
   simp only [pendT]
   split at h
   · simp only [Option.some.injEq] at h; subst h; rfl
   · simp only [Option.bind_eq_some_iff] at h
     obtain ⟨q, hq, h⟩ := h
     have hq1 := run_one _ _ _ _ hq trivial
     have key : q.2.e = 0 → mN (pPut 9 line 0 (pNext ts lv s) [y, q.1.headD 0] q.2).2.nodes x + (pPut 9 line 0 (pNext ts lv s) [y, q.1.headD 0] q.2).1.count x = mN s.nodes x + [y].count x := fun e1 => by
       have c := ih2 hq e1 (show (pGo s).nodes = s.nodes from rfl)
       simp only [pendT, List.count_nil] at c
       rw [mN_put]
       have e3 : [y, q.1.headD 0].count x = [y].count x + [oneOf q.1].count x := List.count_append (l₁ := [y]) (l₂ := [oneOf q.1])
       rw [hq1] at c
       omega
     split at h
     · simp only [Option.some.injEq] at h; subst h
       exact key he
     · have e5 := run_e h he
       have h5 := key e5
       have h9 := ih _ _ _ h he x
       simp only [pendT] at h9
       have e4 : [(pPut 9 line 0 (pNext ts lv s) [y, q.1.headD 0] q.2).1.headD 0] = (pPut 9 line 0 (pNext ts lv s) [y, q.1.headD 0] q.2).1 := rfl
       rw [e4] at h9
       omega
  | args l =>
   simp only [run, Option.bind_eq_some_iff] at h
   simp only [pendT]
   obtain ⟨q, hq, h⟩ := h
   split at h
   · have e1 := run_e h he
     have c := ih2 hq e1 rfl
     have h9 := ih _ _ _ h he x
     simp only [pendT, List.count_nil, List.count_append, nodes_go] at c h9
     omega
   · simp only [Option.some.injEq] at h; subst h
     have c := ih2 hq he rfl
     simp only [pendT, List.count_nil] at c
     show mN q.2.nodes x + (l ++ q.1).count x = _
     rw [List.count_append]
     omega
  | call =>
   simp only [run, Option.map_eq_some_iff] at h
   simp only [pendT, List.count_nil]
   obtain ⟨q, hq, rfl⟩ := h
   have e1 : q.2.e = 0 := e_must (x := [41]) (ts := ts) he
   have hn : (pMust ts [40] (pNamed ts s)).nodes = s.nodes := by rw [nodes_must, nodes_named]
   have key : mN q.2.nodes x + q.1.count x = mN s.nodes x := by
     split at hq
     · have c := ih2 hq e1 hn
       simp only [pendT, List.count_nil] at c
       exact c
     · simp only [Option.some.injEq] at hq; subst hq
       show mN (pMust ts [40] (pNamed ts s)).nodes x + 0 = _
       rw [hn]; rfl
   rw [mN_put, nodes_must]
   omega
  | right =>
   simp only [run] at h
   simp only [pendT, List.count_nil]
   split at h
   · simp only [Option.some.injEq] at h; subst h; exact put0 _ _ _ _ (pGo s)
   · split at h
     · simp only [Option.map_eq_some_iff] at h
       obtain ⟨q, hq, rfl⟩ := h
       have c := ih2 hq (e_must (x := [41]) (ts := ts) he) (show _ = s.nodes by rw [nodes_must]; rfl)
       simp only [pendT, List.count_nil] at c
       rw [mN_put, nodes_must]
       omega
     · split at h <;> exact ih _ _ _ h he x
  | block =>
   simp only [run] at h
   simp only [pendT, List.count_nil]
   split at h
   · simp only [Option.map_eq_some_iff] at h
     obtain ⟨q, hq, rfl⟩ := h
     have c := ih2 hq (e_must (x := [125]) (ts := ts) he) (show _ = s.nodes by rw [nodes_must, nodes_down])
     simp only [pendT, List.count_nil] at c
     rw [mN_put, nodes_up, nodes_must]
     omega
   · simp only [Option.some.injEq] at h; subst h; exact (e_fail (by decide) he).elim
  | stmts l =>
   simp only [run] at h
   simp only [pendT]
   split at h
   · rename_i h0
     simp only [Option.some.injEq] at h; subst h; exact absurd he h0
   · split at h
     · simp only [Option.some.injEq] at h; subst h; rfl
     · simp only [Option.bind_eq_some_iff] at h
       obtain ⟨q, hq, h⟩ := h
       have c := ih2 hq (run_e h he) rfl
       have h9 := ih _ _ _ h he x
       simp only [pendT, List.count_nil, List.count_append] at c h9
       omega
  | named line =>
   simp only [run] at h
   simp only [pendT, List.count_nil]
   split at h
   · simp only [Option.map_eq_some_iff] at h
     obtain ⟨q, hq, rfl⟩ := h
     have c := ih2 hq (e_must (x := [59]) (ts := ts) he) rfl
     simp only [pendT, List.count_nil] at c
     rw [mN_put, nodes_must]
     omega
   · split at h
     · simp only [Option.map_eq_some_iff, Option.bind_eq_some_iff] at h
       obtain ⟨q, hq, u, hu, rfl⟩ := h
       have e2 : u.2.e = 0 := e_must (x := [59]) (ts := ts) he
       have e1 : q.2.e = 0 := e_must (ts := ts) (x := [93]) (s := q.2) (e_must (ts := ts) (x := [61]) (s := pUp (pMust ts [93] q.2)) (run_e hu e2))
       have c := ih2 hq e1 (show _ = s.nodes by rw [nodes_must, nodes_down, nodes_named])
       have g := ih2 hu e2 (show (pMust ts [61] (pUp (pMust ts [93] q.2))).nodes = q.2.nodes by rw [nodes_must]; exact nodes_must _ _)
       simp only [pendT, List.count_nil] at c g
       rw [mN_put, nodes_must, List.count_append]
       omega
     · simp only [Option.map_eq_some_iff] at h
       obtain ⟨q, hq, rfl⟩ := h
       have c := ih2 hq (e_must (x := [59]) (ts := ts) he) (show _ = s.nodes by rw [nodes_must, nodes_named])
       simp only [pendT, List.count_nil] at c
       rw [mN_put, nodes_must]
       omega
  | stmt =>
   simp only [run] at h
   simp only [pendT, List.count_nil]
   split at h
   · simp only [Option.map_eq_some_iff] at h
     obtain ⟨q, hq, rfl⟩ := h
     have c := ih2 hq (e_must (x := [59]) (ts := ts) he) (show _ = s.nodes by rw [nodes_must, nodes_named]; rfl)
     simp only [pendT, List.count_nil] at c
     rw [mN_put, nodes_must]
     omega
   · split at h
     · simp only [Option.map_eq_some_iff] at h
       obtain ⟨q, hq, rfl⟩ := h
       have c := ih2 hq (e_must (x := [59]) (ts := ts) he) (show (pGo s).nodes = s.nodes from rfl)
       simp only [pendT, List.count_nil] at c
       rw [mN_put, nodes_must]
       omega
     · split at h
       · simp only [Option.map_eq_some_iff, Option.bind_eq_some_iff] at h
         obtain ⟨q, hq, u, hu, rfl⟩ := h
         have e1 : q.2.e = 0 := run_e hu he
         have c := ih2 hq e1 (show (pGo s).nodes = s.nodes from rfl)
         have g := ih2 hu he rfl
         simp only [pendT, List.count_nil] at c g
         rw [mN_put, List.count_append]
         omega
       · split at h
         · simp only [Option.bind_eq_some_iff] at h
           obtain ⟨q, hq, u, hu, h⟩ := h
           split at h
           · rename_i hx
             simp only [Option.map_eq_some_iff] at h
             obtain ⟨v, hv, rfl⟩ := h
             have e2 : u.2.e = 0 := run_e (s := pGo u.2) hv he
             have e1 : q.2.e = 0 := run_e hu e2
             have c := ih2 hq e1 (show (pGo s).nodes = s.nodes from rfl)
             have g := ih2 hu e2 rfl
             have g2 := ih2 hv he (show (pGo u.2).nodes = u.2.nodes from rfl)
             simp only [pendT, List.count_nil] at c g g2
             rw [mN_put, List.count_append, List.count_append]
             omega
           · simp only [Option.some.injEq] at h; subst h
             have e1 : q.2.e = 0 := run_e hu he
             have c := ih2 hq e1 (show (pGo s).nodes = s.nodes from rfl)
             have g := ih2 hu he rfl
             simp only [pendT, List.count_nil] at c g
             rw [mN_put, List.count_append]
             omega
         · split at h
           · split at h
             · simp only [Option.some.injEq] at h; subst h
               have := put0 17 (pLine src ts s) 0 [] (pMust ts [59] (pGo s))
               rw [nodes_must] at this
               exact this
             · simp only [Option.map_eq_some_iff] at h
               obtain ⟨q, hq, rfl⟩ := h
               have c := ih2 hq (e_must (x := [59]) (ts := ts) he) (show (pGo s).nodes = s.nodes from rfl)
               simp only [pendT, List.count_nil] at c
               rw [mN_put, nodes_must]
               omega
           · exact ih _ _ _ h he x
def bodyN (fs : List FuncM) (x : Nat) : Nat := (fs.map (·.body)).count x
theorem func_par {n : Nat} {s : PS} {fs : FuncM × PS} (h : runFunc src ts n s = some fs) (he : fs.2.e = 0) (x : Nat) : mN fs.2.nodes x + [fs.1.body].count x = mN s.nodes x := by
 simp only [runFunc, Option.bind_eq_some_iff, Option.map_eq_some_iff] at h
 obtain ⟨p, hp, b, hb, rfl⟩ := h
 have hn1 : (pMust ts [40] (pNamed ts (pMust ts [102, 110] s))).nodes = s.nodes := by rw [nodes_must, nodes_named, nodes_must]
 have h2 : p.2.nodes = s.nodes := by
  split at hp
  · rw [params_nodes _ _ _ _ hp, hn1]
  · simp only [Option.some.injEq] at hp
    subst hp; exact hn1
 have hb1 := run_one _ _ _ _ hb trivial
 have c := run_par _ _ _ _ hb he x
 simp only [pendT, List.count_nil] at c
 have hn : (if pIs ts [123] (pMust ts [41] p.2) = true then pMust ts [41] p.2 else pTyped ts (pMust ts [41] p.2)).nodes = s.nodes := by
  split
  · rw [nodes_must, h2]
  · rw [nodes_typed, nodes_must, h2]
 rw [hn] at c
 rw [hb1] at c
 exact c
theorem fns_par : ∀ (n : Nat) (acc : List FuncM) (s : PS) (r : List FuncM × PS), runFns src ts n acc s = some r → r.2.e = 0 → ∀ x, mN r.2.nodes x + bodyN r.1 x = mN s.nodes x + bodyN acc x
 | 0, _, _, _, h, _, _ => by simp [runFns] at h
 | n + 1, acc, s, r, h, he, x => by
  simp only [runFns] at h
  split at h
  · simp only [Option.some.injEq] at h; subst h; rfl
  · split at h
    · simp only [Option.some.injEq] at h; subst h; rfl
    · simp only [Option.bind_eq_some_iff] at h
      obtain ⟨fs, hfs, h⟩ := h
      have c := fns_par n _ _ _ h he x
      have d := func_par hfs ((fns_ext _ _ _ _ h).e0 he) x
      have e : bodyN (acc ++ [fs.1]) x = bodyN acc x + [fs.1.body].count x := by simp [bodyN, List.count_append]
      omega
end
theorem parse_par {src : List UInt8} {ns : List NodeM} {fs : List FuncM} (h : parseM src = some (.good ns fs)) (x : Nat) : parN ns x + bodyN fs x = if x < ns.length then 1 else 0 := by
 unfold parseM at h
 cases hl : lexM src with
 | bad p e => rw [hl] at h; simp at h
 | good ts =>
  rw [hl] at h
  simp only [parseT, Option.map_eq_some_iff] at h
  obtain ⟨q, hq, h⟩ := h
  split at h
  · cases h
  · rename_i h0
    have h0 : q.2.e = 0 := by simpa using h0
    split at h
    · cases h
    · injection h with h1 h2
      subst h1; subst h2
      have c := fns_par _ _ _ _ hq h0 x
      have e : mN [] x = 1 := by simp [mN, parN]
      rw [e] at c
      have e2 : bodyN [] x = 0 := rfl
      rw [e2] at c
      unfold mN at c
      by_cases hx : q.2.nodes.length ≤ x
      · rw [if_pos hx] at c; rw [if_neg (by omega)]; omega
      · rw [if_neg hx] at c; rw [if_pos (by omega)]; omega
end Pw
end Go.Proofs.YtlbjicjinnnboaaDoor
