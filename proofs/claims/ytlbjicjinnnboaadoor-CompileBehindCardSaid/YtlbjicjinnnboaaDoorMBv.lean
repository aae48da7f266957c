/- MBv: BwA, BwP, BwB. -/
import Derived.Test.YtlbjicjinnnboaaDoorMPw
set_option linter.unusedVariables false
set_option linter.unusedSimpArgs false
/- ParseBelow: lines rise from what is above to what is below. Printed by wip/tools/mkbelow.py. -/
namespace Go.Proofs.YtlbjicjinnnboaaDoor
open Go.RowKit
namespace Pw
def LK (ns : List NodeM) (L x : Nat) : Prop := ∃ c, ns[x]? = some c ∧ L ≤ c.line
theorem LK.mono {ns : List NodeM} {L x : Nat} (h : LK ns L x) (y : List NodeM) : LK (ns ++ y) L x := by
 obtain ⟨c, hc, hk⟩ := h
 exact ⟨c, by rw [List.getElem?_append_left (List.getElem?_eq_some_iff.1 hc).1]; exact hc, hk⟩
theorem LK.ext {s t : PS} {L x : Nat} (h : LK s.nodes L x) (e : Ext s t) : LK t.nodes L x := by
 obtain ⟨y, hy⟩ := e.nodes
 rw [hy]; exact h.mono y
theorem LK.le {ns : List NodeM} {L M x : Nat} (h : LK ns L x) (hm : M ≤ L) : LK ns M x := by
 obtain ⟨c, hc, hk⟩ := h
 exact ⟨c, hc, Nat.le_trans hm hk⟩
def LinesOk (ns : List NodeM) : Prop := ∀ (i : Nat) (nd : NodeM), ns[i]? = some nd → ∀ x ∈ nd.l, LK ns nd.line x
theorem LinesOk.snoc {ns : List NodeM} {nd : NodeM} (h : LinesOk ns) (hn : ∀ x ∈ nd.l, LK ns nd.line x) : LinesOk (ns ++ [nd]) := by
 intro i x hx
 by_cases hi : i < ns.length
 · rw [List.getElem?_append_left hi] at hx
   exact fun y hy => (h i x hx y hy).mono _
 · rw [List.getElem?_append_right (by omega)] at hx
   by_cases he : i = ns.length
   · subst he
     rw [Nat.sub_self] at hx
     simp at hx
     subst hx
     exact fun y hy => (hn y hy).mono _
   · rw [List.getElem?_eq_none (by simp; omega)] at hx; cases hx
def AllL (ns : List NodeM) (L : Nat) (l : List Nat) : Prop := ∀ a ∈ l, LK ns L a
theorem AllL.ext {s t : PS} {L : Nat} {l : List Nat} (h : AllL s.nodes L l) (e : Ext s t) : AllL t.nodes L l := fun a ha => (h a ha).ext e
theorem AllL.le {ns : List NodeM} {L M : Nat} {l : List Nat} (h : AllL ns L l) (hm : M ≤ L) : AllL ns M l := fun a ha => (h a ha).le hm
theorem AllL.app {ns : List NodeM} {L : Nat} {l m : List Nat} (h : AllL ns L l) (g : AllL ns L m) : AllL ns L (l ++ m) := fun a ha => (List.mem_append.1 ha).elim (h a) (g a)
theorem AllL.nil (ns : List NodeM) (L : Nat) : AllL ns L [] := fun a ha => by cases ha
def LOk (ns : List NodeM) (L : Nat) (l : List Nat) : Prop := LinesOk ns ∧ AllL ns L l
theorem put_ln {k line n L : Nat} {name : List UInt8} {l : List Nat} {s : PS} (h : LinesOk s.nodes) (hn : AllL s.nodes line l) (hL : L ≤ line) : LOk (pPut k line n name l s).2.nodes L (pPut k line n name l s).1 :=
 ⟨h.snoc hn, fun a ha => by rw [List.mem_singleton.1 ha]; exact ⟨⟨k, line, n, name, l⟩, by show (s.nodes ++ [_])[s.nodes.length]? = _; simp, hL⟩⟩
section
variable {src : List UInt8} {ts : List Tok}
def MonoT (src : List UInt8) (ts : List Tok) : Prop := ∀ i j, i ≤ j → j < ts.length → lineN src (ts.getD i tok0).place ≤ lineN src (ts.getD j tok0).place
theorem pl_mono (hm : MonoT src ts) {s t : PS} (h : Ext s t) (ht : PSOk ts t) : pLine src ts s ≤ pLine src ts t := hm _ _ h.i ht.room
def preL (src : List UInt8) (ts : List Tok) (k : Task) (L : Nat) (s : PS) : Prop := match k with
 | .more _ line x => L ≤ line ∧ line ≤ pLine src ts s ∧ LK s.nodes line x
 | .args l => AllL s.nodes L l
 | .stmts l => AllL s.nodes L l
 | .named line => L ≤ line ∧ line ≤ pLine src ts s
 | _ => True
theorem run_ln (hm : MonoT src ts) (ht : ToksOk ts) : ∀ (n : Nat) (k : Task) (s : PS) (r : List Nat × PS), run src ts n k s = some r → PSOk ts s → r.2.e = 0 → LinesOk s.nodes → ∀ L, L ≤ pLine src ts s → preL src ts k L s → LOk r.2.nodes L r.1 := by
 intro n
 induction n with
 | zero => intro k s r h; simp [run] at h
 | succ n ih =>
  intro k s r h hs he hw L hL hp
  have ih2 : ∀ {k : Task} {t : PS} {r : List Nat × PS} {ns : List NodeM}, run src ts n k t = some r → PSOk ts t → r.2.e = 0 → t.nodes = ns → LinesOk ns → Ext s t → preL src ts k (pLine src ts s) t → LOk r.2.nodes (pLine src ts s) r.1 := fun h1 h2 h3 h4 h5 h6 h7 => ih _ _ _ h1 h2 h3 (by rw [h4]; exact h5) _ (pl_mono hm h6 h2) h7
  have HM := hid hm
  cases k with
  | atom =>
   simp only [run] at h
   split at h
   · rename_i h0
     simp only [Option.some.injEq] at h; subst h; exact absurd he h0
   · rename_i h0
     have h0 : s.e = 0 := by simpa using h0
     split at h
     · simp only [Option.some.injEq] at h; subst h
       exact put_ln hw (AllL.nil _ _) hL
     · split at h
       · simp only [Option.some.injEq] at h; subst h; exact put_ln hw (AllL.nil _ _) hL
       · split at h
         · rename_i h3
           split at h
           · rename_i hx
             simp only [Option.map_eq_some_iff] at h
             obtain ⟨q, hq, rfl⟩ := h
             have e1 : q.2.e = 0 := ((Ext.refl q.2).must (ts := ts) [93]).e0 he
             obtain ⟨a, b⟩ := ih2 hq (((hs.goKind ht h3 (by omega)).down ht h0).must ht _) e1 (by rw [nodes_must, nodes_down]; rfl) hw (by repeat (first | exact Ext.refl _ | apply Ext.must | apply Ext.go | apply Ext.down | apply Ext.up | apply Ext.named | apply Ext.typed)) trivial
             refine put_ln (s := pUp (pMust ts [93] q.2)) (by show LinesOk (pMust ts [93] q.2).nodes; rw [nodes_must]; exact a) ?_ hL
             show AllL (pMust ts [93] q.2).nodes _ _
             rw [nodes_must]; exact b
           · simp only [Option.some.injEq] at h; subst h; exact put_ln hw (AllL.nil _ _) hL
         · split at h
           · simp only [Option.some.injEq] at h; subst h; exact put_ln hw (AllL.nil _ _) hL
           · split at h
             · simp only [Option.some.injEq] at h; subst h; exact put_ln hw (AllL.nil _ _) hL
             · split at h
               · rename_i hl
                 split at h
                 · simp only [Option.map_eq_some_iff] at h
                   obtain ⟨q, hq, rfl⟩ := h
                   have e1 : q.2.e = 0 := ((Ext.refl q.2).must (ts := ts) [41]).e0 he
                   obtain ⟨a, b⟩ := ih2 hq (((hs.goIs ht hl).down ht h0).must ht _) e1 (by rw [nodes_must, nodes_down]; rfl) hw (by repeat (first | exact Ext.refl _ | apply Ext.must | apply Ext.go | apply Ext.down | apply Ext.up | apply Ext.named | apply Ext.typed)) trivial
                   refine put_ln (s := pUp (pMust ts [41] q.2)) (by show LinesOk (pMust ts [41] q.2).nodes; rw [nodes_must]; exact a) ?_ hL
                   show AllL (pMust ts [41] q.2).nodes _ _
                   rw [nodes_must]; exact b
                 · simp only [Option.some.injEq] at h; subst h; exact (e_fail (by decide) he).elim
               · split at h
                 · simp only [Option.map_eq_some_iff] at h
                   obtain ⟨q, hq, rfl⟩ := h
                   have e1 : q.2.e = 0 := ((Ext.refl q.2).must (ts := ts) [41]).e0 he
                   obtain ⟨a, b⟩ := ih2 hq ((hs.down ht h0).must ht _) e1 (by rw [nodes_must, nodes_down]) hw (by repeat (first | exact Ext.refl _ | apply Ext.must | apply Ext.go | apply Ext.down | apply Ext.up | apply Ext.named | apply Ext.typed)) trivial
                   refine ⟨by show LinesOk (pMust ts [41] q.2).nodes; rw [nodes_must]; exact a, ?_⟩
                   show AllL (pMust ts [41] q.2).nodes _ _
                   rw [nodes_must]; exact b.le hL
                 · simp only [Option.some.injEq] at h; subst h; exact (e_fail (by decide) he).elim
  | factor =>
   simp only [run] at h
   split at h
   · rename_i hx
     simp only [Option.map_eq_some_iff] at h
     obtain ⟨q, hq, rfl⟩ := h
     obtain ⟨a, b⟩ := ih2 hq (hs.goDown ht hx) he (show (pDown ts s).nodes = s.nodes from nodes_down s) hw (by repeat (first | exact Ext.refl _ | apply Ext.must | apply Ext.go | apply Ext.down | apply Ext.up | apply Ext.named | apply Ext.typed)) trivial
     exact put_ln (s := pUp q.2) a b hL
   · split at h
     · rename_i hx
       simp only [Option.map_eq_some_iff] at h
       obtain ⟨q, hq, rfl⟩ := h
       obtain ⟨a, b⟩ := ih2 hq (hs.goDown ht hx) he (show (pDown ts s).nodes = s.nodes from nodes_down s) hw (by repeat (first | exact Ext.refl _ | apply Ext.must | apply Ext.go | apply Ext.down | apply Ext.up | apply Ext.named | apply Ext.typed)) trivial
       exact put_ln (s := pUp q.2) a b hL
     · exact ih _ _ _ h hs he hw L hL trivial
  | chain lv =>
   simp only [run] at h
   split at h
   · exact ih _ _ _ h hs he hw L hL trivial
   · simp only [Option.bind_eq_some_iff] at h
     obtain ⟨q, hq, h⟩ := h
     have hq1 := run_one _ _ _ _ hq trivial
     have e1 : q.2.e = 0 := (run_ext _ _ _ _ h).e0 he
     obtain ⟨a, b⟩ := ih2 hq hs e1 rfl hw (Ext.refl s) trivial
     have hok := run_ok ht _ _ _ _ hq hs
     have hle := pl_mono hm (run_ext _ _ _ _ hq) hok
     have hx : LK q.2.nodes (pLine src ts s) (q.1.headD 0) := b _ (by rw [hq1]; exact List.mem_singleton.2 rfl)
     exact ih _ _ _ h hok he a L (Nat.le_trans hL hle) ⟨hL, hle, hx⟩
  | more lv line x =>
   obtain ⟨hp1, hp2, hp3⟩ := hp
   simp only [run] at h
   split at h
   · simp only [Option.some.injEq] at h; subst h
     exact ⟨hw, fun a ha => by rw [List.mem_singleton.1 ha]; exact hp3.le hp1⟩
   · rename_i hx
     simp only [Option.bind_eq_some_iff] at h
     obtain ⟨q, hq, h⟩ := h
     have hq1 := run_one _ _ _ _ hq trivial
     have hok := run_ok ht _ _ _ _ hq (hs.goNext ht hx)
     have hgo : Ext s (pGo s) := (Ext.refl s).go
     have hkx : LK q.2.nodes line x := LK.ext (s := pGo s) hp3 (run_ext _ _ _ _ hq)
     have kids : AllL q.2.nodes (pLine src ts s) q.1 → AllL q.2.nodes line [x, q.1.headD 0] := fun b y hy => by
       rcases List.mem_cons.1 hy with hy | hy
       · rw [hy]; exact hkx
       · rw [List.mem_singleton.1 hy]
         exact (b _ (by rw [hq1]; exact List.mem_singleton.2 rfl)).le hp2
     split at h
     · simp only [Option.some.injEq] at h; subst h
       obtain ⟨a, b⟩ := ih2 hq (hs.goNext ht hx) he (show (pGo s).nodes = s.nodes from rfl) hw hgo trivial
       exact put_ln a (kids b) hp1
     · have e1 : q.2.e = 0 := (run_ext _ _ _ _ h).e0 he
       obtain ⟨a, b⟩ := ih2 hq (hs.goNext ht hx) e1 (show (pGo s).nodes = s.nodes from rfl) hw hgo trivial
       obtain ⟨c, d⟩ := put_ln (k := 9) (line := line) (n := 0) (name := pNext ts lv s) (L := line) a (kids b) (Nat.le_refl _)
       have hok2 := hok.put 9 line 0 (pNext ts lv s) [x, q.1.headD 0]
       have hle : pLine src ts s ≤ pLine src ts (pPut 9 line 0 (pNext ts lv s) [x, q.1.headD 0] q.2).2 := pl_mono hm ((hgo.trans (run_ext _ _ _ _ hq)).put 9 line 0 (pNext ts lv s) [x, q.1.headD 0]) hok2
       exact ih _ _ _ h hok2 he c L (Nat.le_trans hL hle) ⟨hp1, Nat.le_trans hp2 hle, d _ (List.mem_singleton.2 rfl)⟩
  | args l =>
   simp only [run, Option.bind_eq_some_iff] at h
   obtain ⟨q, hq, h⟩ := h
   have hok := run_ok ht _ _ _ _ hq hs
   have hle := run_ext _ _ _ _ hq
   split at h
   · rename_i hx
     have e1 : q.2.e = 0 := (pIs_kind hx).1
     obtain ⟨a, b⟩ := ih2 hq hs e1 rfl hw (Ext.refl s) trivial
     exact ih _ _ _ h (hok.goIs ht hx) he a L (Nat.le_trans hL (pl_mono hm hle.go (hok.goIs ht hx))) (show AllL q.2.nodes L (l ++ q.1) from (AllL.ext (s := s) hp hle).app (b.le hL))
   · simp only [Option.some.injEq] at h; subst h
     obtain ⟨a, b⟩ := ih2 hq hs he rfl hw (Ext.refl s) trivial
     exact ⟨a, (AllL.ext (s := s) hp hle).app (b.le hL)⟩
  | call =>
   simp only [run, Option.map_eq_some_iff] at h
   obtain ⟨q, hq, rfl⟩ := h
   have e1 : q.2.e = 0 := ((Ext.refl q.2).must (ts := ts) [41]).e0 he
   have hw2 : LinesOk (pMust ts [40] (pNamed ts s)).nodes := by rw [nodes_must, nodes_named]; exact hw
   have key : LOk q.2.nodes (pLine src ts s) q.1 := by
     split at hq
     · exact ih2 hq ((hs.named ht).must ht _) e1 rfl hw2 (by repeat (first | exact Ext.refl _ | apply Ext.must | apply Ext.go | apply Ext.down | apply Ext.up | apply Ext.named | apply Ext.typed)) (AllL.nil _ _)
     · simp only [Option.some.injEq] at hq; subst hq
       exact ⟨hw2, AllL.nil _ _⟩
   refine put_ln (s := pMust ts [41] q.2) (by rw [nodes_must]; exact key.1) ?_ hL
   rw [nodes_must]; exact key.2
  | right =>
   simp only [run] at h
   split at h
   · simp only [Option.some.injEq] at h; subst h; exact put_ln hw (AllL.nil _ _) hL
   · split at h
     · rename_i hx
       simp only [Option.map_eq_some_iff] at h
       obtain ⟨q, hq, rfl⟩ := h
       have e1 : q.2.e = 0 := ((Ext.refl q.2).must (ts := ts) [41]).e0 he
       obtain ⟨a, b⟩ := ih2 hq ((hs.goIs ht hx).must ht _) e1 (by rw [nodes_must]; rfl) hw (by repeat (first | exact Ext.refl _ | apply Ext.must | apply Ext.go | apply Ext.down | apply Ext.up | apply Ext.named | apply Ext.typed)) trivial
       refine put_ln (s := pMust ts [41] q.2) (by rw [nodes_must]; exact a) ?_ hL
       rw [nodes_must]; exact b
     · split at h
       · exact ih _ _ _ h hs he hw L hL trivial
       · exact ih _ _ _ h hs he hw L hL trivial
  | block =>
   simp only [run] at h
   split at h
   · rename_i hx
     simp only [Option.map_eq_some_iff] at h
     obtain ⟨q, hq, rfl⟩ := h
     have e1 : q.2.e = 0 := ((Ext.refl q.2).must (ts := ts) [125]).e0 he
     obtain ⟨a, b⟩ := ih2 hq ((hs.downIs ht hx).must ht _) e1 (by rw [nodes_must, nodes_down]) hw (by repeat (first | exact Ext.refl _ | apply Ext.must | apply Ext.go | apply Ext.down | apply Ext.up | apply Ext.named | apply Ext.typed)) (AllL.nil _ _)
     refine put_ln (s := pUp (pMust ts [125] q.2)) (by show LinesOk (pMust ts [125] q.2).nodes; rw [nodes_must]; exact a) ?_ hL
     show AllL (pMust ts [125] q.2).nodes _ _
     rw [nodes_must]; exact b
   · simp only [Option.some.injEq] at h; subst h; exact (e_fail (by decide) he).elim
  | stmts l =>
   simp only [run] at h
   split at h
   · rename_i h0
     simp only [Option.some.injEq] at h; subst h; exact absurd he h0
   · split at h
     · simp only [Option.some.injEq] at h; subst h; exact ⟨hw, hp⟩
     · simp only [Option.bind_eq_some_iff] at h
       obtain ⟨q, hq, h⟩ := h
       have e1 : q.2.e = 0 := (run_ext _ _ _ _ h).e0 he
       obtain ⟨a, b⟩ := ih2 hq hs e1 rfl hw (Ext.refl s) trivial
       have hle := run_ext _ _ _ _ hq
       have hok := run_ok ht _ _ _ _ hq hs
       exact ih _ _ _ h hok he a L (Nat.le_trans hL (pl_mono hm hle hok)) (show AllL q.2.nodes L (l ++ q.1) from (AllL.ext (s := s) hp hle).app (b.le hL))
  | named line =>
   obtain ⟨hp1, hp2⟩ := hp
   simp only [run] at h
   split at h
   · simp only [Option.map_eq_some_iff] at h
     obtain ⟨q, hq, rfl⟩ := h
     have e1 : q.2.e = 0 := ((Ext.refl q.2).must (ts := ts) [59]).e0 he
     obtain ⟨a, b⟩ := ih2 hq hs e1 rfl hw (Ext.refl s) trivial
     refine put_ln (s := pMust ts [59] q.2) (by rw [nodes_must]; exact a) ?_ hp1
     rw [nodes_must]; exact b.le hp2
   · split at h
     · rename_i hx
       simp only [Option.map_eq_some_iff, Option.bind_eq_some_iff] at h
       obtain ⟨q, hq, u, hu, rfl⟩ := h
       have e2 : u.2.e = 0 := ((Ext.refl u.2).must (ts := ts) [59]).e0 he
       have hx2 := ((((Ext.refl q.2).must (ts := ts) [93]).up).must (ts := ts) [61])
       have e1 : q.2.e = 0 := hx2.e0 ((run_ext _ _ _ _ hu).e0 e2)
       have hsn : PSOk ts (pNamed ts s) := hs.named ht
       have hxs : Ext s (pMust ts [91] (pDown ts (pNamed ts s))) := (by repeat (first | exact Ext.refl _ | apply Ext.must | apply Ext.go | apply Ext.down | apply Ext.up | apply Ext.named | apply Ext.typed))
       obtain ⟨a, b⟩ := ih2 hq ((hsn.downIs ht hx).must ht _) e1 (by rw [nodes_must, nodes_down, nodes_named]) hw hxs trivial
       have hokq := run_ok ht _ _ _ _ hq ((hsn.downIs ht hx).must ht _)
       obtain ⟨c, d⟩ := ih2 hu (((hokq.must ht _).up).must ht _) e2 (show (pMust ts [61] (pUp (pMust ts [93] q.2))).nodes = q.2.nodes by rw [nodes_must]; exact nodes_must _ _) a ((hxs.trans (run_ext _ _ _ _ hq)).trans hx2) trivial
       refine put_ln (s := pMust ts [59] u.2) (by rw [nodes_must]; exact c) ?_ hp1
       rw [nodes_must]
       exact ((AllL.ext (s := q.2) b (hx2.trans (run_ext _ _ _ _ hu))).app d).le hp2
     · simp only [Option.map_eq_some_iff] at h
       obtain ⟨q, hq, rfl⟩ := h
       have e1 : q.2.e = 0 := ((Ext.refl q.2).must (ts := ts) [59]).e0 he
       obtain ⟨a, b⟩ := ih2 hq ((hs.named ht).must ht _) e1 (by rw [nodes_must, nodes_named]) hw (by repeat (first | exact Ext.refl _ | apply Ext.must | apply Ext.go | apply Ext.down | apply Ext.up | apply Ext.named | apply Ext.typed)) trivial
       refine put_ln (s := pMust ts [59] q.2) (by rw [nodes_must]; exact a) ?_ hp1
       rw [nodes_must]; exact b.le hp2
  | stmt =>
   simp only [run] at h
   split at h
   · rename_i hwd
     simp only [Option.map_eq_some_iff] at h
     obtain ⟨q, hq, rfl⟩ := h
     have e1 : q.2.e = 0 := ((Ext.refl q.2).must (ts := ts) [59]).e0 he
     obtain ⟨a, b⟩ := ih2 hq (((hs.goWord ht hwd (by simp)).named ht).must ht _) e1 (by rw [nodes_must, nodes_named]; rfl) hw (by repeat (first | exact Ext.refl _ | apply Ext.must | apply Ext.go | apply Ext.down | apply Ext.up | apply Ext.named | apply Ext.typed)) trivial
     refine put_ln (s := pMust ts [59] q.2) (by rw [nodes_must]; exact a) ?_ hL
     rw [nodes_must]; exact b
   · split at h
     · rename_i hwd
       simp only [Option.map_eq_some_iff] at h
       obtain ⟨q, hq, rfl⟩ := h
       have e1 : q.2.e = 0 := ((Ext.refl q.2).must (ts := ts) [59]).e0 he
       obtain ⟨a, b⟩ := ih2 hq (hs.goWord ht hwd (by simp)) e1 (show (pGo s).nodes = s.nodes from rfl) hw (by repeat (first | exact Ext.refl _ | apply Ext.must | apply Ext.go | apply Ext.down | apply Ext.up | apply Ext.named | apply Ext.typed)) trivial
       refine put_ln (s := pMust ts [59] q.2) (by rw [nodes_must]; exact a) ?_ hL
       rw [nodes_must]; exact b
     · split at h
       · rename_i hwd
         simp only [Option.map_eq_some_iff, Option.bind_eq_some_iff] at h
         obtain ⟨q, hq, u, hu, rfl⟩ := h
         have e1 : q.2.e = 0 := (run_ext _ _ _ _ hu).e0 he
         have hxs : Ext s (pGo s) := (Ext.refl s).go
         obtain ⟨a, b⟩ := ih2 hq (hs.goWord ht hwd (by simp)) e1 (show (pGo s).nodes = s.nodes from rfl) hw hxs trivial
         obtain ⟨c, d⟩ := ih2 hu (run_ok ht _ _ _ _ hq (hs.goWord ht hwd (by simp))) he rfl a (hxs.trans (run_ext _ _ _ _ hq)) trivial
         exact put_ln (s := u.2) c ((AllL.ext (s := q.2) b (run_ext _ _ _ _ hu)).app d) hL
       · split at h
         · rename_i hwd
           simp only [Option.bind_eq_some_iff] at h
           obtain ⟨q, hq, u, hu, h⟩ := h
           have hokq := run_ok ht _ _ _ _ hq (hs.goWord ht hwd (by simp))
           have hoku := run_ok ht _ _ _ _ hu hokq
           have hxs : Ext s (pGo s) := (Ext.refl s).go
           have hxq := hxs.trans (run_ext _ _ _ _ hq)
           have hxu := hxq.trans (run_ext _ _ _ _ hu)
           split at h
           · rename_i hx
             simp only [Option.map_eq_some_iff] at h
             obtain ⟨v, hv, rfl⟩ := h
             have e2 : u.2.e = 0 := (pIs_kind hx).1
             have e1 : q.2.e = 0 := (run_ext _ _ _ _ hu).e0 e2
             obtain ⟨a, b⟩ := ih2 hq (hs.goWord ht hwd (by simp)) e1 (show (pGo s).nodes = s.nodes from rfl) hw hxs trivial
             obtain ⟨c, d⟩ := ih2 hu hokq e2 rfl a hxq trivial
             obtain ⟨f, g⟩ := ih2 hv (hoku.goIs ht hx) he (show (pGo u.2).nodes = u.2.nodes from rfl) c hxu.go trivial
             have e3 : Ext u.2 v.2 := ((Ext.refl u.2).go).trans (run_ext _ _ _ _ hv)
             exact put_ln (s := v.2) f (((AllL.ext (s := u.2) ((AllL.ext (s := q.2) b (run_ext _ _ _ _ hu)).app d) e3)).app g) hL
           · simp only [Option.some.injEq] at h; subst h
             have e1 : q.2.e = 0 := (run_ext _ _ _ _ hu).e0 he
             obtain ⟨a, b⟩ := ih2 hq (hs.goWord ht hwd (by simp)) e1 (show (pGo s).nodes = s.nodes from rfl) hw hxs trivial
             obtain ⟨c, d⟩ := ih2 hu hokq he rfl a hxq trivial
             exact put_ln (s := u.2) c ((AllL.ext (s := q.2) b (run_ext _ _ _ _ hu)).app d) hL
         · split at h
           · rename_i hwd
             split at h
             · simp only [Option.some.injEq] at h; subst h
               exact put_ln (s := pMust ts [59] (pGo s)) (by rw [nodes_must]; exact hw) (AllL.nil _ _) hL
             · simp only [Option.map_eq_some_iff] at h
               obtain ⟨q, hq, rfl⟩ := h
               have e1 : q.2.e = 0 := ((Ext.refl q.2).must (ts := ts) [59]).e0 he
               obtain ⟨a, b⟩ := ih2 hq (hs.goWord ht hwd (by simp)) e1 (show (pGo s).nodes = s.nodes from rfl) hw (by repeat (first | exact Ext.refl _ | apply Ext.must | apply Ext.go | apply Ext.down | apply Ext.up | apply Ext.named | apply Ext.typed)) trivial
               refine put_ln (s := pMust ts [59] q.2) (by rw [nodes_must]; exact a) ?_ hL
               rw [nodes_must]; exact b
           · exact ih _ _ _ h hs he hw L hL ⟨hL, Nat.le_refl _⟩
end
end Pw
namespace Pw
inductive Pst : List NodeM → List Nat → Prop where
 | nil : Pst [] []
 | put (ns : List NodeM) (st : List Nat) (nd : NodeM) (h : Pst ns (st ++ nd.l)) : Pst (ns ++ [nd]) (st ++ [ns.length])
theorem Pst.lt {ns : List NodeM} {st : List Nat} (h : Pst ns st) : ∀ a ∈ st, a < ns.length := by
 induction h with
 | nil => intro a ha; cases ha
 | put ns st nd h ih =>
  intro a ha
  rw [List.length_append, List.length_singleton]
  rcases List.mem_append.1 ha with ha | ha
  · have := ih a (List.mem_append_left _ ha); omega
  · rw [List.mem_singleton.1 ha]; omega
section
variable {src : List UInt8} {ts : List Tok}
theorem pst_put {s : PS} {st : List Nat} {k line n : Nat} {name : List UInt8} {l : List Nat} (h : Pst s.nodes (st ++ l)) : Pst (pPut k line n name l s).2.nodes (st ++ (pPut k line n name l s).1) := Pst.put s.nodes st ⟨k, line, n, name, l⟩ h
theorem run_pst : ∀ (n : Nat) (k : Task) (s : PS) (r : List Nat × PS), run src ts n k s = some r → r.2.e = 0 → ∀ st, Pst s.nodes (st ++ pendT k) → Pst r.2.nodes (st ++ r.1) := by
 intro n
 induction n with
 | zero => intro k s r h; simp [run] at h
 | succ n ih =>
  intro k s r h he st hp
  have ih2 : ∀ {k : Task} {s : PS} {r : List Nat × PS} {ns : List NodeM} {st : List Nat}, run src ts n k s = some r → r.2.e = 0 → s.nodes = ns → Pst ns (st ++ pendT k) → Pst r.2.nodes (st ++ r.1) := fun h1 h2 h3 h4 => by
   subst h3
   exact ih _ _ _ h1 h2 _ h4
  have put0 : ∀ (k line m : Nat) (name : List UInt8) (t : PS), t.nodes = s.nodes → Pst s.nodes st → Pst (pPut k line m name [] t).2.nodes (st ++ (pPut k line m name [] t).1) := fun k line m name t h1 h2 => pst_put (by rw [h1, List.append_nil]; exact h2)
  cases k with
  | atom =>
   simp only [run] at h
   simp only [pendT, List.append_nil] at hp
   split at h
   · rename_i h0
     simp only [Option.some.injEq] at h; subst h; exact absurd he h0
   · split at h
     · simp only [Option.some.injEq] at h; subst h; exact put0 _ _ _ _ (pGo s) rfl hp
     · split at h
       · simp only [Option.some.injEq] at h; subst h; exact put0 _ _ _ _ (pGo s) rfl hp
       · split at h
         · split at h
           · simp only [Option.map_eq_some_iff] at h
             obtain ⟨q, hq, rfl⟩ := h
             have c := ih2 (st := st) hq (e_must (x := [93]) (ts := ts) he) (show _ = s.nodes by rw [nodes_must, nodes_down]; rfl) (by simpa [pendT] using hp)
             exact pst_put (by rw [nodes_up, nodes_must]; exact c)
           · simp only [Option.some.injEq] at h; subst h; exact put0 _ _ _ _ (pGo s) rfl hp
         · split at h
           · simp only [Option.some.injEq] at h; subst h; exact put0 _ _ _ _ (pGo s) rfl hp
           · split at h
             · simp only [Option.some.injEq] at h; subst h; exact put0 _ _ _ _ (pGo s) rfl hp
             · split at h
               · split at h
                 · simp only [Option.map_eq_some_iff] at h
                   obtain ⟨q, hq, rfl⟩ := h
                   have c := ih2 (st := st) hq (e_must (x := [41]) (ts := ts) he) (show _ = s.nodes by rw [nodes_must, nodes_down]; rfl) (by simpa [pendT] using hp)
                   exact pst_put (by rw [nodes_up, nodes_must]; exact c)
                 · simp only [Option.some.injEq] at h; subst h; exact (e_fail (by decide) he).elim
               · split at h
                 · simp only [Option.map_eq_some_iff] at h
                   obtain ⟨q, hq, rfl⟩ := h
                   have c := ih2 (st := st) hq (e_must (x := [41]) (ts := ts) he) (show _ = s.nodes by rw [nodes_must, nodes_down]) (by simpa [pendT] using hp)
                   show Pst (pMust ts [41] q.2).nodes (st ++ q.1)
                   rw [nodes_must]
                   exact c
                 · simp only [Option.some.injEq] at h; subst h; exact (e_fail (by decide) he).elim
  | factor =>
   simp only [run] at h
   simp only [pendT, List.append_nil] at hp
   have go : ∀ {k}, ((run src ts n .factor (pGo (pDown ts s))).map fun r => pPut k (pLine src ts s) 0 [] r.1 (pUp r.2)) = some r → Pst r.2.nodes (st ++ r.1) := fun h => by
     simp only [Option.map_eq_some_iff] at h
     obtain ⟨q, hq, rfl⟩ := h
     have c := ih2 (st := st) hq he (show (pDown ts s).nodes = s.nodes from nodes_down s) (by simpa [pendT] using hp)
     exact pst_put c
   split at h
   · exact go h
   · split at h
     · exact go h
     · exact ih _ _ _ h he st (by simpa [pendT] using hp)
  | chain lv =>
   simp only [run] at h
   simp only [pendT, List.append_nil] at hp
   split at h
   · exact ih _ _ _ h he st (by simpa [pendT] using hp)
   · simp only [Option.bind_eq_some_iff] at h
     obtain ⟨q, hq, h⟩ := h
     have hq1 := run_one _ _ _ _ hq trivial
     have c := ih2 (st := st) hq (run_e h he) rfl (by simpa [pendT] using hp)
     rw [hq1] at c
     exact ih _ _ _ h he st c
  | more lv line y =>
   simp only [run] at h
   simp only [pendT] at hp
   split at h
   · simp only [Option.some.injEq] at h; subst h; exact hp
   · simp only [Option.bind_eq_some_iff] at h
     obtain ⟨q, hq, h⟩ := h
     have hq1 := run_one _ _ _ _ hq trivial
     have key : q.2.e = 0 → Pst (pPut 9 line 0 (pNext ts lv s) [y, q.1.headD 0] q.2).2.nodes (st ++ (pPut 9 line 0 (pNext ts lv s) [y, q.1.headD 0] q.2).1) := fun e1 => by
       have c := ih2 (st := st ++ [y]) hq e1 (show (pGo s).nodes = s.nodes from rfl) (by simpa [pendT] using hp)
       rw [hq1, List.append_assoc] at c
       exact pst_put c
     split at h
     · simp only [Option.some.injEq] at h; subst h
       exact key he
     · have e5 := run_e h he
       exact ih _ _ _ h he st (key e5)
  | args l =>
   simp only [run, Option.bind_eq_some_iff] at h
   simp only [pendT] at hp
   obtain ⟨q, hq, h⟩ := h
   have key : q.2.e = 0 → Pst q.2.nodes (st ++ (l ++ q.1)) := fun e1 => by
     have c := ih2 (st := st ++ l) hq e1 rfl (by simpa [pendT] using hp)
     rw [List.append_assoc] at c
     exact c
   split at h
   · have e1 := run_e h he
     exact ih _ _ _ h he st (key e1)
   · simp only [Option.some.injEq] at h; subst h
     exact key he
  | call =>
   simp only [run, Option.map_eq_some_iff] at h
   simp only [pendT, List.append_nil] at hp
   obtain ⟨q, hq, rfl⟩ := h
   have e1 : q.2.e = 0 := e_must (x := [41]) (ts := ts) he
   have hn : (pMust ts [40] (pNamed ts s)).nodes = s.nodes := by rw [nodes_must, nodes_named]
   have key : Pst q.2.nodes (st ++ q.1) := by
     split at hq
     · exact ih2 hq e1 hn (by simpa [pendT] using hp)
     · simp only [Option.some.injEq] at hq; subst hq
       show Pst (pMust ts [40] (pNamed ts s)).nodes (st ++ [])
       rw [hn, List.append_nil]; exact hp
   exact pst_put (by rw [nodes_must]; exact key)
  | right =>
   simp only [run] at h
   simp only [pendT, List.append_nil] at hp
   split at h
   · simp only [Option.some.injEq] at h; subst h; exact put0 _ _ _ _ (pGo s) rfl hp
   · split at h
     · simp only [Option.map_eq_some_iff] at h
       obtain ⟨q, hq, rfl⟩ := h
       have c := ih2 (st := st) hq (e_must (x := [41]) (ts := ts) he) (show _ = s.nodes by rw [nodes_must]; rfl) (by simpa [pendT] using hp)
       exact pst_put (by rw [nodes_must]; exact c)
     · split at h <;> exact ih _ _ _ h he st (by simpa [pendT] using hp)
  | block =>
   simp only [run] at h
   simp only [pendT, List.append_nil] at hp
   split at h
   · simp only [Option.map_eq_some_iff] at h
     obtain ⟨q, hq, rfl⟩ := h
     have c := ih2 (st := st) hq (e_must (x := [125]) (ts := ts) he) (show _ = s.nodes by rw [nodes_must, nodes_down]) (by simpa [pendT] using hp)
     exact pst_put (by rw [nodes_up, nodes_must]; exact c)
   · simp only [Option.some.injEq] at h; subst h; exact (e_fail (by decide) he).elim
  | stmts l =>
   simp only [run] at h
   simp only [pendT] at hp
   split at h
   · rename_i h0
     simp only [Option.some.injEq] at h; subst h; exact absurd he h0
   · split at h
     · simp only [Option.some.injEq] at h; subst h; exact hp
     · simp only [Option.bind_eq_some_iff] at h
       obtain ⟨q, hq, h⟩ := h
       have c := ih2 (st := st ++ l) hq (run_e h he) rfl (by simpa [pendT] using hp)
       rw [List.append_assoc] at c
       exact ih _ _ _ h he st c
  | named line =>
   simp only [run] at h
   simp only [pendT, List.append_nil] at hp
   split at h
   · simp only [Option.map_eq_some_iff] at h
     obtain ⟨q, hq, rfl⟩ := h
     have c := ih2 (st := st) hq (e_must (x := [59]) (ts := ts) he) rfl (by simpa [pendT] using hp)
     exact pst_put (by rw [nodes_must]; exact c)
   · split at h
     · simp only [Option.map_eq_some_iff, Option.bind_eq_some_iff] at h
       obtain ⟨q, hq, u, hu, rfl⟩ := h
       have e2 : u.2.e = 0 := e_must (x := [59]) (ts := ts) he
       have e1 : q.2.e = 0 := e_must (ts := ts) (x := [93]) (s := q.2) (e_must (ts := ts) (x := [61]) (s := pUp (pMust ts [93] q.2)) (run_e hu e2))
       have c := ih2 (st := st) hq e1 (show _ = s.nodes by rw [nodes_must, nodes_down, nodes_named]) (by simpa [pendT] using hp)
       have g := ih2 (st := st ++ q.1) hu e2 (show (pMust ts [61] (pUp (pMust ts [93] q.2))).nodes = q.2.nodes by rw [nodes_must]; exact nodes_must _ _) (by simpa [pendT] using c)
       rw [List.append_assoc] at g
       exact pst_put (by rw [nodes_must]; exact g)
     · simp only [Option.map_eq_some_iff] at h
       obtain ⟨q, hq, rfl⟩ := h
       have c := ih2 (st := st) hq (e_must (x := [59]) (ts := ts) he) (show _ = s.nodes by rw [nodes_must, nodes_named]) (by simpa [pendT] using hp)
       exact pst_put (by rw [nodes_must]; exact c)
  | stmt =>
   simp only [run] at h
   simp only [pendT, List.append_nil] at hp
   split at h
   · simp only [Option.map_eq_some_iff] at h
     obtain ⟨q, hq, rfl⟩ := h
     have c := ih2 (st := st) hq (e_must (x := [59]) (ts := ts) he) (show _ = s.nodes by rw [nodes_must, nodes_named]; rfl) (by simpa [pendT] using hp)
     exact pst_put (by rw [nodes_must]; exact c)
   · split at h
     · simp only [Option.map_eq_some_iff] at h
       obtain ⟨q, hq, rfl⟩ := h
       have c := ih2 (st := st) hq (e_must (x := [59]) (ts := ts) he) (show (pGo s).nodes = s.nodes from rfl) (by simpa [pendT] using hp)
       exact pst_put (by rw [nodes_must]; exact c)
     · split at h
       · simp only [Option.map_eq_some_iff, Option.bind_eq_some_iff] at h
         obtain ⟨q, hq, u, hu, rfl⟩ := h
         have e1 : q.2.e = 0 := run_e hu he
         have c := ih2 (st := st) hq e1 (show (pGo s).nodes = s.nodes from rfl) (by simpa [pendT] using hp)
         have g := ih2 (st := st ++ q.1) hu he rfl (by simpa [pendT] using c)
         rw [List.append_assoc] at g
         exact pst_put g
       · split at h
         · simp only [Option.bind_eq_some_iff] at h
           obtain ⟨q, hq, u, hu, h⟩ := h
           split at h
           · simp only [Option.map_eq_some_iff] at h
             obtain ⟨v, hv, rfl⟩ := h
             have e2 : u.2.e = 0 := run_e (s := pGo u.2) hv he
             have e1 : q.2.e = 0 := run_e hu e2
             have c := ih2 (st := st) hq e1 (show (pGo s).nodes = s.nodes from rfl) (by simpa [pendT] using hp)
             have g := ih2 (st := st ++ q.1) hu e2 rfl (by simpa [pendT] using c)
             have g2 := ih2 (st := st ++ q.1 ++ u.1) hv he (show (pGo u.2).nodes = u.2.nodes from rfl) (by simpa [pendT] using g)
             exact pst_put (by rw [← List.append_assoc, ← List.append_assoc]; exact g2)
           · simp only [Option.some.injEq] at h; subst h
             have e1 : q.2.e = 0 := run_e hu he
             have c := ih2 (st := st) hq e1 (show (pGo s).nodes = s.nodes from rfl) (by simpa [pendT] using hp)
             have g := ih2 (st := st ++ q.1) hu he rfl (by simpa [pendT] using c)
             exact pst_put (by rw [← List.append_assoc]; exact g)
         · split at h
           · split at h
             · simp only [Option.some.injEq] at h; subst h
               exact put0 17 (pLine src ts s) 0 [] (pMust ts [59] (pGo s)) (by rw [nodes_must]; rfl) hp
             · simp only [Option.map_eq_some_iff] at h
               obtain ⟨q, hq, rfl⟩ := h
               have c := ih2 (st := st) hq (e_must (x := [59]) (ts := ts) he) (show (pGo s).nodes = s.nodes from rfl) (by simpa [pendT] using hp)
               exact pst_put (by rw [nodes_must]; exact c)
           · exact ih _ _ _ h he st (by simpa [pendT] using hp)
theorem func_pst {n : Nat} {s : PS} {fs : FuncM × PS} (h : runFunc src ts n s = some fs) (he : fs.2.e = 0) {st : List Nat} (hs : Pst s.nodes st) : Pst fs.2.nodes (st ++ [fs.1.body]) := by
 simp only [runFunc, Option.bind_eq_some_iff, Option.map_eq_some_iff] at h
 obtain ⟨p, hp, b, hb, rfl⟩ := h
 have hn1 : (pMust ts [40] (pNamed ts (pMust ts [102, 110] s))).nodes = s.nodes := by rw [nodes_must, nodes_named, nodes_must]
 have h2 : p.2.nodes = s.nodes := by
  split at hp
  · rw [params_nodes _ _ _ _ hp, hn1]
  · simp only [Option.some.injEq] at hp
    subst hp; exact hn1
 have hb1 := run_one _ _ _ _ hb trivial
 have hn : (if pIs ts [123] (pMust ts [41] p.2) = true then pMust ts [41] p.2 else pTyped ts (pMust ts [41] p.2)).nodes = s.nodes := by
  split
  · rw [nodes_must, h2]
  · rw [nodes_typed, nodes_must, h2]
 have c := run_pst _ _ _ _ hb he st (by rw [hn]; simpa [pendT] using hs)
 rw [hb1] at c
 exact c
theorem fns_pst : ∀ (n : Nat) (acc : List FuncM) (s : PS) (r : List FuncM × PS), runFns src ts n acc s = some r → r.2.e = 0 → Pst s.nodes (acc.map (·.body)) → Pst r.2.nodes (r.1.map (·.body))
 | 0, _, _, _, h, _, _ => by simp [runFns] at h
 | n + 1, acc, s, r, h, he, hs => by
  simp only [runFns] at h
  split at h
  · simp only [Option.some.injEq] at h; subst h; exact hs
  · split at h
    · simp only [Option.some.injEq] at h; subst h; exact hs
    · simp only [Option.bind_eq_some_iff] at h
      obtain ⟨fs, hfs, h⟩ := h
      refine fns_pst n _ _ _ h he ?_
      rw [List.map_append]
      exact func_pst hfs ((fns_ext _ _ _ _ h).e0 he) hs
end
end Pw
namespace Pw
theorem lex_sorted : ∀ (n : Nat) (l : List UInt8) (p : Nat) (K : List Tok), l.length ≤ n → lexFrom l p = .good K → (∀ t ∈ K, p ≤ t.place) ∧ K.Pairwise (fun a b => a.place ≤ b.place) := by
 intro n
 induction n with
 | zero =>
  intro l p K hl h
  cases l with
  | nil =>
   rw [lexFrom] at h
   injection h with h
   subst h
   exact ⟨fun t ht => by rw [List.mem_singleton.1 ht]; exact Nat.le_refl _, List.pairwise_singleton _ _⟩
  | cons c r => simp at hl
 | succ n ih =>
  intro l p K hl h
  cases l with
  | nil =>
   rw [lexFrom] at h
   injection h with h
   subst h
   exact ⟨fun t ht => by rw [List.mem_singleton.1 ht]; exact Nat.le_refl _, List.pairwise_singleton _ _⟩
  | cons c r =>
   have hr : r.length ≤ n := by simpa using hl
   rw [lexFrom] at h
   split at h
   · obtain ⟨a, b⟩ := ih _ _ _ hr h
     exact ⟨fun t ht => by have := a t ht; omega, b⟩
   · split at h
     · obtain ⟨a, b⟩ := ih _ _ _ (by rw [List.length_drop]; omega) h
       exact ⟨fun t ht => by have := a t ht; omega, b⟩
     · split at h
       · cases h
       · rename_i k o m q _
         cases hx : lexFrom (r.drop (q - 1)) (p + q) with
         | bad i e => rw [hx] at h; cases h
         | good J =>
          rw [hx] at h
          injection h with h
          subst h
          obtain ⟨a, b⟩ := ih _ _ _ (by rw [List.length_drop]; omega) hx
          refine ⟨fun t ht => ?_, ?_⟩
          · rcases List.mem_append.1 ht with ht | ht
            · rw [List.mem_singleton.1 ht]; exact Nat.le_refl _
            · have := a t ht; omega
          · show List.Pairwise _ (_ :: J)
            exact List.pairwise_cons.2 ⟨fun t ht => by have := a t ht; show p ≤ t.place; omega, b⟩
theorem line_mono (l : List UInt8) (a b : Nat) (h : a ≤ b) : lineN l (a : Nat) ≤ lineN l (b : Nat) := by
 unfold lineN
 have e : l.take a = (l.take b).take a := by rw [List.take_take, Nat.min_eq_left h]
 have := List.Sublist.count_le 10 (List.take_sublist a (l.take b))
 rw [← e] at this
 show 1 + (l.take ((a : Int).toNat)).count 10 ≤ 1 + (l.take ((b : Int).toNat)).count 10
 rw [Int.toNat_natCast, Int.toNat_natCast]
 omega
theorem mono_of {src : List UInt8} {ts : List Tok} (h : lexM src = .good ts) : MonoT src ts := by
 unfold lexM at h
 split at h
 · cases h
 · have hs := (lex_sorted src.length src 0 ts (Nat.le_refl _) h).2
   intro i j hij hj
   apply line_mono
   rw [List.getD, List.getD, List.getElem?_eq_getElem hj, List.getElem?_eq_getElem (show i < ts.length by omega)]
   show ts[i].place ≤ ts[j].place
   by_cases e : i = j
   · subst e; exact Nat.le_refl _
   · exact List.pairwise_iff_getElem.1 hs i j (by omega) hj (by omega)
section
variable {src : List UInt8} {ts : List Tok}
theorem func_ln (hm : MonoT src ts) (ht : ToksOk ts) {n : Nat} {s : PS} {fs : FuncM × PS} (h : runFunc src ts n s = some fs) (hs : PSOk ts s) (he : fs.2.e = 0) (hw : LinesOk s.nodes) : LinesOk fs.2.nodes := by
 simp only [runFunc, Option.bind_eq_some_iff, Option.map_eq_some_iff] at h
 obtain ⟨p, hp, b, hb, rfl⟩ := h
 have h1 : PSOk ts (pMust ts [40] (pNamed ts (pMust ts [102, 110] s))) := ((hs.must ht _).named ht).must ht _
 have hn1 : (pMust ts [40] (pNamed ts (pMust ts [102, 110] s))).nodes = s.nodes := by rw [nodes_must, nodes_named, nodes_must]
 have h2 : PSOk ts p.2 ∧ p.2.nodes = s.nodes := by
   split at hp
   · exact ⟨params_ok ht _ _ _ _ hp h1, by rw [params_nodes _ _ _ _ hp, hn1]⟩
   · simp only [Option.some.injEq] at hp
     subst hp; exact ⟨h1, hn1⟩
 split at hb
 · exact (run_ln hm ht _ _ _ _ hb (h2.1.must ht _) he (by rw [nodes_must, h2.2]; exact hw) _ (Nat.le_refl _) trivial).1
 · exact (run_ln hm ht _ _ _ _ hb ((h2.1.must ht _).typed ht) he (by rw [nodes_typed, nodes_must, h2.2]; exact hw) _ (Nat.le_refl _) trivial).1
theorem fns_ln (hm : MonoT src ts) (ht : ToksOk ts) : ∀ (n : Nat) (acc : List FuncM) (s : PS) (r : List FuncM × PS), runFns src ts n acc s = some r → PSOk ts s → r.2.e = 0 → LinesOk s.nodes → LinesOk r.2.nodes
 | 0, _, _, _, h, _, _, _ => by simp [runFns] at h
 | n + 1, acc, s, r, h, hs, he, hw => by
  simp only [runFns] at h
  split at h
  · simp only [Option.some.injEq] at h; subst h; exact hw
  · split at h
    · simp only [Option.some.injEq] at h; subst h; exact hw
    · simp only [Option.bind_eq_some_iff] at h
      obtain ⟨fs, hfs, h⟩ := h
      have e1 : fs.2.e = 0 := (fns_ext _ _ _ _ h).e0 he
      exact fns_ln hm ht n _ _ _ h (func_ok ht hfs hs).1 he (func_ln hm ht hfs hs e1 hw)
end
theorem Pst.asc {ns : List NodeM} {st : List Nat} (h : Pst ns st) : st.Pairwise (· < ·) ∧ ∀ (i : Nat) (nd : NodeM), ns[i]? = some nd → nd.l.Pairwise (· < ·) := by
 induction h with
 | nil => exact ⟨List.Pairwise.nil, fun i nd h => by simp at h⟩
 | put ns st nd h ih =>
  obtain ⟨a, b⟩ := ih
  obtain ⟨a1, a2, a3⟩ := List.pairwise_append.1 a
  refine ⟨List.pairwise_append.2 ⟨a1, List.pairwise_singleton _ _, fun x hx y hy => ?_⟩, fun i x hx => ?_⟩
  · rw [List.mem_singleton.1 hy]
    exact h.lt x (List.mem_append_left _ hx)
  · by_cases hi : i < ns.length
    · rw [List.getElem?_append_left hi] at hx
      exact b i x hx
    · rw [List.getElem?_append_right (by omega)] at hx
      by_cases he : i = ns.length
      · subst he
        rw [Nat.sub_self] at hx
        simp at hx
        subst hx
        exact a2
      · rw [List.getElem?_eq_none (by simp; omega)] at hx; cases hx
structure Below (ns : List NodeM) (fs : List FuncM) : Prop where
 ok : TreeOk ns fs
 lines : LinesOk ns
 asc : ∀ (i : Nat) (nd : NodeM), ns[i]? = some nd → nd.l.Pairwise (· < ·)
 par : ∀ x, parN ns x + bodyN fs x = if x < ns.length then 1 else 0
theorem parse_below {src : List UInt8} {ns : List NodeM} {fs : List FuncM} (h : parseM src = some (.good ns fs)) : Below ns fs := by
 have h1 := parse_ok h
 have h2 := parse_par h
 unfold parseM at h
 cases hl : lexM src with
 | bad p e => rw [hl] at h; simp at h
 | good ts =>
  rw [hl] at h
  have ht := lexM_toks hl
  simp only [parseT, Option.map_eq_some_iff] at h
  obtain ⟨q, hq, h⟩ := h
  split at h
  · cases h
  · rename_i h0
    have h0 : q.2.e = 0 := by simpa using h0
    split at h
    · cases h
    · injection h with e1 e2
      subst e1; subst e2
      have hs : PSOk ts ⟨0, [], 0, 0, 0⟩ := ⟨ht.pos, by decide, fun _ => by decide, by decide, by decide⟩
      have hp := fns_pst _ _ _ _ hq h0 Pst.nil
      exact ⟨h1, fns_ln (mono_of hl) ht _ _ _ _ hq hs h0 (fun i nd hi => by simp at hi), hp.asc.2, h2⟩
end Pw
end Go.Proofs.YtlbjicjinnnboaaDoor
