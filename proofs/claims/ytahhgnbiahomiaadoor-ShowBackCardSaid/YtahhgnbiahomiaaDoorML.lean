/- ML: BkD, BkG, BkF, BkM, BkS2, BkZ. -/
import Derived.Test.YtahhgnbiahomiaaDoorMK
import Derived.Test.YtahhgnbiahomiaaDoorMI
/- Back: how deep a source is: its tree's text is not deeper. -/
namespace Go.Proofs.YtahhgnbiahomiaaDoor
open Go.RowKit
set_option linter.unusedVariables false
set_option linter.unusedSimpArgs false
section
variable {src : List UInt8} {ts : List Tok} {s t : PS} {q r : List Nat × PS}
theorem deep_typed (s : PS) : (pTyped ts s).deep = s.deep := by
  unfold pTyped; split
  · exact deep_fail 20 s
  · rfl
theorem down_e (h : (pDown ts s).e = 0) : s.deep < 16 := by
  unfold pDown at h
  simp only at h
  split at h
  · exact (e_fail (by decide) h).elim
  · omega
/-- What is asked of a task, and what it comes to. -/
def preD (k : Task) (s : PS) : Prop := match k with
  | .more lv _ x => s.deep + nAt (ndV s.nodes x) (leftLv lv) ≤ 16
  | .args l => ∀ a ∈ l, s.deep + (ndV s.nodes a).1 ≤ 16
  | .stmts l => ∀ a ∈ l, s.deep + (ndV s.nodes a).1 ≤ 16
  | _ => True
def resD (k : Task) (d : Nat) (r : List Nat × PS) : Prop := match k with
  | .chain lv => d + nAt (ndV r.2.nodes (oneOf r.1)) lv ≤ 16
  | .more lv _ _ => d + nAt (ndV r.2.nodes (oneOf r.1)) lv ≤ 16
  | .factor => d + nAt (ndV r.2.nodes (oneOf r.1)) 5 ≤ 16
  | .atom => d + nAt (ndV r.2.nodes (oneOf r.1)) 6 ≤ 16
  | _ => ∀ a ∈ r.1, d + (ndV r.2.nodes a).1 ≤ 16
theorem nd_put (k line n : Nat) (name : List UInt8) (l : List Nat) (s : PS) : ndV (pPut k line n name l s).2.nodes s.nodes.length = ndG (fun i => ndV s.nodes i) ⟨k, line, n, name, l⟩ := valN_snoc _ _ _ _
theorem nd_more {us vs : List NodeM} {y : Nat} (h : y < us.length) : ndV (us ++ vs) y = ndV us y := valN_append _ _ _ _ h
theorem nd_ext {cls : Nat → Bool} {a : Nat} (h : Kid s.nodes cls a) (e : Ext s t) : ndV t.nodes a = ndV s.nodes a := by
  obtain ⟨y, hy⟩ := e.nodes
  rw [hy]; exact nd_more h.lt
theorem nAt_le (v : Nat × Nat) (lv : Nat) : v.1 ≤ nAt v lv ∧ nAt v lv ≤ 1 + v.1 := by unfold nAt; split <;> omega
theorem nAt_mono (v : Nat × Nat) {a b : Nat} (h : a ≤ b) : nAt v a ≤ nAt v b := by unfold nAt; (repeat' split) <;> omega
theorem nAt_self (v : Nat × Nat) {lv : Nat} (h : lv ≤ v.2) : nAt v lv = v.1 := by unfold nAt; rw [if_neg (by omega)]
theorem maxL_le {l : List Nat} {d b : Nat} (h : ∀ a ∈ l, d + a ≤ b) (hd : d ≤ b) : d + maxL l ≤ b := by
  induction l with
  | nil => simpa [maxL] using hd
  | cons a l ih =>
    have := ih fun c hc => h c (List.mem_cons_of_mem _ hc)
    have := h a List.mem_cons_self
    rw [maxL_cons]; omega
theorem next_lv {lv : Nat} (hlv : lv ≤ 4) (h : pNext ts lv s ≠ []) : signLv (pNext ts lv s) = lv := by
  unfold pNext at h ⊢
  cases hf : (signsL lv).find? fun x => pIs ts x s with
  | none => rw [hf] at h; simp at h
  | some x => exact (signsL_lv lv hlv x (List.mem_of_find?_eq_some hf)).2
theorem nd_one (k line n : Nat) (name : List UInt8) (l : List Nat) (s : PS) : ndV (pPut k line n name l s).2.nodes (oneOf (pPut k line n name l s).1) = ndG (fun i => ndV s.nodes i) ⟨k, line, n, name, l⟩ := nd_put k line n name l s
theorem nAt_lev {v : Nat × Nat} {a b : Nat} (h : v = (a, b)) {lv : Nat} (hl : lv ≤ b) : nAt v lv = a := by subst h; unfold nAt; rw [if_neg (by dsimp only; omega)]
theorem list_put {d : Nat} (k line n : Nat) (name : List UInt8) (l : List Nat) (s : PS) (h : d + (ndG (fun i => ndV s.nodes i) ⟨k, line, n, name, l⟩).1 ≤ 16) : ∀ a ∈ (pPut k line n name l s).1, d + (ndV (pPut k line n name l s).2.nodes a).1 ≤ 16 := by
  intro a ha
  rw [List.mem_singleton.1 ha]
  rw [nd_put]; exact h
theorem run_need (ht : ToksOk ts) : ∀ (n : Nat) (k : Task) (s : PS) (r : List Nat × PS), run src ts n k s = some r → okTask k → PSOk ts s → r.2.e = 0 → NodesOk s.nodes → preT k s → preD k s → resD k s.deep r := by
  intro n
  induction n with
  | zero => intro k s r h; simp [run] at h
  | succ n ih =>
    intro k s r h hok hs he hw hp hd
    have ih2 : ∀ {k : Task} {s : PS} {r : List Nat × PS} {ns : List NodeM} {d : Nat}, run src ts n k s = some r → okTask k → PSOk ts s → r.2.e = 0 → s.nodes = ns → s.deep = d → NodesOk ns → preT k s → preD k s → NodesOk r.2.nodes ∧ AllK r.2.nodes (resT k) r.1 ∧ resD k d r ∧ r.2.deep = d := fun h1 h0 h2 h3 h4 h7 h5 h6 h8 => by
      subst h4; subst h7
      obtain ⟨a, b⟩ := run_wf ht _ _ _ _ h1 h2 h3 h5 h6
      exact ⟨a, b, ih _ _ _ h1 h0 h2 h3 h5 h6 h8, run_deep _ _ _ _ h1⟩
    have h16 : s.e = 0 → s.deep ≤ 16 := hs.fine
    have leaf : ∀ (k line m : Nat) (name : List UInt8) (t : PS), s.e = 0 → needN (fun i => ndV t.nodes i) ⟨k, line, m, name, []⟩ = 0 → levN ⟨k, line, m, name, []⟩ = 6 → s.deep + nAt (ndV (pPut k line m name [] t).2.nodes (oneOf (pPut k line m name [] t).1)) 6 ≤ 16 := fun k line m name t h0 h1 h2 => by
      rw [nd_one, nAt_lev (show ndG (fun i => ndV t.nodes i) ⟨k, line, m, name, []⟩ = (0, 6) by unfold ndG; rw [h1, h2]) (Nat.le_refl _)]
      have := h16 h0; omega
    cases k with
    | atom =>
      simp only [run] at h
      simp only [resD]
      split at h
      · rename_i h0
        simp only [Option.some.injEq] at h; subst h; exact absurd he h0
      · rename_i h0
        have h0 : s.e = 0 := by simpa using h0
        split at h
        · simp only [Option.some.injEq] at h; subst h; exact leaf _ _ _ _ (pGo s) h0 rfl rfl
        · split at h
          · simp only [Option.some.injEq] at h; subst h; exact leaf _ _ _ _ (pGo s) h0 rfl rfl
          · split at h
            · rename_i h3
              split at h
              · rename_i hx
                simp only [Option.map_eq_some_iff] at h
                obtain ⟨q, hq, rfl⟩ := h
                have e1 : q.2.e = 0 := e_must (x := [93]) (ts := ts) he
                have e2 := down_e (ts := ts) (s := pGo s) (e_must (run_e hq e1))
                obtain ⟨a, b, c, d⟩ := ih2 hq (by show (0 : Nat) ≤ 5; omega) (((hs.goKind ht h3 (by omega)).down ht h0).must ht _) e1 (show _ = s.nodes by rw [nodes_must, nodes_down]; rfl) (show _ = s.deep + 1 by rw [deep_must, deep_down]; rfl) hw trivial trivial
                have hq1 := run_one _ _ _ _ hq trivial
                rw [nd_one, nodes_up, nodes_must, nAt_lev (a := 1 + (ndV q.2.nodes (oneOf q.1)).1) (b := 6) (by rw [hq1]; rfl) (Nat.le_refl _)]
                have c : s.deep + 1 + nAt (ndV q.2.nodes (oneOf q.1)) 0 ≤ 16 := c
                rw [nAt0] at c; omega
              · simp only [Option.some.injEq] at h; subst h; exact leaf _ _ _ _ (pGo s) h0 rfl rfl
            · split at h
              · simp only [Option.some.injEq] at h; subst h; exact leaf _ _ _ _ (pGo s) h0 rfl rfl
              · split at h
                · simp only [Option.some.injEq] at h; subst h; exact leaf _ _ _ _ (pGo s) h0 rfl rfl
                · split at h
                  · rename_i hl
                    split at h
                    · simp only [Option.map_eq_some_iff] at h
                      obtain ⟨q, hq, rfl⟩ := h
                      have e1 : q.2.e = 0 := e_must (x := [41]) (ts := ts) he
                      obtain ⟨a, b, c, d⟩ := ih2 hq (by show (0 : Nat) ≤ 5; omega) (((hs.goIs ht hl).down ht h0).must ht _) e1 (show _ = s.nodes by rw [nodes_must, nodes_down]; rfl) (show _ = s.deep + 1 by rw [deep_must, deep_down]; rfl) hw trivial trivial
                      have hq1 := run_one _ _ _ _ hq trivial
                      rw [nd_one, nodes_up, nodes_must, nAt_lev (a := 1 + (ndV q.2.nodes (oneOf q.1)).1) (b := 6) (by rw [hq1]; rfl) (Nat.le_refl _)]
                      have c : s.deep + 1 + nAt (ndV q.2.nodes (oneOf q.1)) 0 ≤ 16 := c
                      rw [nAt0] at c; omega
                    · simp only [Option.some.injEq] at h; subst h; exact (e_fail (by decide) he).elim
                  · split at h
                    · simp only [Option.map_eq_some_iff] at h
                      obtain ⟨q, hq, rfl⟩ := h
                      have e1 : q.2.e = 0 := e_must (x := [41]) (ts := ts) he
                      obtain ⟨a, b, c, d⟩ := ih2 hq (by show (0 : Nat) ≤ 5; omega) ((hs.down ht h0).must ht _) e1 (show _ = s.nodes by rw [nodes_must, nodes_down]) (show _ = s.deep + 1 by rw [deep_must, deep_down]) hw trivial trivial
                      show s.deep + nAt (ndV (pUp (pMust ts [41] q.2)).nodes (oneOf q.1)) 6 ≤ 16
                      rw [nodes_up, nodes_must]
                      have c : s.deep + 1 + nAt (ndV q.2.nodes (oneOf q.1)) 0 ≤ 16 := c
                      rw [nAt0] at c
                      have := (nAt_le (ndV q.2.nodes (oneOf q.1)) 6).2
                      omega
                    · simp only [Option.some.injEq] at h; subst h; exact (e_fail (by decide) he).elim
    | factor =>
      simp only [run] at h
      simp only [resD]
      have go : ∀ {k x}, k = 7 ∨ k = 8 → pIs ts x s = true → ((run src ts n .factor (pGo (pDown ts s))).map fun r => pPut k (pLine src ts s) 0 [] r.1 (pUp r.2)) = some r → s.deep + nAt (ndV r.2.nodes (oneOf r.1)) 5 ≤ 16 := fun {k x} hk hx h => by
        simp only [Option.map_eq_some_iff] at h
        obtain ⟨q, hq, rfl⟩ := h
        obtain ⟨a, b, c, d⟩ := ih2 hq trivial (hs.goDown ht hx) he (show (pDown ts s).nodes = s.nodes from nodes_down s) (show (pDown ts s).deep = s.deep + 1 from deep_down s) hw trivial trivial
        have hq1 := run_one _ _ _ _ hq trivial
        rw [nd_one, nodes_up, nAt_lev (a := 1 + nAt (ndV q.2.nodes (oneOf q.1)) 5) (b := 5) (by rw [hq1]; rcases hk with rfl | rfl <;> rfl) (Nat.le_refl _)]
        have c : s.deep + 1 + nAt (ndV q.2.nodes (oneOf q.1)) 5 ≤ 16 := c
        omega
      split at h
      · exact go (.inl rfl) (by assumption) h
      · split at h
        · exact go (.inr rfl) (by assumption) h
        · have h9 : s.deep + nAt (ndV r.2.nodes (oneOf r.1)) 6 ≤ 16 := ih _ _ _ h trivial hs he hw trivial trivial
          have := nAt_mono (ndV r.2.nodes (oneOf r.1)) (show 5 ≤ 6 by omega)
          omega
    | chain lv =>
      have hlv : lv ≤ 5 := hok
      simp only [run] at h
      simp only [resD]
      split at h
      · rename_i e5; subst e5
        exact ih _ _ _ h trivial hs he hw trivial trivial
      · simp only [Option.bind_eq_some_iff] at h
        obtain ⟨q, hq, h⟩ := h
        have hq1 := run_one _ _ _ _ hq trivial
        obtain ⟨a, b, c, d⟩ := ih2 hq (by show lv + 1 ≤ 5; omega) hs (run_e h he) rfl rfl hw trivial trivial
        have c : s.deep + nAt (ndV q.2.nodes (oneOf q.1)) (lv + 1) ≤ 16 := c
        have hl : leftLv lv ≤ lv + 1 := by unfold leftLv; split <;> omega
        have hm := nAt_mono (ndV q.2.nodes (oneOf q.1)) hl
        have h9 := ih _ _ _ h (by show lv ≤ 4; omega) (run_ok ht _ _ _ _ hq hs) he a (kid1 b hq1) (show q.2.deep + nAt (ndV q.2.nodes (oneOf q.1)) (leftLv lv) ≤ 16 by omega)
        rw [d] at h9
        exact h9
    | more lv line x =>
      have hlv : lv ≤ 4 := hok
      simp only [run] at h
      simp only [resD]
      have hd : s.deep + nAt (ndV s.nodes x) (leftLv lv) ≤ 16 := hd
      have hl : lv ≤ leftLv lv := by unfold leftLv; split <;> omega
      split at h
      · simp only [Option.some.injEq] at h; subst h
        have := nAt_mono (ndV s.nodes x) hl
        show s.deep + nAt (ndV s.nodes x) lv ≤ 16
        omega
      · rename_i hx
        simp only [Option.bind_eq_some_iff] at h
        obtain ⟨q, hq, h⟩ := h
        have hq1 := run_one _ _ _ _ hq trivial
        have hok2 := run_ok ht _ _ _ _ hq (hs.goNext ht hx)
        have hkx : Kid s.nodes clsE x := hp
        have hext : Ext (pGo s) q.2 := run_ext _ _ _ _ hq
        have hsx : ndV q.2.nodes x = ndV s.nodes x := nd_ext (s := pGo s) hkx hext
        have key : q.2.e = 0 → s.deep + nAt (ndV (pPut 9 line 0 (pNext ts lv s) [x, q.1.headD 0] q.2).2.nodes (oneOf (pPut 9 line 0 (pNext ts lv s) [x, q.1.headD 0] q.2).1)) lv ≤ 16 ∧ q.2.deep = s.deep ∧ NodesOk q.2.nodes ∧ AllK q.2.nodes clsE q.1 := fun e1 => by
          obtain ⟨a, b, c, d⟩ := ih2 hq (by show lv + 1 ≤ 5; omega) (hs.goNext ht hx) e1 (show (pGo s).nodes = s.nodes from rfl) (show (pGo s).deep = s.deep from rfl) hw trivial trivial
          have c : s.deep + nAt (ndV q.2.nodes (oneOf q.1)) (lv + 1) ≤ 16 := c
          refine ⟨?_, d, a, b⟩
          have hz := next_lv hlv hx
          rw [nd_one, nAt_lev (a := max (nAt (ndV q.2.nodes x) (leftLv lv)) (nAt (ndV q.2.nodes (oneOf q.1)) (lv + 1))) (b := lv) (by
            show (max (nAt (ndV q.2.nodes x) (leftLv (signLv (pNext ts lv s)))) (nAt (ndV q.2.nodes (oneOf q.1)) (signLv (pNext ts lv s) + 1)), signLv (pNext ts lv s)) = _
            rw [hz]) (Nat.le_refl _), hsx]
          omega
        split at h
        · simp only [Option.some.injEq] at h; subst h
          exact (key he).1
        · rename_i h2
          have e1 := run_e h he
          obtain ⟨h5, h6, a, b⟩ := key e1
          have hll : leftLv lv = lv := by unfold leftLv; rw [if_neg h2]
          obtain ⟨c, d⟩ := put_wf (line := line) (n := 0) (cls := clsE) a (.bin _ _ _ _ (next_sign hx) (Kid.ext (s := pGo s) hkx hext) (kid1 b hq1)) rfl
          have h9 := ih _ _ _ h hlv (hok2.put _ _ _ _ _) he c (d _ (List.mem_singleton.2 rfl)) (by
            show q.2.deep + nAt _ (leftLv lv) ≤ 16
            rw [hll, h6]; exact h5)
          have e7 : (pPut 9 line 0 (pNext ts lv s) [x, q.1.headD 0] q.2).2.deep = s.deep := h6
          rw [e7] at h9
          exact h9
    | args l =>
      simp only [run, Option.bind_eq_some_iff] at h
      simp only [resD]
      obtain ⟨q, hq, h⟩ := h
      have hok2 := run_ok ht _ _ _ _ hq hs
      have hle := run_ext _ _ _ _ hq
      have hq1 := run_one _ _ _ _ hq trivial
      have key : q.2.e = 0 → (∀ a ∈ l ++ q.1, s.deep + (ndV q.2.nodes a).1 ≤ 16) ∧ q.2.deep = s.deep ∧ NodesOk q.2.nodes ∧ AllK q.2.nodes clsE q.1 := fun e1 => by
        obtain ⟨a, b, c, d⟩ := ih2 hq (by show (0 : Nat) ≤ 5; omega) hs e1 rfl rfl hw trivial trivial
        have c : s.deep + nAt (ndV q.2.nodes (oneOf q.1)) 0 ≤ 16 := c
        rw [nAt0] at c
        refine ⟨fun y hy => ?_, d, a, b⟩
        rcases List.mem_append.1 hy with hy | hy
        · rw [nd_ext (hp y hy) hle]; exact hd y hy
        · rw [hq1] at hy; rw [List.mem_singleton.1 hy]; exact c
      split at h
      · rename_i hx
        have e1 : q.2.e = 0 := (pIs_kind hx).1
        obtain ⟨k1, k2, a, b⟩ := key e1
        have h9 := ih _ _ _ h trivial (hok2.goIs ht hx) he a (show AllK q.2.nodes clsE (l ++ q.1) from fun y hy => by
          rcases List.mem_append.1 hy with hy | hy
          · exact (hp y hy).ext hle
          · exact b y hy) (fun y hy => by show q.2.deep + _ ≤ 16; rw [k2]; exact k1 y hy)
        have e7 : (pGo q.2).deep = s.deep := k2
        rw [e7] at h9
        exact h9
      · simp only [Option.some.injEq] at h; subst h
        exact (key he).1
    | call =>
      simp only [run, Option.map_eq_some_iff] at h
      simp only [resD]
      obtain ⟨q, hq, rfl⟩ := h
      have e1 : q.2.e = 0 := e_must (x := [41]) (ts := ts) he
      have hn : (pMust ts [40] (pNamed ts s)).nodes = s.nodes := by rw [nodes_must, nodes_named]
      have hdd : (pMust ts [40] (pNamed ts s)).deep = s.deep := by rw [deep_must, deep_named]
      have hs2 : s.e = 0 := by
        split at hq
        · exact ((Ext.refl s).named (ts := ts)).e0 (e_must (run_e hq e1))
        · simp only [Option.some.injEq] at hq; subst hq
          exact ((Ext.refl s).named (ts := ts)).e0 (e_must (x := [40]) e1)
      have key : ∀ a ∈ q.1, s.deep + (ndV q.2.nodes a).1 ≤ 16 := by
        split at hq
        · obtain ⟨a, b, c, d⟩ := ih2 hq trivial ((hs.named ht).must ht _) e1 hn hdd hw (fun y hy => by cases hy) (fun y hy => by cases hy)
          exact c
        · simp only [Option.some.injEq] at hq; subst hq
          intro a ha; cases ha
      refine list_put _ _ _ _ _ _ ?_
      rw [nodes_must]
      show s.deep + maxL (q.1.map fun c => (ndV q.2.nodes c).1) ≤ 16
      exact maxL_le (fun a ha => by obtain ⟨c, hc, rfl⟩ := List.mem_map.1 ha; exact key c hc) (h16 hs2)
    | right =>
      simp only [run] at h
      simp only [resD]
      split at h
      · rename_i hx
        simp only [Option.some.injEq] at h; subst h
        refine list_put _ _ _ _ _ _ ?_
        have := h16 (pIs_kind hx).1
        show s.deep + 0 ≤ 16
        omega
      · split at h
        · rename_i hx
          simp only [Option.map_eq_some_iff] at h
          obtain ⟨q, hq, rfl⟩ := h
          have e1 : q.2.e = 0 := e_must (x := [41]) (ts := ts) he
          obtain ⟨a, b, c, d⟩ := ih2 hq (by show (0 : Nat) ≤ 5; omega) ((hs.goIs ht hx).must ht _) e1 (show _ = s.nodes by rw [nodes_must]; rfl) (show _ = s.deep by rw [deep_must]; rfl) hw trivial trivial
          have hq1 := run_one _ _ _ _ hq trivial
          have c : s.deep + nAt (ndV q.2.nodes (oneOf q.1)) 0 ≤ 16 := c
          rw [nAt0] at c
          refine list_put _ _ _ _ _ _ ?_
          rw [nodes_must, hq1]
          show s.deep + maxL [_] ≤ 16
          rw [maxL_one]; exact c
        · split at h
          · exact ih _ _ _ h trivial hs he hw trivial trivial
          · have hq1 := run_one _ _ _ _ h trivial
            have h9 : s.deep + nAt (ndV r.2.nodes (oneOf r.1)) 0 ≤ 16 := ih _ _ _ h (by show (0 : Nat) ≤ 5; omega) hs he hw trivial trivial
            rw [nAt0] at h9
            intro a ha
            rw [hq1] at ha
            rw [List.mem_singleton.1 ha]; exact h9
    | block =>
      simp only [run] at h
      simp only [resD]
      split at h
      · rename_i hx
        simp only [Option.map_eq_some_iff] at h
        obtain ⟨q, hq, rfl⟩ := h
        have e1 : q.2.e = 0 := e_must (x := [125]) (ts := ts) he
        have e2 := down_e (ts := ts) (s := s) (e_must (run_e hq e1))
        obtain ⟨a, b, c, d⟩ := ih2 hq trivial ((hs.downIs ht hx).must ht _) e1 (show _ = s.nodes by rw [nodes_must, nodes_down]) (show _ = s.deep + 1 by rw [deep_must, deep_down]) hw (fun y hy => by cases hy) (fun y hy => by cases hy)
        have c : ∀ a ∈ q.1, s.deep + 1 + (ndV q.2.nodes a).1 ≤ 16 := c
        refine list_put _ _ _ _ _ _ ?_
        rw [nodes_up, nodes_must]
        show s.deep + (1 + maxL (q.1.map fun c => (ndV q.2.nodes c).1)) ≤ 16
        have := maxL_le (l := q.1.map fun c => (ndV q.2.nodes c).1) (d := s.deep + 1) (b := 16) (fun a ha => by obtain ⟨y, hy, rfl⟩ := List.mem_map.1 ha; exact c y hy) (by omega)
        omega
      · simp only [Option.some.injEq] at h; subst h; exact (e_fail (by decide) he).elim
    | stmts l =>
      simp only [run] at h
      simp only [resD]
      split at h
      · rename_i h0
        simp only [Option.some.injEq] at h; subst h; exact absurd he h0
      · split at h
        · simp only [Option.some.injEq] at h; subst h; exact hd
        · simp only [Option.bind_eq_some_iff] at h
          obtain ⟨q, hq, h⟩ := h
          have e1 : q.2.e = 0 := run_e h he
          have hle := run_ext _ _ _ _ hq
          obtain ⟨a, b, c, d⟩ := ih2 hq trivial hs e1 rfl rfl hw trivial trivial
          have c : ∀ a ∈ q.1, s.deep + (ndV q.2.nodes a).1 ≤ 16 := c
          have h9 := ih _ _ _ h trivial (run_ok ht _ _ _ _ hq hs) he a (show AllK q.2.nodes clsS (l ++ q.1) from fun y hy => by
            rcases List.mem_append.1 hy with hy | hy
            · exact (hp y hy).ext hle
            · exact b y hy) (fun y hy => by
              show q.2.deep + _ ≤ 16
              rw [d]
              rcases List.mem_append.1 hy with hy | hy
              · rw [nd_ext (hp y hy) hle]; exact hd y hy
              · exact c y hy)
          rw [d] at h9
          exact h9
    | named line =>
      simp only [run] at h
      simp only [resD]
      split at h
      · simp only [Option.map_eq_some_iff] at h
        obtain ⟨q, hq, rfl⟩ := h
        have e1 : q.2.e = 0 := e_must (x := [59]) (ts := ts) he
        obtain ⟨a, b, c, d⟩ := ih2 hq trivial hs e1 rfl rfl hw trivial trivial
        have hq1 := run_one _ _ _ _ hq trivial
        have c : ∀ a ∈ q.1, s.deep + (ndV q.2.nodes a).1 ≤ 16 := c
        refine list_put _ _ _ _ _ _ ?_
        rw [nodes_must]
        show s.deep + maxL (q.1.map fun c => (ndV q.2.nodes c).1) ≤ 16
        exact maxL_le (fun a ha => by obtain ⟨y, hy, rfl⟩ := List.mem_map.1 ha; exact c y hy) (h16 (run_e hq e1))
      · split at h
        · rename_i hx
          simp only [Option.map_eq_some_iff, Option.bind_eq_some_iff] at h
          obtain ⟨q, hq, u, hu, rfl⟩ := h
          have e2 : u.2.e = 0 := e_must (x := [59]) (ts := ts) he
          have hx2 := ((((Ext.refl q.2).must (ts := ts) [93]).up).must (ts := ts) [61])
          have e1 : q.2.e = 0 := hx2.e0 (run_e hu e2)
          have hsn : PSOk ts (pNamed ts s) := hs.named ht
          obtain ⟨a, b, c, d⟩ := ih2 hq (by show (0 : Nat) ≤ 5; omega) ((hsn.downIs ht hx).must ht _) e1 (show _ = s.nodes by rw [nodes_must, nodes_down, nodes_named]) (show _ = s.deep + 1 by rw [deep_must, deep_down, deep_named]) hw trivial trivial
          have hokq := run_ok ht _ _ _ _ hq ((hsn.downIs ht hx).must ht _)
          have hq1 := run_one _ _ _ _ hq trivial
          have hu1 := run_one _ _ _ _ hu trivial
          have hdq : (pMust ts [61] (pUp (pMust ts [93] q.2))).deep = s.deep := by rw [deep_must, deep_up, deep_must, d]; omega
          obtain ⟨a2, b2, c2, d2⟩ := ih2 hu (by show (0 : Nat) ≤ 5; omega) (((hokq.must ht _).up).must ht _) e2 (show (pMust ts [61] (pUp (pMust ts [93] q.2))).nodes = q.2.nodes by rw [nodes_must]; exact nodes_must _ _) hdq a trivial trivial
          have c : s.deep + 1 + nAt (ndV q.2.nodes (oneOf q.1)) 0 ≤ 16 := c
          have c2 : s.deep + nAt (ndV u.2.nodes (oneOf u.1)) 0 ≤ 16 := c2
          rw [nAt0] at c c2
          have hl : ndV u.2.nodes (oneOf q.1) = ndV q.2.nodes (oneOf q.1) := nd_ext (kid1 b hq1) (hx2.trans (run_ext _ _ _ _ hu))
          refine list_put _ _ _ _ _ _ ?_
          rw [nodes_must, hq1, hu1]
          show s.deep + max (1 + (ndV u.2.nodes (oneOf q.1)).1) (ndV u.2.nodes (oneOf u.1)).1 ≤ 16
          rw [hl]; omega
        · simp only [Option.map_eq_some_iff] at h
          obtain ⟨q, hq, rfl⟩ := h
          have e1 : q.2.e = 0 := e_must (x := [59]) (ts := ts) he
          obtain ⟨a, b, c, d⟩ := ih2 hq trivial ((hs.named ht).must ht _) e1 (show _ = s.nodes by rw [nodes_must, nodes_named]) (show _ = s.deep by rw [deep_must, deep_named]) hw trivial trivial
          have c : ∀ a ∈ q.1, s.deep + (ndV q.2.nodes a).1 ≤ 16 := c
          have h0 : s.e = 0 := ((Ext.refl s).named (ts := ts)).e0 (e_must (run_e hq e1))
          refine list_put _ _ _ _ _ _ ?_
          rw [nodes_must]
          show s.deep + maxL (q.1.map fun c => (ndV q.2.nodes c).1) ≤ 16
          exact maxL_le (fun a ha => by obtain ⟨y, hy, rfl⟩ := List.mem_map.1 ha; exact c y hy) (h16 h0)
    | stmt =>
      simp only [run] at h
      simp only [resD]
      have two : ∀ {a b : List Nat} {ns : List NodeM}, (∀ y ∈ a, s.deep + (ndV ns y).1 ≤ 16) → (∀ y ∈ b, s.deep + (ndV ns y).1 ≤ 16) → ∀ y ∈ a ++ b, s.deep + (ndV ns y).1 ≤ 16 := fun h1 h2 y hy => by
        rcases List.mem_append.1 hy with hy | hy
        · exact h1 y hy
        · exact h2 y hy
      have mx : ∀ {l : List Nat} {ns : List NodeM}, s.e = 0 → (∀ y ∈ l, s.deep + (ndV ns y).1 ≤ 16) → s.deep + maxL (l.map fun c => (ndV ns c).1) ≤ 16 := fun h0 h => maxL_le (fun a ha => by obtain ⟨y, hy, rfl⟩ := List.mem_map.1 ha; exact h y hy) (h16 h0)
      have one : ∀ {q : List Nat × PS}, q.1 = [oneOf q.1] → s.deep + nAt (ndV q.2.nodes (oneOf q.1)) 0 ≤ 16 → ∀ y ∈ q.1, s.deep + (ndV q.2.nodes y).1 ≤ 16 := fun h1 h2 y hy => by
        rw [h1] at hy
        rw [List.mem_singleton.1 hy, ← nAt0 (ndV _ _)]; exact h2
      split at h
      · rename_i hwd
        simp only [Option.map_eq_some_iff] at h
        obtain ⟨q, hq, rfl⟩ := h
        have e1 : q.2.e = 0 := e_must (x := [59]) (ts := ts) he
        obtain ⟨a, b, c, d⟩ := ih2 hq trivial (((hs.goWord ht hwd (by simp)).named ht).must ht _) e1 (show _ = s.nodes by rw [nodes_must, nodes_named]; rfl) (show _ = s.deep by rw [deep_must, deep_named]; rfl) hw trivial trivial
        refine list_put _ _ _ _ _ _ ?_
        rw [nodes_must]
        exact mx (pWord_kind (by simp) hwd).1 c
      · split at h
        · rename_i hwd
          simp only [Option.map_eq_some_iff] at h
          obtain ⟨q, hq, rfl⟩ := h
          have e1 : q.2.e = 0 := e_must (x := [59]) (ts := ts) he
          obtain ⟨a, b, c, d⟩ := ih2 hq (by show (0 : Nat) ≤ 5; omega) (hs.goWord ht hwd (by simp)) e1 (show (pGo s).nodes = s.nodes from rfl) (show (pGo s).deep = s.deep from rfl) hw trivial trivial
          refine list_put _ _ _ _ _ _ ?_
          rw [nodes_must]
          exact mx (pWord_kind (by simp) hwd).1 (one (run_one _ _ _ _ hq trivial) c)
        · split at h
          · rename_i hwd
            simp only [Option.map_eq_some_iff, Option.bind_eq_some_iff] at h
            obtain ⟨q, hq, u, hu, rfl⟩ := h
            have e1 : q.2.e = 0 := run_e hu he
            obtain ⟨a, b, c, d⟩ := ih2 hq (by show (0 : Nat) ≤ 5; omega) (hs.goWord ht hwd (by simp)) e1 (show (pGo s).nodes = s.nodes from rfl) (show (pGo s).deep = s.deep from rfl) hw trivial trivial
            obtain ⟨a2, b2, c2, d2⟩ := ih2 hu trivial (run_ok ht _ _ _ _ hq (hs.goWord ht hwd (by simp))) he rfl d a trivial trivial
            have hl : ∀ y ∈ q.1, ndV u.2.nodes y = ndV q.2.nodes y := fun y hy => nd_ext (b y hy) (run_ext _ _ _ _ hu)
            refine list_put _ _ _ _ _ _ ?_
            exact mx (pWord_kind (by simp) hwd).1 (two (fun y hy => by rw [hl y hy]; exact one (run_one _ _ _ _ hq trivial) c y hy) c2)
          · split at h
            · rename_i hwd
              simp only [Option.bind_eq_some_iff] at h
              obtain ⟨q, hq, u, hu, h⟩ := h
              have hokq := run_ok ht _ _ _ _ hq (hs.goWord ht hwd (by simp))
              have hoku := run_ok ht _ _ _ _ hu hokq
              have key : u.2.e = 0 → NodesOk u.2.nodes ∧ AllK u.2.nodes clsB u.1 ∧ (∀ y ∈ q.1 ++ u.1, s.deep + (ndV u.2.nodes y).1 ≤ 16) ∧ u.2.deep = s.deep ∧ AllK u.2.nodes clsE q.1 := fun e2 => by
                obtain ⟨a, b, c, d⟩ := ih2 hq (by show (0 : Nat) ≤ 5; omega) (hs.goWord ht hwd (by simp)) (run_e hu e2) (show (pGo s).nodes = s.nodes from rfl) (show (pGo s).deep = s.deep from rfl) hw trivial trivial
                obtain ⟨a2, b2, c2, d2⟩ := ih2 hu trivial hokq e2 rfl d a trivial trivial
                exact ⟨a2, b2, two (fun y hy => by rw [nd_ext (b y hy) (run_ext _ _ _ _ hu)]; exact one (run_one _ _ _ _ hq trivial) c y hy) c2, d2, fun y hy => (b y hy).ext (run_ext _ _ _ _ hu)⟩
              split at h
              · rename_i hx
                simp only [Option.map_eq_some_iff] at h
                obtain ⟨v, hv, rfl⟩ := h
                obtain ⟨a2, b2, c2, d2, b1⟩ := key (pIs_kind hx).1
                obtain ⟨a3, b3, c3, d3⟩ := ih2 hv trivial (hoku.goIs ht hx) he (show (pGo u.2).nodes = u.2.nodes from rfl) (show (pGo u.2).deep = s.deep from d2) a2 trivial trivial
                have e3 : Ext u.2 v.2 := ((Ext.refl u.2).go).trans (run_ext _ _ _ _ hv)
                refine list_put _ _ _ _ _ _ ?_
                exact mx (pWord_kind (by simp) hwd).1 (two (fun y hy => by
                  have hky : ndV v.2.nodes y = ndV u.2.nodes y := by
                    rcases List.mem_append.1 hy with hy | hy
                    · exact nd_ext (b1 y hy) e3
                    · exact nd_ext (b2 y hy) e3
                  rw [hky]; exact c2 y hy) c3)
              · simp only [Option.some.injEq] at h; subst h
                obtain ⟨a2, b2, c2, d2, b1⟩ := key he
                refine list_put _ _ _ _ _ _ ?_
                exact mx (pWord_kind (by simp) hwd).1 c2
            · split at h
              · rename_i hwd
                split at h
                · simp only [Option.some.injEq] at h; subst h
                  refine list_put _ _ _ _ _ _ ?_
                  have := h16 (pWord_kind (by simp) hwd).1
                  show s.deep + 0 ≤ 16
                  omega
                · simp only [Option.map_eq_some_iff] at h
                  obtain ⟨q, hq, rfl⟩ := h
                  have e1 : q.2.e = 0 := e_must (x := [59]) (ts := ts) he
                  obtain ⟨a, b, c, d⟩ := ih2 hq (by show (0 : Nat) ≤ 5; omega) (hs.goWord ht hwd (by simp)) e1 (show (pGo s).nodes = s.nodes from rfl) (show (pGo s).deep = s.deep from rfl) hw trivial trivial
                  refine list_put _ _ _ _ _ _ ?_
                  rw [nodes_must]
                  exact mx (pWord_kind (by simp) hwd).1 (one (run_one _ _ _ _ hq trivial) c)
              · exact ih _ _ _ h trivial hs he hw trivial trivial
end
end Go.Proofs.YtahhgnbiahomiaaDoor
/- Back: nodes stand behind those below them: what their places are, but for what they are. -/
namespace Go.Proofs.YtahhgnbiahomiaaDoor
open Go.RowKit
set_option linter.unusedVariables false
set_option linter.unusedSimpArgs false
/-- Nodes, and which of them hang on none yet. -/
inductive Pst : List NodeM → List Nat → Prop where
  | nil : Pst [] []
  | put (ns : List NodeM) (st : List Nat) (nd : NodeM) (h : Pst ns (st ++ nd.l)) : Pst (ns ++ [nd]) (st ++ [ns.length])
theorem Pst.lt {ns : List NodeM} {st : List Nat} (h : Pst ns st) : ∀ a ∈ st, a < ns.length := by
  induction h with
  | nil => intro a ha; cases ha
  | put ns st nd h ih =>
    intro a ha
    rw [List.length_append, List.length_singleton]
    rcases List.mem_append.1 ha with ha | ha
    · have := ih a (List.mem_append_left _ ha); omega
    · rw [List.mem_singleton.1 ha]; omega
theorem rL_snoc (ns : List NodeM) (nd : NodeM) : rL (ns ++ [nd]) ns.length = nd.l.flatMap (rL ns) ++ [strip nd] := valN_snoc _ _ _ _
theorem rL_more {ns ms : List NodeM} {y : Nat} (h : y < ns.length) : rL (ns ++ ms) y = rL ns y := valN_append _ _ _ _ h
theorem flat_congr {l : List Nat} {f g : Nat → List RNode} (h : ∀ a ∈ l, f a = g a) : l.flatMap f = l.flatMap g := by
  rw [List.flatMap_def, List.flatMap_def]
  congr 1
  exact List.map_congr_left h
theorem Pst.strips {ns : List NodeM} {st : List Nat} (h : Pst ns st) : ns.map strip = st.flatMap (rL ns) := by
  induction h with
  | nil => rfl
  | put ns st nd h ih =>
    rw [List.map_append, ih, List.flatMap_append, List.flatMap_append, List.append_assoc]
    congr 1
    · exact flat_congr fun a ha => (rL_more (h.lt a (List.mem_append_left _ ha))).symm
    · simp only [List.map_cons, List.map_nil, List.flatMap_cons, List.flatMap_nil, List.append_nil]
      rw [rL_snoc]
theorem Pst.det {ns : List NodeM} {st : List Nat} (h : Pst ns st) : ∀ {us : List NodeM} {st' : List Nat}, Pst us st' → ns.map strip = us.map strip → st = st' ∧ ns.map (·.l) = us.map (·.l) := by
  induction h with
  | nil =>
    intro us st' h' e
    cases h' with
    | nil => exact ⟨rfl, rfl⟩
    | put us st2 nd h2 => simp at e
  | put ns st nd h ih =>
    intro us st' h' e
    cases h' with
    | nil => simp at e
    | put us st2 nd2 h2 =>
      rw [List.map_append, List.map_append] at e
      obtain ⟨e1, e2⟩ := List.append_inj' e (by simp)
      have e2 : strip nd = strip nd2 := by simpa using e2
      obtain ⟨a, b⟩ := ih h2 e1
      have hl : nd.l.length = nd2.l.length := by
        unfold strip at e2
        injection e2 with x1 x2
        injection x2 with x2 x3
        injection x3 with x3 x4
      obtain ⟨c, d⟩ := List.append_inj' a hl
      have hlen : ns.length = us.length := by have := congrArg List.length e1; simpa using this
      refine ⟨by rw [c, hlen], ?_⟩
      rw [List.map_append, List.map_append, b]
      simp [d]
section
variable {src : List UInt8} {ts : List Tok}
theorem pst_put {s : PS} {st : List Nat} {k line n : Nat} {name : List UInt8} {l : List Nat} (h : Pst s.nodes (st ++ l)) : Pst (pPut k line n name l s).2.nodes (st ++ (pPut k line n name l s).1) := Pst.put s.nodes st ⟨k, line, n, name, l⟩ h
theorem run_pst : ∀ (n : Nat) (k : Task) (s : PS) (r : List Nat × PS), run src ts n k s = some r → r.2.e = 0 → ∀ st, Pst s.nodes (st ++ pendT k) → Pst r.2.nodes (st ++ r.1) := by
  intro n
  induction n with
  | zero => intro k s r h; simp [run] at h
  | succ n ih =>
    intro k s r h he st hp
    have ih2 : ∀ {k : Task} {s : PS} {r : List Nat × PS} {ns : List NodeM} {st : List Nat}, run src ts n k s = some r → r.2.e = 0 → s.nodes = ns → Pst ns (st ++ pendT k) → Pst r.2.nodes (st ++ r.1) := fun h1 h2 h3 h4 => by
      subst h3
      exact ih _ _ _ h1 h2 _ h4
    have put0 : ∀ (k line m : Nat) (name : List UInt8) (t : PS), t.nodes = s.nodes → Pst s.nodes st → Pst (pPut k line m name [] t).2.nodes (st ++ (pPut k line m name [] t).1) := fun k line m name t h1 h2 => pst_put (by rw [h1, List.append_nil]; exact h2)
    cases k with
    | atom =>
      simp only [run] at h
      simp only [pendT, List.append_nil] at hp
      split at h
      · rename_i h0
        simp only [Option.some.injEq] at h; subst h; exact absurd he h0
      · split at h
        · simp only [Option.some.injEq] at h; subst h; exact put0 _ _ _ _ (pGo s) rfl hp
        · split at h
          · simp only [Option.some.injEq] at h; subst h; exact put0 _ _ _ _ (pGo s) rfl hp
          · split at h
            · split at h
              · simp only [Option.map_eq_some_iff] at h
                obtain ⟨q, hq, rfl⟩ := h
                have c := ih2 (st := st) hq (e_must (x := [93]) (ts := ts) he) (show _ = s.nodes by rw [nodes_must, nodes_down]; rfl) (by simpa [pendT] using hp)
                exact pst_put (by rw [nodes_up, nodes_must]; exact c)
              · simp only [Option.some.injEq] at h; subst h; exact put0 _ _ _ _ (pGo s) rfl hp
            · split at h
              · simp only [Option.some.injEq] at h; subst h; exact put0 _ _ _ _ (pGo s) rfl hp
              · split at h
                · simp only [Option.some.injEq] at h; subst h; exact put0 _ _ _ _ (pGo s) rfl hp
                · split at h
                  · split at h
                    · simp only [Option.map_eq_some_iff] at h
                      obtain ⟨q, hq, rfl⟩ := h
                      have c := ih2 (st := st) hq (e_must (x := [41]) (ts := ts) he) (show _ = s.nodes by rw [nodes_must, nodes_down]; rfl) (by simpa [pendT] using hp)
                      exact pst_put (by rw [nodes_up, nodes_must]; exact c)
                    · simp only [Option.some.injEq] at h; subst h; exact (e_fail (by decide) he).elim
                  · split at h
                    · simp only [Option.map_eq_some_iff] at h
                      obtain ⟨q, hq, rfl⟩ := h
                      have c := ih2 (st := st) hq (e_must (x := [41]) (ts := ts) he) (show _ = s.nodes by rw [nodes_must, nodes_down]) (by simpa [pendT] using hp)
                      show Pst (pMust ts [41] q.2).nodes (st ++ q.1)
                      rw [nodes_must]
                      exact c
                    · simp only [Option.some.injEq] at h; subst h; exact (e_fail (by decide) he).elim
    | factor =>
      simp only [run] at h
      simp only [pendT, List.append_nil] at hp
      have go : ∀ {k}, ((run src ts n .factor (pGo (pDown ts s))).map fun r => pPut k (pLine src ts s) 0 [] r.1 (pUp r.2)) = some r → Pst r.2.nodes (st ++ r.1) := fun h => by
        simp only [Option.map_eq_some_iff] at h
        obtain ⟨q, hq, rfl⟩ := h
        have c := ih2 (st := st) hq he (show (pDown ts s).nodes = s.nodes from nodes_down s) (by simpa [pendT] using hp)
        exact pst_put c
      split at h
      · exact go h
      · split at h
        · exact go h
        · exact ih _ _ _ h he st (by simpa [pendT] using hp)
    | chain lv =>
      simp only [run] at h
      simp only [pendT, List.append_nil] at hp
      split at h
      · exact ih _ _ _ h he st (by simpa [pendT] using hp)
      · simp only [Option.bind_eq_some_iff] at h
        obtain ⟨q, hq, h⟩ := h
        have hq1 := run_one _ _ _ _ hq trivial
        have c := ih2 (st := st) hq (run_e h he) rfl (by simpa [pendT] using hp)
        rw [hq1] at c
        exact ih _ _ _ h he st c
    | more lv line y =>
      simp only [run] at h
      simp only [pendT] at hp
      split at h
      · simp only [Option.some.injEq] at h; subst h; exact hp
      · simp only [Option.bind_eq_some_iff] at h
        obtain ⟨q, hq, h⟩ := h
        have hq1 := run_one _ _ _ _ hq trivial
        have key : q.2.e = 0 → Pst (pPut 9 line 0 (pNext ts lv s) [y, q.1.headD 0] q.2).2.nodes (st ++ (pPut 9 line 0 (pNext ts lv s) [y, q.1.headD 0] q.2).1) := fun e1 => by
          have c := ih2 (st := st ++ [y]) hq e1 (show (pGo s).nodes = s.nodes from rfl) (by simpa [pendT] using hp)
          rw [hq1, List.append_assoc] at c
          exact pst_put c
        split at h
        · simp only [Option.some.injEq] at h; subst h
          exact key he
        · have e5 := run_e h he
          exact ih _ _ _ h he st (key e5)
    | args l =>
      simp only [run, Option.bind_eq_some_iff] at h
      simp only [pendT] at hp
      obtain ⟨q, hq, h⟩ := h
      have key : q.2.e = 0 → Pst q.2.nodes (st ++ (l ++ q.1)) := fun e1 => by
        have c := ih2 (st := st ++ l) hq e1 rfl (by simpa [pendT] using hp)
        rw [List.append_assoc] at c
        exact c
      split at h
      · have e1 := run_e h he
        exact ih _ _ _ h he st (key e1)
      · simp only [Option.some.injEq] at h; subst h
        exact key he
    | call =>
      simp only [run, Option.map_eq_some_iff] at h
      simp only [pendT, List.append_nil] at hp
      obtain ⟨q, hq, rfl⟩ := h
      have e1 : q.2.e = 0 := e_must (x := [41]) (ts := ts) he
      have hn : (pMust ts [40] (pNamed ts s)).nodes = s.nodes := by rw [nodes_must, nodes_named]
      have key : Pst q.2.nodes (st ++ q.1) := by
        split at hq
        · exact ih2 hq e1 hn (by simpa [pendT] using hp)
        · simp only [Option.some.injEq] at hq; subst hq
          show Pst (pMust ts [40] (pNamed ts s)).nodes (st ++ [])
          rw [hn, List.append_nil]; exact hp
      exact pst_put (by rw [nodes_must]; exact key)
    | right =>
      simp only [run] at h
      simp only [pendT, List.append_nil] at hp
      split at h
      · simp only [Option.some.injEq] at h; subst h; exact put0 _ _ _ _ (pGo s) rfl hp
      · split at h
        · simp only [Option.map_eq_some_iff] at h
          obtain ⟨q, hq, rfl⟩ := h
          have c := ih2 (st := st) hq (e_must (x := [41]) (ts := ts) he) (show _ = s.nodes by rw [nodes_must]; rfl) (by simpa [pendT] using hp)
          exact pst_put (by rw [nodes_must]; exact c)
        · split at h <;> exact ih _ _ _ h he st (by simpa [pendT] using hp)
    | block =>
      simp only [run] at h
      simp only [pendT, List.append_nil] at hp
      split at h
      · simp only [Option.map_eq_some_iff] at h
        obtain ⟨q, hq, rfl⟩ := h
        have c := ih2 (st := st) hq (e_must (x := [125]) (ts := ts) he) (show _ = s.nodes by rw [nodes_must, nodes_down]) (by simpa [pendT] using hp)
        exact pst_put (by rw [nodes_up, nodes_must]; exact c)
      · simp only [Option.some.injEq] at h; subst h; exact (e_fail (by decide) he).elim
    | stmts l =>
      simp only [run] at h
      simp only [pendT] at hp
      split at h
      · rename_i h0
        simp only [Option.some.injEq] at h; subst h; exact absurd he h0
      · split at h
        · simp only [Option.some.injEq] at h; subst h; exact hp
        · simp only [Option.bind_eq_some_iff] at h
          obtain ⟨q, hq, h⟩ := h
          have c := ih2 (st := st ++ l) hq (run_e h he) rfl (by simpa [pendT] using hp)
          rw [List.append_assoc] at c
          exact ih _ _ _ h he st c
    | named line =>
      simp only [run] at h
      simp only [pendT, List.append_nil] at hp
      split at h
      · simp only [Option.map_eq_some_iff] at h
        obtain ⟨q, hq, rfl⟩ := h
        have c := ih2 (st := st) hq (e_must (x := [59]) (ts := ts) he) rfl (by simpa [pendT] using hp)
        exact pst_put (by rw [nodes_must]; exact c)
      · split at h
        · simp only [Option.map_eq_some_iff, Option.bind_eq_some_iff] at h
          obtain ⟨q, hq, u, hu, rfl⟩ := h
          have e2 : u.2.e = 0 := e_must (x := [59]) (ts := ts) he
          have e1 : q.2.e = 0 := e_must (ts := ts) (x := [93]) (s := q.2) (e_must (ts := ts) (x := [61]) (s := pUp (pMust ts [93] q.2)) (run_e hu e2))
          have c := ih2 (st := st) hq e1 (show _ = s.nodes by rw [nodes_must, nodes_down, nodes_named]) (by simpa [pendT] using hp)
          have g := ih2 (st := st ++ q.1) hu e2 (show (pMust ts [61] (pUp (pMust ts [93] q.2))).nodes = q.2.nodes by rw [nodes_must]; exact nodes_must _ _) (by simpa [pendT] using c)
          rw [List.append_assoc] at g
          exact pst_put (by rw [nodes_must]; exact g)
        · simp only [Option.map_eq_some_iff] at h
          obtain ⟨q, hq, rfl⟩ := h
          have c := ih2 (st := st) hq (e_must (x := [59]) (ts := ts) he) (show _ = s.nodes by rw [nodes_must, nodes_named]) (by simpa [pendT] using hp)
          exact pst_put (by rw [nodes_must]; exact c)
    | stmt =>
      simp only [run] at h
      simp only [pendT, List.append_nil] at hp
      split at h
      · simp only [Option.map_eq_some_iff] at h
        obtain ⟨q, hq, rfl⟩ := h
        have c := ih2 (st := st) hq (e_must (x := [59]) (ts := ts) he) (show _ = s.nodes by rw [nodes_must, nodes_named]; rfl) (by simpa [pendT] using hp)
        exact pst_put (by rw [nodes_must]; exact c)
      · split at h
        · simp only [Option.map_eq_some_iff] at h
          obtain ⟨q, hq, rfl⟩ := h
          have c := ih2 (st := st) hq (e_must (x := [59]) (ts := ts) he) (show (pGo s).nodes = s.nodes from rfl) (by simpa [pendT] using hp)
          exact pst_put (by rw [nodes_must]; exact c)
        · split at h
          · simp only [Option.map_eq_some_iff, Option.bind_eq_some_iff] at h
            obtain ⟨q, hq, u, hu, rfl⟩ := h
            have e1 : q.2.e = 0 := run_e hu he
            have c := ih2 (st := st) hq e1 (show (pGo s).nodes = s.nodes from rfl) (by simpa [pendT] using hp)
            have g := ih2 (st := st ++ q.1) hu he rfl (by simpa [pendT] using c)
            rw [List.append_assoc] at g
            exact pst_put g
          · split at h
            · simp only [Option.bind_eq_some_iff] at h
              obtain ⟨q, hq, u, hu, h⟩ := h
              split at h
              · simp only [Option.map_eq_some_iff] at h
                obtain ⟨v, hv, rfl⟩ := h
                have e2 : u.2.e = 0 := run_e (s := pGo u.2) hv he
                have e1 : q.2.e = 0 := run_e hu e2
                have c := ih2 (st := st) hq e1 (show (pGo s).nodes = s.nodes from rfl) (by simpa [pendT] using hp)
                have g := ih2 (st := st ++ q.1) hu e2 rfl (by simpa [pendT] using c)
                have g2 := ih2 (st := st ++ q.1 ++ u.1) hv he (show (pGo u.2).nodes = u.2.nodes from rfl) (by simpa [pendT] using g)
                exact pst_put (by rw [← List.append_assoc, ← List.append_assoc]; exact g2)
              · simp only [Option.some.injEq] at h; subst h
                have e1 : q.2.e = 0 := run_e hu he
                have c := ih2 (st := st) hq e1 (show (pGo s).nodes = s.nodes from rfl) (by simpa [pendT] using hp)
                have g := ih2 (st := st ++ q.1) hu he rfl (by simpa [pendT] using c)
                exact pst_put (by rw [← List.append_assoc]; exact g)
            · split at h
              · split at h
                · simp only [Option.some.injEq] at h; subst h
                  exact put0 17 (pLine src ts s) 0 [] (pMust ts [59] (pGo s)) (by rw [nodes_must]; rfl) hp
                · simp only [Option.map_eq_some_iff] at h
                  obtain ⟨q, hq, rfl⟩ := h
                  have c := ih2 (st := st) hq (e_must (x := [59]) (ts := ts) he) (show (pGo s).nodes = s.nodes from rfl) (by simpa [pendT] using hp)
                  exact pst_put (by rw [nodes_must]; exact c)
              · exact ih _ _ _ h he st (by simpa [pendT] using hp)
theorem func_pst {n : Nat} {s : PS} {fs : FuncM × PS} (h : runFunc src ts n s = some fs) (he : fs.2.e = 0) {st : List Nat} (hs : Pst s.nodes st) : Pst fs.2.nodes (st ++ [fs.1.body]) := by
  simp only [runFunc, Option.bind_eq_some_iff, Option.map_eq_some_iff] at h
  obtain ⟨p, hp, b, hb, rfl⟩ := h
  have hn1 : (pMust ts [40] (pNamed ts (pMust ts [102, 110] s))).nodes = s.nodes := by rw [nodes_must, nodes_named, nodes_must]
  have h2 : p.2.nodes = s.nodes := by
    split at hp
    · rw [params_nodes _ _ _ _ hp, hn1]
    · simp only [Option.some.injEq] at hp
      subst hp; exact hn1
  have hb1 := run_one _ _ _ _ hb trivial
  have hn : (if pIs ts [123] (pMust ts [41] p.2) = true then pMust ts [41] p.2 else pTyped ts (pMust ts [41] p.2)).nodes = s.nodes := by
    split
    · rw [nodes_must, h2]
    · rw [nodes_typed, nodes_must, h2]
  have c := run_pst _ _ _ _ hb he st (by rw [hn]; simpa [pendT] using hs)
  rw [hb1] at c
  exact c
theorem fns_pst : ∀ (n : Nat) (acc : List FuncM) (s : PS) (r : List FuncM × PS), runFns src ts n acc s = some r → r.2.e = 0 → Pst s.nodes (acc.map (·.body)) → Pst r.2.nodes (r.1.map (·.body))
  | 0, _, _, _, h, _, _ => by simp [runFns] at h
  | n + 1, acc, s, r, h, he, hs => by
    simp only [runFns] at h
    split at h
    · simp only [Option.some.injEq] at h; subst h; exact hs
    · split at h
      · simp only [Option.some.injEq] at h; subst h; exact hs
      · simp only [Option.bind_eq_some_iff] at h
        obtain ⟨fs, hfs, h⟩ := h
        refine fns_pst n _ _ _ h he ?_
        rw [List.map_append]
        exact func_pst hfs ((fns_ext _ _ _ _ h).e0 he) hs
/-- How deep a function that was read is. -/
theorem func_need (ht : ToksOk ts) {n : Nat} {s : PS} {fs : FuncM × PS} (h : runFunc src ts n s = some fs) (hs : PSOk ts s) (he : fs.2.e = 0) (hw : NodesOk s.nodes) (h0 : s.deep = 0) : (ndV fs.2.nodes fs.1.body).1 ≤ 16 ∧ fs.2.deep = 0 := by
  simp only [runFunc, Option.bind_eq_some_iff, Option.map_eq_some_iff] at h
  obtain ⟨p, hp, b, hb, rfl⟩ := h
  have h1 : PSOk ts (pMust ts [40] (pNamed ts (pMust ts [102, 110] s))) := ((hs.must ht _).named ht).must ht _
  have hn1 : (pMust ts [40] (pNamed ts (pMust ts [102, 110] s))).nodes = s.nodes := by rw [nodes_must, nodes_named, nodes_must]
  have hd1 : (pMust ts [40] (pNamed ts (pMust ts [102, 110] s))).deep = s.deep := by rw [deep_must, deep_named, deep_must]
  have h2 : PSOk ts p.2 ∧ p.2.nodes = s.nodes ∧ p.2.deep = s.deep := by
    split at hp
    · refine ⟨params_ok ht _ _ _ _ hp h1, by rw [params_nodes _ _ _ _ hp, hn1], ?_⟩
      have key : ∀ (n : Nat) (acc : List (List UInt8 × Nat)) (s : PS) (p : List (List UInt8 × Nat) × PS), runParams ts n acc s = some p → p.2.deep = s.deep := by
        intro n
        induction n with
        | zero => intro acc s p h; simp [runParams] at h
        | succ n ih =>
          intro acc s p h
          simp only [runParams] at h
          split at h
          · rw [ih _ _ _ h, deep_go, deep_typed, deep_named]
          · simp only [Option.some.injEq] at h; subst h
            rw [deep_typed, deep_named]
      rw [key _ _ _ _ hp, hd1]
    · simp only [Option.some.injEq] at hp
      subst hp; exact ⟨h1, hn1, hd1⟩
  have hb1 := run_one _ _ _ _ hb trivial
  have hD := run_deep _ _ _ _ hb
  have key : ∀ {t : PS}, run src ts n .block t = some b → PSOk ts t → t.nodes = s.nodes → t.deep = 0 → (ndV b.2.nodes (b.1.headD 0)).1 ≤ 16 ∧ b.2.deep = 0 := fun {t} hb ht1 htn htd => by
    have := run_need ht _ _ _ _ hb trivial ht1 he (by rw [htn]; exact hw) trivial trivial
    have := this (oneOf b.1) (by rw [hb1]; exact List.mem_singleton.2 rfl)
    rw [htd] at this
    exact ⟨by show (ndV b.2.nodes (oneOf b.1)).1 ≤ 16; omega, by rw [run_deep _ _ _ _ hb, htd]⟩
  split at hb
  · exact key hb (h2.1.must ht _) (by rw [nodes_must, h2.2.1]) (by rw [deep_must, h2.2.2, h0])
  · exact key hb ((h2.1.must ht _).typed ht) (by rw [nodes_typed, nodes_must, h2.2.1]) (by rw [deep_typed, deep_must, h2.2.2, h0])
theorem fns_need (ht : ToksOk ts) : ∀ (n : Nat) (acc : List FuncM) (s : PS) (r : List FuncM × PS), runFns src ts n acc s = some r → PSOk ts s → r.2.e = 0 → NodesOk s.nodes → s.deep = 0 →
    (∀ f ∈ acc, Kid s.nodes clsB f.body ∧ (ndV s.nodes f.body).1 ≤ 16) → ∀ f ∈ r.1, (ndV r.2.nodes f.body).1 ≤ 16
  | 0, _, _, _, h, _, _, _, _, _ => by simp [runFns] at h
  | n + 1, acc, s, r, h, hs, he, hw, h0, ha => by
    simp only [runFns] at h
    split at h
    · simp only [Option.some.injEq] at h; subst h; exact fun f hf => (ha f hf).2
    · split at h
      · simp only [Option.some.injEq] at h; subst h; exact fun f hf => (ha f hf).2
      · simp only [Option.bind_eq_some_iff] at h
        obtain ⟨fs, hfs, h⟩ := h
        have e1 : fs.2.e = 0 := (fns_ext _ _ _ _ h).e0 he
        obtain ⟨a, b, _⟩ := func_wf ht hfs hs e1 hw
        obtain ⟨c, d⟩ := func_need ht hfs hs e1 hw h0
        have hext := func_ext' hfs
        refine fns_need ht n _ _ _ h (func_ok ht hfs hs).1 he a d (fun f hf => ?_)
        rcases List.mem_append.1 hf with hf | hf
        · obtain ⟨x, y⟩ := ha f hf
          exact ⟨x.ext hext, by rw [nd_ext x hext]; exact y⟩
        · rw [List.mem_singleton.1 hf]; exact ⟨b, c⟩
end
/-- The places of a tree of a source; how deep its functions are. -/
theorem parse_pst {src : List UInt8} {ns : List NodeM} {fs : List FuncM} (h : parseM src = some (.good ns fs)) : Pst ns (fs.map (·.body)) ∧ ∀ f ∈ fs, (ndV ns f.body).1 ≤ 16 := by
  unfold parseM at h
  cases hl : lexM src with
  | bad p e => rw [hl] at h; simp at h
  | good ts =>
    rw [hl] at h
    have ht := lexM_toks hl
    simp only [parseT, Option.map_eq_some_iff] at h
    obtain ⟨q, hq, h⟩ := h
    split at h
    · cases h
    · rename_i h0
      have h0 : q.2.e = 0 := by simpa using h0
      split at h
      · cases h
      · injection h with h1 h2
        subst h1; subst h2
        have hs : PSOk ts ⟨0, [], 0, 0, 0⟩ := ⟨ht.pos, by decide, fun _ => by decide, by decide, by decide⟩
        exact ⟨fns_pst _ _ _ _ hq h0 Pst.nil, fns_need ht _ _ _ _ hq hs h0 (fun i nd hi => by simp at hi) rfl (fun f hf => by cases hf)⟩
end Go.Proofs.YtahhgnbiahomiaaDoor
/- Back: a whole tree's text is read as it. -/
namespace Go.Proofs.YtahhgnbiahomiaaDoor
open Go.RowKit
set_option linter.unusedVariables false
set_option linter.unusedSimpArgs false
theorem EndsG.app {l : List Pc} (h : EndsG l) (a : List Pc) : EndsG (a ++ l) := by
  obtain ⟨q, r, rfl, h1⟩ := h
  exact ⟨q, a ++ r, by rw [List.append_assoc], h1⟩
theorem EndsG.cons {l : List Pc} (h : EndsG l) (p : Pc) : EndsG (p :: l) := h.app [p]
theorem ends_n (a : List Pc) (x : List UInt8) : EndsG (a ++ [sgn x]) := ⟨sgn x, a, rfl, by simp [sgn]⟩
theorem lex_gapG {a b : List Pc} (ha : lexes a) (he : EndsG a) (hb : lexes b) : lexes (a ++ b) :=
  lexes_append ha hb (fun p hp q hq => by
    obtain ⟨p2, r, rfl, h1⟩ := he
    rw [List.getLast?_append] at hp
    simp at hp
    subst hp
    exact .inl h1)
theorem lex_flat {α : Type} {f : α → List Pc} : ∀ {l : List α} {b : List Pc}, (∀ a ∈ l, lexes (f a) ∧ EndsG (f a)) → lexes b → lexes (l.flatMap f ++ b)
  | [], _, _, hb => hb
  | a :: l, b, h, hb => by
    rw [List.flatMap_cons, List.append_assoc]
    exact lex_gapG (h a List.mem_cons_self).1 (h a List.mem_cons_self).2 (lex_flat (fun c hc => h c (List.mem_cons_of_mem _ hc)) hb)
section
variable {ns : List NodeM} {x : Nat}
theorem block_shape (hk : NodesOk ns) (hb : Kid ns clsB x) : ∃ T, (pcV ns x).1 = sgn [123] :: T := by
  obtain ⟨nd, hx, hcl⟩ := hb
  have hN := hk x nd hx
  rw [pcV_eq hx]
  cases hN with
  | block line l h => exact ⟨_, rfl⟩
  | _ => simp [clsB] at hcl
theorem stm_lex (hk : NodesOk ns) (hn : Nms ns) : ∀ x, Kid ns clsS x ∨ Kid ns clsB x → lexes (pcV ns x).1 ∧ EndsG (pcV ns x).1 := by
  intro x
  induction x using Nat.strongRecOn with
  | _ x ih =>
    intro hkx
    obtain ⟨nd, hx, hcl⟩ : ∃ nd, ns[x]? = some nd ∧ (clsS nd.kind = true ∨ clsB nd.kind = true) := by
      rcases hkx with ⟨nd, h1, h2⟩ | ⟨nd, h1, h2⟩
      · exact ⟨nd, h1, .inl h2⟩
      · exact ⟨nd, h1, .inr h2⟩
    have hN := hk x nd hx
    have hm := hn nd (List.mem_of_getElem? hx)
    have kE : ∀ {a : Nat}, Kid (ns.take x) clsE a → Xp (pcV (ns.take x) a).1 := fun h => by
      rw [pcV_take h.take.1]
      exact xp_ok hk hn _ (h.take.2.le (fun k hk => by unfold clsR; rw [hk]; rfl))
    have kR : ∀ {a : Nat}, Kid (ns.take x) clsR a → Xp (pcV (ns.take x) a).1 := fun h => by
      rw [pcV_take h.take.1]
      exact xp_ok hk hn _ h.take.2
    have kC : ∀ {a : Nat}, Kid (ns.take x) clsC a → Xp (pcV (ns.take x) a).1 := fun h => by
      rw [pcV_take h.take.1]
      exact xp_ok hk hn _ (h.take.2.le (fun k hk => by unfold clsC at hk; have := of_decide_eq_true hk; subst this; rfl))
    have kB : ∀ {a : Nat}, Kid (ns.take x) clsB a → ∃ T, (pcV (ns.take x) a).1 = sgn [123] :: T ∧ lexes (sgn [123] :: T) ∧ EndsG (sgn [123] :: T) := fun {a} h => by
      rw [pcV_take h.take.1]
      obtain ⟨T, hT⟩ := block_shape hk h.take.2
      have := ih a h.take.1 (.inr h.take.2)
      rw [hT] at this
      exact ⟨T, hT, this⟩
    have kS : ∀ {a : Nat}, Kid (ns.take x) clsS a → lexes (pcV (ns.take x) a).1 ∧ EndsG (pcV (ns.take x) a).1 := fun h => by
      rw [pcV_take h.take.1]
      exact ih _ h.take.1 (.inl h.take.2)
    rw [pcV_eq hx]
    show lexes (pcsN (fun i => pcV (ns.take x) i) nd) ∧ EndsG (pcsN (fun i => pcV (ns.take x) i) nd)
    generalize pcV (ns.take x) = P at *
    have g10 : ([10] : List UInt8) = [] ∨ ([10] : List UInt8) = [32] ∨ ([10] : List UInt8) = [10] := .inr (.inr rfl)
    have g32 : ([32] : List UInt8) = [] ∨ ([32] : List UInt8) = [32] ∨ ([32] : List UInt8) = [10] := .inr (.inl rfl)
    cases hN with
    | let_ line y a h =>
      have hX := kR h
      exact ⟨lex_gapped (word_val (by decide) g32) (by simp [kws]) (lex_head (name_val (hm.2.1 (by simp)) (.inl rfl)) (.inr (show (3 : Nat) ≠ 5 by decide)) (by decide) (lex_sign (by decide) (.inl rfl) (lex_close hX (by decide) g10) (fun _ => hX.st.app _))), ((((ends_n (P a).1 [59]).cons _).cons _).cons _)⟩
    | set line y a h =>
      have hX := kR h
      exact ⟨lex_head (name_val (hm.2.1 (by simp)) (.inl rfl)) (.inr (show (3 : Nat) ≠ 5 by decide)) (by decide) (lex_sign (by decide) (.inl rfl) (lex_close hX (by decide) g10) (fun _ => hX.st.app _)), (((ends_n (P a).1 [59]).cons _).cons _)⟩
    | put line y a b h h2 =>
      have hX := kE h
      have hY := kE h2
      refine ⟨lex_head (name_val (hm.2.1 (by simp)) (.inl rfl)) (.inr (show (3 : Nat) ≠ 5 by decide)) (by decide) (lex_sign (by decide) (.inl rfl) (lex_then hX.lex hX.en (by decide) ?_) (fun _ => hX.st.app _)), ?_⟩
      · exact lexes_cons (sign_val (by decide) (.inl rfl)) (lex_sign (by decide) (.inl rfl) (lex_close hY (by decide) g10) (fun _ => hY.st.app _)) (fun q hq => by
          simp at hq
          subst hq
          exact next_sign' (.inr (.inr (.inr rfl))) (by decide))
      · exact ((((((ends_n (P b).1 [59]).cons _).cons _).app (P a).1).cons _).cons _)
    | do_ line a h => exact ⟨lex_close (kC h) (by decide) g10, ends_n _ _⟩
    | print line a h => exact ⟨lex_gapped (word_val (by decide) g32) (by simp [kws]) (lex_close (kE h) (by decide) g10), (ends_n _ _).cons _⟩
    | if2 line a b h h2 =>
      obtain ⟨T, hT, hl, he⟩ := kB h2
      have hX := kE h
      show lexes (kws [105, 102] :: ((P a).1 ++ ((P b).1 ++ []))) ∧ EndsG (kws [105, 102] :: ((P a).1 ++ ((P b).1 ++ [])))
      rw [hT, List.append_nil]
      exact ⟨lex_gapped (word_val (by decide) g32) (by simp [kws]) (lex_then hX.lex hX.en (by decide) hl), (he.app _).cons _⟩
    | if3 line a b c h h2 h3 =>
      obtain ⟨T, hT, hl, he⟩ := kB h2
      obtain ⟨U, hU, hl2, he2⟩ := kB h3
      have hX := kE h
      show lexes (kws [105, 102] :: ((P a).1 ++ ((P b).1 ++ ((kw [101, 108, 115, 101] :: (P c).1) ++ [])))) ∧ EndsG (kws [105, 102] :: ((P a).1 ++ ((P b).1 ++ ((kw [101, 108, 115, 101] :: (P c).1) ++ []))))
      rw [hT, hU, List.append_nil]
      have hE : lexes (kw [101, 108, 115, 101] :: sgn [123] :: U) := lex_head (word_val (by decide) (.inl rfl)) (.inr (show (4 : Nat) ≠ 5 by decide)) (by decide) hl2
      exact ⟨lex_gapped (word_val (by decide) g32) (by simp [kws]) (lex_then hX.lex hX.en (by decide) (lex_gapG hl he hE)), (((he2.cons _).app _).app _).cons _⟩
    | loop line a b h h2 =>
      obtain ⟨T, hT, hl, he⟩ := kB h2
      have hX := kE h
      show lexes (kws [119, 104, 105, 108, 101] :: ((P a).1 ++ (P b).1)) ∧ EndsG (kws [119, 104, 105, 108, 101] :: ((P a).1 ++ (P b).1))
      rw [hT]
      exact ⟨lex_gapped (word_val (by decide) g32) (by simp [kws]) (lex_then hX.lex hX.en (by decide) hl), (he.app _).cons _⟩
    | ret0 line => exact ⟨lex_head (word_val (by decide) (.inl rfl)) (.inr (show (4 : Nat) ≠ 5 by decide)) (by decide) (lexes_one (sign_val (by decide) g10)), ends_n [kw wRet] _⟩
    | ret1 line a h =>
      show lexes (kws [114, 101, 116, 117, 114, 110] :: (((P a).1 ++ []) ++ [sgn [59]])) ∧ EndsG (kws [114, 101, 116, 117, 114, 110] :: (((P a).1 ++ []) ++ [sgn [59]]))
      rw [List.append_nil]
      exact ⟨lex_gapped (word_val (by decide) g32) (by simp [kws]) (lex_close (kE h) (by decide) g10), (ends_n _ _).cons _⟩
    | block line l h =>
      exact ⟨lexes_cons (sign_val (by decide) g10) (lex_flat (fun a ha => kS (h a ha)) (lexes_one (sign_val (by decide) g10))) (fun q _ => .inl (by simp [sgn])), (ends_n _ _).cons _⟩
    | _ => simp [clsS, clsB] at hcl
end
/-! Functions. -/
def parPc (q : List UInt8 × Nat) : List Pc := [nmS q.1, kw (wordT q.2)]
def retPc (t : Nat) : List Pc := if t = 0 then [] else [kw (wordT t)]
def fnPc (ns : List NodeM) (f : FuncM) : List Pc := kws [102, 110] :: nmP f.name :: sg [40] :: (joinP (f.params.map parPc) ++ (sg [41] :: (retPc f.ret ++ (pcV ns f.body).1)))
def showPc (ns : List NodeM) (fs : List FuncM) : List Pc := fs.flatMap (fnPc ns)
theorem rend_fnPc {ns : List NodeM} (hk : NodesOk ns) {f : FuncM} (hb : Kid ns clsB f.body) : rend (fnPc ns f) = fnT ns f := by
  unfold fnPc fnT retPc
  rw [rend_kws, rend_nmP, rend_sg, rend_append, rend_join, rend_sg, rend_append, rend_pcV hk _ hb.lt, List.map_map]
  have e : (f.params.map (rend ∘ parPc)) = f.params.map parT := List.map_congr_left fun q _ => by
    show rend [nmS q.1, kw (wordT q.2)] = _
    rw [rend_nmS, rend_kw, rend_nil]; simp [parT]
  rw [e]
  split
  · rename_i h0; rw [h0, rend_nil]; simp [wordT]
  · rw [rend_kw, rend_nil]; simp
theorem rend_showPc {ns : List NodeM} (hk : NodesOk ns) : ∀ {fs : List FuncM}, (∀ f ∈ fs, Kid ns clsB f.body) → rend (showPc ns fs) = showT ns fs
  | [], _ => rfl
  | f :: fs, h => by
    unfold showPc showT
    rw [List.flatMap_cons, rend_append, rend_fnPc hk (h f List.mem_cons_self), List.flatMap_cons]
    exact congrArg _ (rend_showPc hk fun g hg => h g (List.mem_cons_of_mem _ hg))
theorem word_ty {t : Nat} (h1 : 1 ≤ t) (h4 : t ≤ 4) : wordB (wordT t) = true ∧ typeM (wordT t) = t ∧ startB ((wordT t).headD 0) = true := by
  rcases (by omega : t = 1 ∨ t = 2 ∨ t = 3 ∨ t = 4) with rfl | rfl | rfl | rfl <;> decide
theorem parPc_xp {q : List UInt8 × Nat} (hn : NameOk q.1) (h1 : 1 ≤ q.2) (h4 : q.2 ≤ 4) : Xp (parPc q) :=
  ⟨lex_gapped (name_val hn (.inr (.inl rfl))) (by simp [nmS]) (lexes_one (word_val (word_ty h1 h4).1 (.inl rfl))), ⟨_, _, rfl, name_start hn⟩, ⟨kw (wordT q.2), [nmS q.1], rfl, rfl, .inl (show (4 : Nat) ≠ 5 by decide)⟩⟩
theorem fn_lex {ns : List NodeM} (hk : NodesOk ns) (hn : Nms ns) {f : FuncM} (hb : Kid ns clsB f.body) (hf : FuncNm f) (ht : f.ret ≤ 4 ∧ ∀ q ∈ f.params, q.2 ≤ 4) : lexes (fnPc ns f) ∧ EndsG (fnPc ns f) := by
  obtain ⟨T, hT⟩ := block_shape hk hb
  obtain ⟨hl, he⟩ := stm_lex hk hn f.body (.inr hb)
  rw [hT] at hl he
  unfold fnPc
  rw [hT]
  have hR : lexes (sg [41] :: (retPc f.ret ++ sgn [123] :: T)) := by
    unfold retPc
    split
    · exact lexes_cons (sign_val (by decide) (.inl rfl)) hl (fun q hq => by
        simp at hq
        subst hq
        exact next_sign' (.inr (.inr (.inl rfl))) (by decide))
    · rename_i h0
      obtain ⟨w1, w2, w3⟩ := word_ty (show 1 ≤ f.ret by omega) ht.1
      exact lexes_cons (sign_val (by decide) (.inl rfl)) (lex_head (word_val w1 (.inl rfl)) (.inr (show (4 : Nat) ≠ 5 by decide)) (by decide) hl) (fun q hq => by
        simp at hq
        subst hq
        exact next_start (by decide) w3)
  refine ⟨lex_gapped (word_val (by decide) (.inr (.inl rfl))) (by simp [kws]) (lex_head (name_val hf.name (.inl rfl)) (.inr (show (3 : Nat) ≠ 5 by decide)) (by decide) ?_), (((((he.app _).cons _).app _).cons _).cons _).cons _⟩
  by_cases h0 : f.params = []
  · rw [h0]
    exact lexes_cons (sign_val (by decide) (.inl rfl)) hR (fun q hq => by
      simp [joinP] at hq
      subst hq
      exact next_lit rfl (by decide))
  · have hX : Xp (joinP (f.params.map parPc)) := Xp.join (by simpa using h0) (fun a ha => by
      obtain ⟨q, hq, rfl⟩ := List.mem_map.1 ha
      exact parPc_xp (hf.pars q hq).1 (hf.pars q hq).2 (ht.2 q hq))
    exact lex_sign (by decide) (.inl rfl) (lex_then hX.lex hX.en (by decide) hR) (fun _ => hX.st.app _)
section
variable {src : List UInt8} {ts : List Tok} {s : PS}
theorem typed_way {t : Nat} (h1 : 1 ≤ t) (h4 : t ≤ 4) (he : s.e = 0) {R : List (Nat × List UInt8)} (hr : rest ts s.i = (4, wordT t) :: R) : pTyped ts s = pGo s ∧ pType ts s = t := by
  have hw := word_ok he hr
  have e : pType ts s = t := by unfold pType; rw [hw]; exact (word_ty h1 h4).2.1
  refine ⟨?_, e⟩
  unfold pTyped
  rw [e, if_neg (by omega)]
theorem params_way {R : List (Nat × List UInt8)} : ∀ (ps : List (List UInt8 × Nat)), ps ≠ [] → (∀ q ∈ ps, 1 ≤ q.2 ∧ q.2 ≤ 4) → ∀ (acc : List (List UInt8 × Nat)) (s : PS), s.e = 0 → rest ts s.i = tks (joinP (ps.map parPc)) ++ (5, [41]) :: R →
    ∃ s', RunsP ts acc s (acc ++ ps, s') ∧ s'.i = s.i + (joinP (ps.map parPc)).length ∧ s'.e = 0 ∧ s'.nodes = s.nodes ∧ s'.deep = s.deep
  | [], h, _, _, _, _, _ => absurd rfl h
  | [q], _, hp, acc, s, he, hr => by
    have e : joinP ([q].map parPc) = [nmS q.1, kw (wordT q.2)] := rfl
    rw [e] at hr ⊢
    have hr : rest ts s.i = (3, q.1) :: (4, wordT q.2) :: (5, [41]) :: R := hr
    obtain ⟨n1, n2⟩ := named_ok he hr
    have hg : rest ts (pGo s).i = _ := rest_go hr
    obtain ⟨t1, t2⟩ := typed_way (s := pGo s) (hp q List.mem_cons_self).1 (hp q List.mem_cons_self).2 he hg
    have hg2 : rest ts (pGo (pGo s)).i = _ := rest_go hg
    have hR := p_end (ts := ts) (s := s) (acc := acc) (by rw [n1, t1]; exact is_no (s := pGo (pGo s)) he hg2 (by decide))
    rw [n1, n2, t1, t2] at hR
    exact ⟨_, hR, rfl, he, rfl, rfl⟩
  | q :: q2 :: ps, _, hp, acc, s, he, hr => by
    have e : joinP ((q :: q2 :: ps).map parPc) = [nmS q.1, kw (wordT q.2)] ++ (sg [44] :: joinP ((q2 :: ps).map parPc)) := rfl
    rw [e] at hr ⊢
    have hr : rest ts s.i = (3, q.1) :: (4, wordT q.2) :: (5, [44]) :: (tks (joinP ((q2 :: ps).map parPc)) ++ (5, [41]) :: R) := hr
    obtain ⟨n1, n2⟩ := named_ok he hr
    have hg : rest ts (pGo s).i = _ := rest_go hr
    obtain ⟨t1, t2⟩ := typed_way (s := pGo s) (hp q List.mem_cons_self).1 (hp q List.mem_cons_self).2 he hg
    have hg2 : rest ts (pGo (pGo s)).i = _ := rest_go hg
    have hg3 : rest ts (pGo (pGo (pGo s))).i = _ := rest_go hg2
    obtain ⟨s', h1, h2, h3, h4, h5⟩ := params_way (q2 :: ps) (by simp) (fun c hc => hp c (List.mem_cons_of_mem _ hc)) (acc ++ [(q.1, q.2)]) (pGo (pGo (pGo s))) he hg3
    refine ⟨s', ?_, ?_, h3, h4, h5⟩
    · have := p_more (ts := ts) (s := s) (acc := acc) (p := (acc ++ [(q.1, q.2)] ++ (q2 :: ps), s')) (by rw [n1, t1]; exact is_yes (s := pGo (pGo s)) he hg2) (by rw [n1, n2, t1, t2]; exact h1)
      rw [List.append_assoc] at this
      exact this
    · rw [h2]; show s.i + 1 + 1 + 1 + _ = _; simp; omega
/-- A function that is read as another one. -/
structure FnIs (us : List NodeM) (g : FuncM) (ns : List NodeM) (f : FuncM) : Prop where
  name : g.name = f.name
  params : g.params = f.params
  ret : g.ret = f.ret
  lt : g.body < us.length
  sh : shV us g.body = shV ns f.body
theorem fn_way {ns : List NodeM} (hk : NodesOk ns) (hn : Nms ns) {f : FuncM} (hb : Kid ns clsB f.body) (hf : FuncNm f) (ht : f.ret ≤ 4 ∧ ∀ q ∈ f.params, q.2 ≤ 4) (hd : (ndV ns f.body).1 ≤ 16) (he : s.e = 0) (h0 : s.deep = 0) {R : List (Nat × List UInt8)} (hr : rest ts s.i = tks (fnPc ns f) ++ R) :
    ∃ g s', RunsF src ts s (g, s') ∧ FnIs s'.nodes g ns f ∧ s'.e = 0 ∧ s'.deep = 0 ∧ rest ts s'.i = R ∧ ∃ sg, s'.nodes = s.nodes ++ sg ∧ sg.map strip = rL ns f.body := by
  obtain ⟨T, hT⟩ := block_first hk hb
  have hr : rest ts s.i = (4, [102, 110]) :: (3, f.name) :: (5, [40]) :: (tks (joinP (f.params.map parPc)) ++ (5, [41]) :: (tks (retPc f.ret) ++ (tks (pcV ns f.body).1 ++ R))) := by
    rw [hr]; unfold fnPc
    simp only [tks_cons, tks_append]
    simp [kws, nmP, sg, List.append_assoc]
  have r1 : rest ts (pGo s).i = _ := rest_go hr
  have r2 : rest ts (pGo (pGo s)).i = _ := rest_go r1
  have r3 : rest ts (pGo (pGo (pGo s))).i = _ := rest_go r2
  have m1 : pMust ts [102, 110] s = pGo s := must_okw he hr
  obtain ⟨n1, n2⟩ := named_ok (s := pGo s) he r1
  have m3 : pMust ts [40] (pGo (pGo s)) = pGo (pGo (pGo s)) := must_ok (s := pGo (pGo s)) he r2
  obtain ⟨s3, hs3⟩ : ∃ s3, s3 = pGo (pGo (pGo s)) := ⟨_, rfl⟩
  have h3 : s3 = pMust ts [40] (pNamed ts (pMust ts [102, 110] s)) := by rw [m1, n1, m3]; exact hs3
  rw [← hs3] at r3
  have e3 : s3.e = 0 := by rw [hs3]; exact he
  have d3 : s3.deep = 0 := by rw [hs3]; exact h0
  have N3 : s3.nodes = s.nodes := by rw [hs3]; rfl
  -- the parameters
  obtain ⟨s4, hp, e4, d4, N4, r4⟩ : ∃ s4, ((pIs ts [41] s3 = false ∧ s3.e = 0 ∧ RunsP ts [] s3 (f.params, s4)) ∨ (pIs ts [41] s3 = true ∧ (f.params, s4) = ([], s3))) ∧ s4.e = 0 ∧ s4.deep = 0 ∧ s4.nodes = s.nodes ∧ rest ts s4.i = (5, [41]) :: (tks (retPc f.ret) ++ (tks (pcV ns f.body).1 ++ R)) := by
    by_cases hps : f.params = []
    · rw [hps] at r3 ⊢
      have r3 : rest ts s3.i = (5, [41]) :: (tks (retPc f.ret) ++ (tks (pcV ns f.body).1 ++ R)) := r3
      exact ⟨s3, .inr ⟨is_yes e3 r3, rfl⟩, e3, d3, N3, r3⟩
    · have hX : Xp (joinP (f.params.map parPc)) := Xp.join (by simpa using hps) (fun a ha => by
        obtain ⟨q, hq, rfl⟩ := List.mem_map.1 ha
        exact parPc_xp (hf.pars q hq).1 (hf.pars q hq).2 (ht.2 q hq))
      obtain ⟨s4, a1, a2, a3, a4, a5⟩ := params_way f.params hps (fun q hq => ⟨(hf.pars q hq).2, ht.2 q hq⟩) [] s3 e3 r3
      have r4 := rest_add r3
      rw [tks_len, ← a2] at r4
      exact ⟨s4, .inl ⟨starts_no hX e3 r3 (by decide), e3, a1⟩, a3, by rw [a5, d3], by rw [a4, N3], r4⟩
  have m4 : pMust ts [41] s4 = pGo s4 := must_ok e4 r4
  have r5 : rest ts (pGo s4).i = _ := rest_go r4
  -- what it returns
  obtain ⟨s5, hs5, hret, e5, d5, N5, r6⟩ : ∃ s5, afterP ts (pGo s4) = s5 ∧ retP ts (pGo s4) = f.ret ∧ s5.e = 0 ∧ s5.deep = 0 ∧ s5.nodes = s.nodes ∧ rest ts s5.i = tks (pcV ns f.body).1 ++ R := by
    unfold retPc at r5
    split at r5
    · rename_i hz
      have r5 : rest ts (pGo s4).i = tks (pcV ns f.body).1 ++ R := r5
      have r5' : rest ts (pGo s4).i = (5, [123]) :: (T ++ R) := by rw [r5, hT]; rfl
      have hb5 := is_yes (s := pGo s4) e4 r5'
      exact ⟨pGo s4, by unfold afterP; rw [if_pos hb5], by unfold retP; rw [if_pos hb5, hz], e4, d4, N4, r5⟩
    · rename_i hz
      have r5 : rest ts (pGo s4).i = (4, wordT f.ret) :: (tks (pcV ns f.body).1 ++ R) := r5
      obtain ⟨t1, t2⟩ := typed_way (s := pGo s4) (show 1 ≤ f.ret by omega) ht.1 e4 r5
      have hno : pIs ts [123] (pGo s4) = false := is_no (s := pGo s4) e4 r5 (by
        have := (word_ty (show 1 ≤ f.ret by omega) ht.1).2.2
        intro e
        rw [e] at this
        revert this; decide)
      exact ⟨pGo (pGo s4), by unfold afterP; rw [hno, if_neg (by decide), t1], by unfold retP; rw [hno, if_neg (by decide), t2], e4, d4, N4, rest_go r5⟩
  rcases (stmt_all hk hn f.body).2 hb (src := src) e5 r6 with ⟨q, hq, hg⟩ | ⟨_, hbad⟩
  · have hF := f_rule (src := src) (ts := ts) (s := s) (s3 := s3) (p := (f.params, s4)) (b := q) h3 hp (by dsimp only; rw [m4, hs5]; exact hq)
    refine ⟨_, _, hF, ⟨?_, rfl, ?_, ?_, ?_⟩, hg.e, by rw [hg.deep, d5], rest_after hg r6 (tks_len _), ?_⟩
    · show pName ts (pMust ts [102, 110] s) = _
      rw [m1]; exact n2
    · show retP ts (pMust ts [41] s4) = _
      rw [m4]; exact hret
    · show q.1.headD 0 < q.2.nodes.length
      rw [hg.one]; have := hg.pos; show q.2.nodes.length - 1 < _; omega
    · show shV q.2.nodes (q.1.headD 0) = _
      rw [hg.one]; exact hg.sh
    · obtain ⟨g, a, b⟩ := hg.sg
      exact ⟨g, by rw [a, N5], b⟩
  · omega
theorem fns_way {ns : List NodeM} (hk : NodesOk ns) (hn : Nms ns) : ∀ (fs : List FuncM), (∀ f ∈ fs, Kid ns clsB f.body ∧ FuncNm f ∧ (f.ret ≤ 4 ∧ ∀ q ∈ f.params, q.2 ≤ 4) ∧ (ndV ns f.body).1 ≤ 16) → ∀ (acc : List FuncM) (s : PS), s.e = 0 → s.deep = 0 → rest ts s.i = tks (showPc ns fs) ++ [(0, [])] →
    ∃ gs s', RunsL src ts acc s (acc ++ gs, s') ∧ s'.e = 0 ∧ (∃ sg, s'.nodes = s.nodes ++ sg ∧ sg.map strip = fs.flatMap fun f => rL ns f.body) ∧ gs.length = fs.length ∧ ∀ (i : Nat) (f : FuncM), fs[i]? = some f → ∃ g, gs[i]? = some g ∧ FnIs s'.nodes g ns f
  | [], _, acc, s, he, h0, hr => by
    have hr : rest ts s.i = (0, []) :: [] := hr
    exact ⟨[], s, by rw [List.append_nil]; exact l_end he (by rw [kind_eq he hr]; rfl), he, ⟨[], by simp, rfl⟩, rfl, fun i f h => by simp at h⟩
  | f :: fs, hf, acc, s, he, h0, hr => by
    obtain ⟨a1, a2, a3, a4⟩ := hf f List.mem_cons_self
    have hr : rest ts s.i = tks (fnPc ns f) ++ (tks (showPc ns fs) ++ [(0, [])]) := by rw [hr]; unfold showPc; rw [List.flatMap_cons, tks_append, List.append_assoc]
    obtain ⟨g, s1, b1, b2, b3, b4, b5, sg1, b6, b7⟩ := fn_way (src := src) hk hn a1 a2 a3 a4 he h0 hr
    obtain ⟨gs, s2, c1, c2, ⟨sg2, c3, c4⟩, c5, c6⟩ := fns_way hk hn fs (fun f hf' => hf f (List.mem_cons_of_mem _ hf')) (acc ++ [g]) s1 b3 b4 b5
    have hk0 : pKind ts 0 s = false := by
      have hr' : rest ts s.i = (4, [102, 110]) :: _ := hr
      rw [kind_eq he hr']; decide
    refine ⟨g :: gs, s2, ?_, c2, ⟨sg1 ++ sg2, by rw [c3, b6, List.append_assoc], by rw [List.map_append, b7, c4, List.flatMap_cons]⟩, by simp [c5], fun i f' hi => ?_⟩
    · have := l_more (src := src) (acc := acc) he hk0 b1 c1
      rw [List.append_assoc] at this
      exact this
    · cases i with
      | zero =>
        simp at hi
        subst hi
        refine ⟨g, rfl, b2.name, b2.params, b2.ret, by rw [c3, List.length_append]; have := b2.lt; omega, ?_⟩
        rw [c3, shV_more b2.lt]; exact b2.sh
      | succ i =>
        obtain ⟨g', d1, d2⟩ := c6 i f' (by simpa using hi)
        exact ⟨g', by simpa using d1, d2⟩
end
/-- Two trees that are the same but for lines. -/
structure Alike (ns us : List NodeM) (fs gs : List FuncM) : Prop where
  strips : us.map strip = ns.map strip
  ls : us.map (·.l) = ns.map (·.l)
  lenf : gs.length = fs.length
  fns : ∀ (i : Nat) (f : FuncM), fs[i]? = some f → ∃ g : FuncM, gs[i]? = some g ∧ g.name = f.name ∧ g.params = f.params ∧ g.ret = f.ret ∧ g.body = f.body
/-- A tree's text is read as that tree, but for lines, and is its text. -/
theorem back {src : List UInt8} {ns : List NodeM} {fs : List FuncM} (h : parseM src = some (.good ns fs)) (hl : (showT ns fs).length ≤ 600) : ∃ us gs, parseM (showT ns fs) = some (.good us gs) ∧ Alike ns us fs gs ∧ showT us gs = showT ns fs := by
  have hok := parse_ok h
  have hnm := parse_nm h
  obtain ⟨hp, hd⟩ := parse_pst h
  have hk := hok.nodes
  have hall : ∀ f ∈ fs, Kid ns clsB f.body ∧ FuncNm f ∧ (f.ret ≤ 4 ∧ ∀ q ∈ f.params, q.2 ≤ 4) ∧ (ndV ns f.body).1 ≤ 16 := fun f hf => ⟨hok.bodies f hf, hnm.fns f hf, hok.types f hf, hd f hf⟩
  have hrend := rend_showPc hk (fs := fs) hok.bodies
  have hlex : lexes (showPc ns fs) := by
    have := lex_flat (f := fnPc ns) (l := fs) (b := []) (fun f hf => fn_lex hk hnm.nodes (hok.bodies f hf) (hnm.fns f hf) (hok.types f hf)) trivial
    rw [List.append_nil] at this
    exact this
  have hL := lexM_pieces hlex (by rw [hrend]; exact hl)
  rw [hrend] at hL
  have hr0 := rest_toksP (showPc ns fs)
  obtain ⟨gs, s', c1, c2, ⟨sg, c3, c4⟩, c5, c6⟩ := fns_way (src := showT ns fs) hk hnm.nodes fs hall [] s00 rfl rfl hr0
  rw [List.nil_append] at c1
  have c3 : s'.nodes = sg := c3
  have hP := parse_of hL c1
  rw [if_neg (by simp only [ne_eq, Decidable.not_not]; exact c2)] at hP
  have hst : s'.nodes.map strip = ns.map strip := by
    rw [c3, c4, hp.strips, List.flatMap_map]
  have hlen : s'.nodes.length = ns.length := by have := congrArg List.length hst; simpa using this
  have hpar : gs.any (fun f => decide (3 < f.params.length)) = false := by
    rw [List.any_eq_false]
    intro g hg
    obtain ⟨i, hi⟩ := List.mem_iff_getElem?.1 hg
    have hilt := (List.getElem?_eq_some_iff.1 hi).1
    have hfi : fs[i]? = some fs[i] := List.getElem?_eq_getElem (by omega)
    obtain ⟨g', h1, h2⟩ := c6 i _ hfi
    rw [hi] at h1
    have h1 := Option.some.inj h1
    subst h1
    rw [h2.params]
    have := hok.pars _ (List.mem_of_getElem? hfi)
    simp; omega
  rw [if_neg (by
    rintro (h1 | h1 | h1)
    · have := hok.few; dsimp only at h1; omega
    · have := hok.fewf; dsimp only at h1; omega
    · dsimp only at h1; rw [hpar] at h1; cases h1)] at hP
  obtain ⟨hp2, _⟩ := parse_pst hP
  obtain ⟨hst2, hls⟩ := hp2.det hp hst
  refine ⟨_, _, hP, ⟨hst, hls, c5, fun i f hi => ?_⟩, ?_⟩
  · obtain ⟨g, h1, h2⟩ := c6 i f hi
    refine ⟨g, h1, h2.name, h2.params, h2.ret, ?_⟩
    have e1 : (gs.map (·.body))[i]? = some g.body := by rw [List.getElem?_map, h1]; rfl
    have e2 : (fs.map (·.body))[i]? = some f.body := by rw [List.getElem?_map, hi]; rfl
    rw [hst2, e2] at e1
    exact (Option.some.inj e1).symm
  · have key : ∀ (fs gs : List FuncM), gs.length = fs.length → (∀ (i : Nat) (f : FuncM), fs[i]? = some f → ∃ g, gs[i]? = some g ∧ FnIs s'.nodes g ns f) → showT s'.nodes gs = showT ns fs := by
      intro fs
      induction fs with
      | nil =>
        intro gs h1 _
        have : gs = [] := List.eq_nil_of_length_eq_zero h1
        subst this; rfl
      | cons f fs ih =>
        intro gs h1 h2
        obtain ⟨g, h3, h4⟩ := h2 0 f rfl
        cases gs with
        | nil => simp at h3
        | cons g2 gs =>
          simp at h3
          subst h3
          unfold showT
          rw [List.flatMap_cons, List.flatMap_cons]
          have e1 : fnT s'.nodes g2 = fnT ns f := by
            unfold fnT txt
            rw [h4.name, h4.params, h4.ret, h4.sh]
          rw [e1]
          exact congrArg _ (ih gs (by simpa using h1) (fun i f' hi => by
            obtain ⟨g', h5, h6⟩ := h2 (i + 1) f' (by simpa using hi)
            exact ⟨g', by simpa using h5, h6⟩))
    exact key fs gs c5 c6
end Go.Proofs.YtahhgnbiahomiaaDoor
/- Back: lines that are struck, in memory. -/
namespace Go.Proofs.YtahhgnbiahomiaaDoor
open Go.RowKit
set_option linter.unusedVariables false
set_option linter.unusedSimpArgs false
def zeroN (n : NodeM) : NodeM := { n with line := 0 }
def zeroF (f : FuncM) : FuncM := { f with line := 0 }
def zp {α : Type} (z : α → α) : Nat → List α → List α
  | 0, l => l
  | _ + 1, [] => []
  | j + 1, a :: l => z a :: zp z j l
theorem zp_len {α : Type} (z : α → α) : ∀ (j : Nat) (l : List α), (zp z j l).length = l.length
  | 0, _ => rfl
  | _ + 1, [] => rfl
  | j + 1, a :: l => by simp [zp, zp_len z j l]
theorem zp_get {α : Type} (z : α → α) : ∀ (j : Nat) (l : List α), (zp z j l)[j]? = l[j]?
  | 0, _ => rfl
  | _ + 1, [] => rfl
  | j + 1, a :: l => by simp [zp, zp_get z j l]
theorem zp_set {α : Type} (z : α → α) : ∀ (j : Nat) (l : List α) (a : α), l[j]? = some a → zp z (j + 1) l = (zp z j l).set j (z a)
  | 0, [], _, h => by simp at h
  | 0, b :: l, a, h => by simp at h; subst h; rfl
  | j + 1, [], _, h => by simp at h
  | j + 1, b :: l, a, h => by
    have := zp_set z j l a (by simpa using h)
    rw [zp, this]; rfl
theorem zp_all {α : Type} (z : α → α) : ∀ (l : List α), zp z l.length l = l.map z
  | [] => rfl
  | a :: l => by simp [zp, zp_all z l]
theorem zero_cells : ∀ {ns : List NodeM} {vs : List Value} {j : Nat} {nd : NodeM}, ns[j]? = some nd → ns.length = vs.length → nodesCells (ns.set j (zeroN nd)) vs = (nodesCells ns vs).set (j * 5 + 1) (.int .i64 0)
  | [], _, _, _, h, _ => by simp at h
  | _ :: _, [], _, _, _, h => by simp at h
  | a :: ns, b :: vs, 0, nd, h, hl => by simp at h; subst h; rfl
  | a :: ns, b :: vs, j + 1, nd, h, hl => by
    have := zero_cells (ns := ns) (vs := vs) (j := j) (by simpa using h) (by simpa using hl)
    rw [List.set_cons_succ, nodesCells, this, nodesCells, List.set_append_right _ _ (by simp [nodeCells]; omega)]
    congr 2
    simp [nodeCells]; omega
theorem zero_fcells : ∀ {fs : List FuncM} {vs : List Value} {j : Nat} {f : FuncM}, fs[j]? = some f → fs.length = vs.length → fnCells (fs.set j (zeroF f)) vs = (fnCells fs vs).set (j * 5 + 1) (.int .i64 0)
  | [], _, _, _, h, _ => by simp at h
  | _ :: _, [], _, _, _, h => by simp at h
  | a :: fs, b :: vs, 0, f, h, hl => by simp at h; subst h; rfl
  | a :: fs, b :: vs, j + 1, f, h, hl => by
    have := zero_fcells (fs := fs) (vs := vs) (j := j) (by simpa using h) (by simpa using hl)
    rw [List.set_cons_succ, fnCells, this, fnCells, List.set_append_right _ _ (by simp [fnCell]; omega)]
    congr 2
    simp [fnCell]; omega
theorem below_set {w : World} : ∀ {ns : List NodeM} {vs : List Value} {j : Nat} {nd : NodeM}, ns[j]? = some nd → Below2 w ns vs → Below2 w (ns.set j (zeroN nd)) vs
  | [], _, _, _, h, _ => by simp at h
  | _ :: _, [], _, _, _, h => h.elim
  | a :: ns, b :: vs, 0, nd, h, hb => by simp at h; subst h; exact ⟨hb.1, hb.2⟩
  | a :: ns, b :: vs, j + 1, nd, h, hb => ⟨hb.1, below_set (ns := ns) (by simpa using h) hb.2⟩
theorem par_set {w : World} : ∀ {fs : List FuncM} {vs : List Value} {j : Nat} {f : FuncM}, fs[j]? = some f → ParAll w fs vs → ParAll w (fs.set j (zeroF f)) vs
  | [], _, _, _, h, _ => by simp at h
  | _ :: _, [], _, _, _, h => h.elim
  | a :: fs, b :: vs, 0, f, h, hb => by simp at h; subst h; exact ⟨hb.1, hb.2⟩
  | a :: fs, b :: vs, j + 1, f, h, hb => ⟨hb.1, par_set (fs := fs) (by simpa using h) hb.2⟩
/-- A tree in a variable's box. -/
structure TB (b : Nat) (nv fv : Value) (lvs pvs : List Value) (ns : List NodeM) (fs : List FuncM) (w : World) : Prop where
  tree : TreeAt 0 w nv fv lvs pvs ns fs
  box : Blk w b 26 #[nv, fv]
section
variable {b : Nat} {nv fv : Value} {lvs pvs : List Value} {ns : List NodeM} {fs : List FuncM} {w w' : World}
theorem TB.no (h : TB b nv fv lvs pvs ns fs w) (f : Fr nob w w') : TB b nv fv lvs pvs ns fs w' := ⟨h.tree.no f, h.box.fr f (fun x => x)⟩
theorem TB.cells (h : TB b nv fv lvs pvs ns fs w) : w.cell? ⟨b, 0, none⟩ = some nv ∧ w.cell? ⟨b, 1, none⟩ = some fv := ⟨by simpa using h.box.cell 0, by simpa using h.box.cell 1⟩
theorem one_set (w : World) (g i : Nat) (u : Value) : Fr (oneb g) w (w.setCell ⟨g, i, none⟩ u) := (Fr.refl _ w).setCell _ _ (fun _ => rfl)
/-- A cell of a block of nodes, or of functions, that is no block of this tree, is set. -/
theorem TB.far (h : TB b nv fv lvs pvs ns fs w) {g i : Nat} {t : TypeId} {cs : Array Value} (hg : Blk w g t cs) (ht : t = 34 ∨ t = 37) (hn : blk nv ≠ some g) (hf : blk fv ≠ some g) (u : Value) : TB b nv fv lvs pvs ns fs (w.setCell ⟨g, i, none⟩ u) := by
  refine ⟨⟨h.tree.nodes.far hn u, Below2.one hg (by rcases ht with rfl | rfl <;> decide) h.tree.below (one_set w g i u), h.tree.same, h.tree.fns.far hf u, h.tree.pars.to (one_set w g i u) (fun k cs' hk hm => ?_), h.tree.samef, h.tree.newn, h.tree.newf⟩, h.box.far (p := ⟨g, i, none⟩) (h.box.ne hg (by rcases ht with rfl | rfl <;> decide)) u⟩
  have e : k = g := hm
  subst e
  exact hk.ne hg (by rcases ht with rfl | rfl <;> decide) rfl
theorem own_blk {e size n g c : Nat} {xs : List Value} (h : Own w e size (.slice (some ⟨g, 0, none⟩) n c) n xs) (hn : 0 < n) : (∃ cs, Blk w g e cs) ∧ blk (.slice (some ⟨g, 0, none⟩) n c) = some g := by
  obtain ⟨_, A, c', e1, h1⟩ := h
  injection e1 with e1 e2 e3
  rcases h1 with ⟨h1, h2⟩ | ⟨g', cur, h1, hc, h2, _⟩
  · omega
  · rw [h1] at e1
    injection e1 with e1
    injection e1 with e1
    subst e1
    exact ⟨⟨cur, h2⟩, by show (if c = 0 then none else some g) = some g; rw [if_neg (by omega)]⟩
/-- A node's line is struck. -/
theorem TB.nline {nb c : Nat} (h : TB b (.slice (some ⟨nb, 0, none⟩) ns.length c) fv lvs pvs ns fs w) {j : Nat} {nd : NodeM} (hx : ns[j]? = some nd) : TB b (.slice (some ⟨nb, 0, none⟩) ns.length c) fv lvs pvs (ns.set j (zeroN nd)) fs (w.setCell ⟨nb, j * 5 + 1, none⟩ (.int .i64 0)) := by
  have hlt := (List.getElem?_eq_some_iff.1 hx).1
  obtain ⟨⟨cs, hg⟩, hbk⟩ := own_blk h.tree.nodes (by omega)
  have hst := h.tree.nodes.store (g := nb) hbk (j * 5 + 1) (.int .i64 0)
  rw [← zero_cells hx h.tree.same] at hst
  have hf : blk fv ≠ some nb := h.tree.fns.blk_ne hg (by decide)
  have hl : (ns.set j (zeroN nd)).length = ns.length := List.length_set
  refine ⟨⟨by rw [hl]; exact hst, below_set hx (Below2.one hg (by decide) h.tree.below (one_set w nb (j * 5 + 1) _)), by rw [hl]; exact h.tree.same, h.tree.fns.far (p := ⟨nb, j * 5 + 1, none⟩) hf _, h.tree.pars.to (one_set w nb (j * 5 + 1) _) (fun k cs' hk hm => ?_), h.tree.samef, h.tree.newn, h.tree.newf⟩, h.box.far (p := ⟨nb, j * 5 + 1, none⟩) (h.box.ne hg (by decide)) _⟩
  have e : k = nb := hm
  subst e
  exact hk.ne hg (by decide) rfl
/-- A function's line is struck. -/
theorem TB.fline {fb c : Nat} (h : TB b nv (.slice (some ⟨fb, 0, none⟩) fs.length c) lvs pvs ns fs w) {j : Nat} {f : FuncM} (hx : fs[j]? = some f) : TB b nv (.slice (some ⟨fb, 0, none⟩) fs.length c) lvs pvs ns (fs.set j (zeroF f)) (w.setCell ⟨fb, j * 5 + 1, none⟩ (.int .i64 0)) := by
  have hlt := (List.getElem?_eq_some_iff.1 hx).1
  obtain ⟨⟨cs, hg⟩, hbk⟩ := own_blk h.tree.fns (by omega)
  have hst := h.tree.fns.store (g := fb) hbk (j * 5 + 1) (.int .i64 0)
  rw [← zero_fcells hx h.tree.samef] at hst
  have hn : blk nv ≠ some fb := h.tree.nodes.blk_ne hg (by decide)
  have hl : (fs.set j (zeroF f)).length = fs.length := List.length_set
  have hp : ParAll (w.setCell ⟨fb, j * 5 + 1, none⟩ (.int .i64 0)) fs pvs := h.tree.pars.to (one_set w fb (j * 5 + 1) _) (fun k cs' hk hm => by
    have e : k = fb := hm
    subst e
    exact hk.ne hg (by decide) rfl)
  exact ⟨⟨h.tree.nodes.far (p := ⟨fb, j * 5 + 1, none⟩) hn _, Below2.one hg (by decide) h.tree.below (one_set w fb (j * 5 + 1) _), h.tree.same, by rw [hl]; exact hst, par_set hx hp, by rw [hl]; exact h.tree.samef, h.tree.newn, h.tree.newf⟩, h.box.far (p := ⟨fb, j * 5 + 1, none⟩) (h.box.ne hg (by decide)) _⟩
end
set_option maxHeartbeats 1000000 in
set_option maxRecDepth 100000 in
/-- Two rows of the same numbers. -/
theorem rints_any {kv kv2 : Value} {l : List Nat} {w : World} (h1 : Own w 3 1 kv l.length (ints l)) (h2 : Own w 3 1 kv2 l.length (ints l)) : Calls Tryd.prog 22 #[kv, kv2] w fun e w' => e = .returned (.bool true) ∧ Fr nob w w' := by
  obtain ⟨KA, KC, rfl, ka, kc⟩ := h1.cap
  obtain ⟨LA, LC, rfl, _, _⟩ := h2.cap
  have hl4 : (l.length : Int) ≤ 9223372036854775807 := by unfold maxLen at kc; omega
  have H1 := hid h1
  have H2 := hid h2
  clear h1 h2 ka kc
  go_enter Tryd.func22, Tryd.ntmps22
  go_wp2_with fail
  go_loopw [5] (fun i wr => ∃ j : Nat, j ≤ l.length ∧ i = .int .i64 j ∧ Hid (Fr nob w wr)) (fun i _ => l.length - (intOf i).toNat)
  case atStart => exact ⟨0, Nat.zero_le _, rfl, hid (Fr.refl nob w)⟩
  case round =>
    obtain ⟨j, hj, rfl, FR⟩ := hrel
    by_cases hlt : j < l.length
    · have hlt2 : (j : Int) < (l.length : Int) := by omega
      obtain ⟨a, ha⟩ : ∃ a, l[j]? = some a := ⟨_, List.getElem?_eq_getElem hlt⟩
      obtain ⟨kb, c1, e, _, hq⟩ := kids_get (H1.out.fr FR.out (fun _ _ x => x)) (by omega)
      injection e with e1 e2 e3
      subst e1
      obtain ⟨mb, c2, e, _, hq2⟩ := kids_get (H2.out.fr FR.out (fun _ _ x => x)) (by omega)
      injection e with e1 e4 e5
      subst e1
      have k0 := hq j a ha
      have k1 := hq2 j a ha
      clear hq hq2 e2 e3 e4 e5 ha
      go_wp2_with fail
      go_quiet (fail)
      go_wp2_with fail
      go_roundw
      case rel => exact ⟨j + 1, by omega, by go_num, hid (by first | exact FR.out | exact FR.out.drewN _)⟩
      case measure => simp [intOf]; omega
    · have hle : (l.length : Int) ≤ (j : Int) := by omega
      go_wp2_with fail
      go_ret
      exact ⟨rfl, FR.out⟩
end Go.Proofs.YtahhgnbiahomiaaDoor
/- Back: Same, of two trees that are the same. -/
namespace Go.Proofs.YtahhgnbiahomiaaDoor
open Go.RowKit
set_option linter.unusedVariables false
set_option linter.unusedSimpArgs false
section
variable {nv fv nv2 fv2 : Value} {lvs pvs lvs2 pvs2 : List Value} {ns : List NodeM} {fs : List FuncM} {w w' : World}
def TT (B : Nat) (nv fv nv2 fv2 : Value) (lvs pvs lvs2 pvs2 : List Value) (ns : List NodeM) (fs : List FuncM) (w : World) : Prop := TB B nv fv lvs pvs ns fs w ∧ TB (B + 1) nv2 fv2 lvs2 pvs2 ns fs w
theorem TT.no {B : Nat} (h : TT B nv fv nv2 fv2 lvs pvs lvs2 pvs2 ns fs w) (f : Fr nob w w') : TT B nv fv nv2 fv2 lvs pvs lvs2 pvs2 ns fs w' := ⟨h.1.no f, h.2.no f⟩
set_option maxHeartbeats 8000000 in
set_option maxRecDepth 100000 in
theorem same_any (h1 : TreeAt 0 w nv fv lvs pvs ns fs) (h2 : TreeAt 0 w nv2 fv2 lvs2 pvs2 ns fs) (hn : ns.length ≤ 1000) (hfl : fs.length ≤ 1000) (hps : ∀ f ∈ fs, f.params.length ≤ 1000) :
    Calls Tryd.prog 11 #[.agg #[nv, fv], .agg #[nv2, fv2]] w fun e w' => e = .returned (.bool true) ∧ Fr nob w w' := by
  obtain ⟨NA, NC, rfl, _, _⟩ := h1.nodes.cap
  obtain ⟨FA, FC, rfl, _, _⟩ := h1.fns.cap
  obtain ⟨MA, MC, rfl, _, _⟩ := h2.nodes.cap
  obtain ⟨GA, GC, rfl, _, _⟩ := h2.fns.cap
  have S0 := hid (show TT w.heap.size (.slice NA ns.length NC) (.slice FA fs.length FC) (.slice MA ns.length MC) (.slice GA fs.length GC) lvs pvs lvs2 pvs2 ns fs ((w.alloc (.cells #[.slice NA ns.length NC, .slice FA fs.length FC] 26)).alloc (.cells #[.slice MA ns.length MC, .slice GA fs.length GC] 26)) from by
    refine ⟨⟨(h1.no ((Fr.refl nob w).alloc _)).no ((Fr.refl nob _).alloc _), (Blk.new w _ _).alloc _⟩, ⟨(h2.no ((Fr.refl nob w).alloc _)).no ((Fr.refl nob _).alloc _), ?_⟩⟩
    exact Blk.new1 _ _ _ _)
  have F0 := hid (show Fr nob w ((w.alloc (.cells #[.slice NA ns.length NC, .slice FA fs.length FC] 26)).alloc (.cells #[.slice MA ns.length MC, .slice GA fs.length GC] 26)) from ((Fr.refl nob w).alloc _).alloc _)
  have HPS := hid hps
  have hn2 : (ns.length : Int) ≤ 1000 := by omega
  have hf2 : (fs.length : Int) ≤ 1000 := by omega
  clear h1 h2 hps
  go_enter Tryd.func11, Tryd.ntmps11
  go_wp2_with fail
  generalize hw1 : (w.alloc (.cells #[.slice NA ns.length NC, .slice FA fs.length FC] 26)).alloc (.cells #[.slice MA ns.length MC, .slice GA fs.length GC] 26) = w1 at *
  clear hw1
  generalize hB : w.heap.size = B at *
  clear hB
  go_loopw [5] (fun i wr => ∃ j : Nat, j ≤ ns.length ∧ i = .int .i64 j ∧ Hid (TT B (.slice NA ns.length NC) (.slice FA fs.length FC) (.slice MA ns.length MC) (.slice GA fs.length GC) lvs pvs lvs2 pvs2 ns fs wr) ∧ Hid (Fr nob w wr)) (fun i _ => ns.length - (intOf i).toNat)
  case atStart => exact ⟨0, Nat.zero_le _, rfl, S0, F0⟩
  case round =>
    obtain ⟨j, hj, rfl, S, FR⟩ := hrel
    obtain ⟨d0, d1⟩ := S.out.1.cells
    obtain ⟨d2, d3⟩ := S.out.2.cells
    by_cases hlt : j < ns.length
    · have hlt2 : (j : Int) < (ns.length : Int) := by omega
      have hj6 : (j : Int) ≤ 1000 := by omega
      obtain ⟨nd, hnd⟩ : ∃ nd, ns[j]? = some nd := ⟨_, List.getElem?_eq_getElem hlt⟩
      obtain ⟨nb, c1, lv, e, _, hlv, x0, x1, x2, x3, x4⟩ := S.out.1.tree.node hnd
      injection e with e1 e2 e3
      subst e1
      obtain ⟨mb, c2, lv2, e, _, hlv2, y0, y1, y2, y3, y4⟩ := S.out.2.tree.node hnd
      injection e with e1 e4 e5
      subst e1
      obtain ⟨KA, KC, rfl, _, _⟩ := hlv.cap
      obtain ⟨LA, LC, rfl, _, _⟩ := hlv2.cap
      have HK1 := hid hlv
      have HK2 := hid hlv2
      have n1 : nb < wr.heap.size := World.block_lt_of_cell? wr ⟨nb, j * 5, none⟩ x0
      have n2 : mb < wr.heap.size := World.block_lt_of_cell? wr ⟨mb, j * 5, none⟩ y0
      have n3 : ¬ nb = wr.heap.size := by omega
      have n4 : ¬ mb = wr.heap.size := by omega
      have n5 : B < wr.heap.size := World.block_lt_of_cell? wr ⟨B, 0, none⟩ d0
      have n6 : B + 1 < wr.heap.size := World.block_lt_of_cell? wr ⟨B + 1, 0, none⟩ d2
      have n7 : ¬ B = wr.heap.size := by omega
      have n8 : ¬ B + 1 = wr.heap.size := by omega
      clear hnd e2 e3 e4 e5 hlv hlv2
      obtain ⟨k, line, n, name, kl⟩ := nd
      dsimp only at x0 x1 x2 x3 x4 y0 y1 y2 y3 y4 HK1 HK2
      go_wp2_with fail
      have FA2 : Fr nob wr ((wr.alloc (.cells #[.int .i64 k, .int .i64 line, .int .i64 n, .string (bs name), .slice KA kl.length KC] 34)).alloc (.cells #[.int .i64 k, .int .i64 line, .int .i64 n, .string (bs name), .slice LA kl.length LC] 34)) := ((Fr.refl nob wr).alloc _).alloc _
      have XB := hid (show Blk ((wr.alloc (.cells #[.int .i64 k, .int .i64 line, .int .i64 n, .string (bs name), .slice KA kl.length KC] 34)).alloc (.cells #[.int .i64 k, .int .i64 line, .int .i64 n, .string (bs name), .slice LA kl.length LC] 34)) wr.heap.size 34 _ from (Blk.new wr _ _).alloc _)
      have YB := hid (show Blk ((wr.alloc (.cells #[.int .i64 k, .int .i64 line, .int .i64 n, .string (bs name), .slice KA kl.length KC] 34)).alloc (.cells #[.int .i64 k, .int .i64 line, .int .i64 n, .string (bs name), .slice LA kl.length LC] 34)) (wr.heap.size + 1) 34 _ from Blk.new1 _ _ _ _)
      have S2 := hid (S.out.no FA2)
      have FR2 := hid (FR.out.tr FA2)
      have K1 := hid (HK1.out.fr FA2 (fun _ _ x => x))
      have K2 := hid (HK2.out.fr FA2 (fun _ _ x => x))
      clear n1 n2 n3 n4 n5 n6 n7 n8 d0 d1 d2 d3 x0 x1 x2 x3 x4 y0 y1 y2 y3 y4 FA2
      generalize hC : wr.heap.size = C at *
      clear hC
      generalize hw2 : (wr.alloc (.cells #[.int .i64 k, .int .i64 line, .int .i64 n, .string (bs name), .slice KA kl.length KC] 34)).alloc (.cells #[.int .i64 k, .int .i64 line, .int .i64 n, .string (bs name), .slice LA kl.length LC] 34) = w2 at *
      clear hw2
      refine (rints_any K1.out K2.out).mono ?_
      rintro e w3 ⟨rfl, hf⟩
      have S3 := hid (S2.out.no hf)
      have FR3 := hid (FR2.out.tr hf)
      have X3 := hid (XB.out.fr hf (fun x => x))
      have Y3 := hid (YB.out.fr hf (fun x => x))
      clear hf
      have a0 : w3.cell? ⟨C, 0, none⟩ = some (.int .i64 k) := by simpa using X3.out.cell 0
      have a1 : w3.cell? ⟨C, 1, none⟩ = some (.int .i64 line) := by simpa using X3.out.cell 1
      have a2 : w3.cell? ⟨C, 2, none⟩ = some (.int .i64 n) := by simpa using X3.out.cell 2
      have a3 : w3.cell? ⟨C, 3, none⟩ = some (.string (bs name)) := by simpa using X3.out.cell 3
      have b0 : w3.cell? ⟨C + 1, 0, none⟩ = some (.int .i64 k) := by simpa using Y3.out.cell 0
      have b1 : w3.cell? ⟨C + 1, 1, none⟩ = some (.int .i64 line) := by simpa using Y3.out.cell 1
      have b2 : w3.cell? ⟨C + 1, 2, none⟩ = some (.int .i64 n) := by simpa using Y3.out.cell 2
      have b3 : w3.cell? ⟨C + 1, 3, none⟩ = some (.string (bs name)) := by simpa using Y3.out.cell 3
      go_wp2_with fail
      go_roundw
      case rel => exact ⟨j + 1, by omega, by go_num, S3, FR3⟩
      case measure => simp [intOf]; omega
    · have hle : (ns.length : Int) ≤ (j : Int) := by omega
      go_wp2_with fail
      go_loopw [9] (fun i wr => ∃ j : Nat, j ≤ fs.length ∧ i = .int .i64 j ∧ Hid (TT B (.slice NA ns.length NC) (.slice FA fs.length FC) (.slice MA ns.length MC) (.slice GA fs.length GC) lvs pvs lvs2 pvs2 ns fs wr) ∧ Hid (Fr nob w wr)) (fun i _ => fs.length - (intOf i).toNat)
      case atStart => exact ⟨0, Nat.zero_le _, rfl, S, FR⟩
      case round =>
        clear d0 d1 d2 d3 S FR
        obtain ⟨j, hj, rfl, S, FR⟩ := hrel
        obtain ⟨d0, d1⟩ := S.out.1.cells
        obtain ⟨d2, d3⟩ := S.out.2.cells
        by_cases hlt : j < fs.length
        · have hlt2 : (j : Int) < (fs.length : Int) := by omega
          have hj6 : (j : Int) ≤ 1000 := by omega
          obtain ⟨f, hf⟩ : ∃ f, fs[j]? = some f := ⟨_, List.getElem?_eq_getElem hlt⟩
          obtain ⟨fb, e, _⟩ := S.out.1.tree.fns.some (by omega)
          subst e
          obtain ⟨gb, e, _⟩ := S.out.2.tree.fns.some (by omega)
          subst e
          obtain ⟨pv, hp, x0, x1, x2, x3, x4⟩ := S.out.1.tree.fn hf
          obtain ⟨qv, hq, y0, y1, y2, y3, y4⟩ := S.out.2.tree.fn hf
          obtain ⟨PA, PC, rfl, _, _⟩ := hp.cap
          obtain ⟨QA, QC, rfl, _, _⟩ := hq.cap
          have HP := hid hp
          have HQ := hid hq
          have hpl := HPS.out f (List.mem_of_getElem? hf)
          have n1 : fb < wr.heap.size := World.block_lt_of_cell? wr ⟨fb, j * 5, none⟩ x0
          have n2 : gb < wr.heap.size := World.block_lt_of_cell? wr ⟨gb, j * 5, none⟩ y0
          have n3 : ¬ fb = wr.heap.size := by omega
          have n4 : ¬ gb = wr.heap.size := by omega
          have n5 : B < wr.heap.size := World.block_lt_of_cell? wr ⟨B, 0, none⟩ d0
          have n6 : B + 1 < wr.heap.size := World.block_lt_of_cell? wr ⟨B + 1, 0, none⟩ d2
          have n7 : ¬ B = wr.heap.size := by omega
          have n8 : ¬ B + 1 = wr.heap.size := by omega
          clear hf hp hq
          obtain ⟨name, line, ps, ret, body⟩ := f
          dsimp only at x0 x1 x2 x3 x4 y0 y1 y2 y3 y4 HP HQ hpl
          have hpl2 : (ps.length : Int) ≤ 1000 := by omega
          go_wp2_with fail
          have FA2 : Fr nob wr ((wr.alloc (.cells #[.string (bs name), .int .i64 line, .slice PA ps.length PC, .int .i64 ret, .int .i64 body] 37)).alloc (.cells #[.string (bs name), .int .i64 line, .slice QA ps.length QC, .int .i64 ret, .int .i64 body] 37)) := ((Fr.refl nob wr).alloc _).alloc _
          have XB := hid (show Blk ((wr.alloc (.cells #[.string (bs name), .int .i64 line, .slice PA ps.length PC, .int .i64 ret, .int .i64 body] 37)).alloc (.cells #[.string (bs name), .int .i64 line, .slice QA ps.length QC, .int .i64 ret, .int .i64 body] 37)) wr.heap.size 37 _ from (Blk.new wr _ _).alloc _)
          have YB := hid (show Blk ((wr.alloc (.cells #[.string (bs name), .int .i64 line, .slice PA ps.length PC, .int .i64 ret, .int .i64 body] 37)).alloc (.cells #[.string (bs name), .int .i64 line, .slice QA ps.length QC, .int .i64 ret, .int .i64 body] 37)) (wr.heap.size + 1) 37 _ from Blk.new1 _ _ _ _)
          have S2 := hid (S.out.no FA2)
          have FR2 := hid (FR.out.tr FA2)
          have K1 := hid (HP.out.fr FA2 (fun _ _ x => x))
          have K2 := hid (HQ.out.fr FA2 (fun _ _ x => x))
          clear n1 n2 n3 n4 n5 n6 n7 n8 d0 d1 d2 d3 x0 x1 x2 x3 x4 y0 y1 y2 y3 y4 FA2
          generalize hC : wr.heap.size = C at *
          clear hC
          generalize hw2 : (wr.alloc (.cells #[.string (bs name), .int .i64 line, .slice PA ps.length PC, .int .i64 ret, .int .i64 body] 37)).alloc (.cells #[.string (bs name), .int .i64 line, .slice QA ps.length QC, .int .i64 ret, .int .i64 body] 37) = w2 at *
          clear hw2
          go_loopw [12] (fun i wq => ∃ j : Nat, j ≤ ps.length ∧ i = .int .i64 j ∧ Hid (TT B (.slice NA ns.length NC) (.slice (some ⟨fb, 0, none⟩) fs.length FC) (.slice MA ns.length MC) (.slice (some ⟨gb, 0, none⟩) fs.length GC) lvs pvs lvs2 pvs2 ns fs wq) ∧ Hid (Fr nob w wq) ∧ Hid (Fr nob w2 wq)) (fun i _ => ps.length - (intOf i).toNat)
          case atStart => exact ⟨0, Nat.zero_le _, rfl, S2, FR2, hid (Fr.refl nob w2)⟩
          case round =>
            clear S FR
            obtain ⟨m, hm, rfl, S, FR, F2⟩ := hrel
            have X3 := hid (XB.out.fr F2.out (fun x => x))
            have Y3 := hid (YB.out.fr F2.out (fun x => x))
            have a2 : wr.cell? ⟨C, 2, none⟩ = some (.slice PA ps.length PC) := by simpa using X3.out.cell 2
            have b2 : wr.cell? ⟨C + 1, 2, none⟩ = some (.slice QA ps.length QC) := by simpa using Y3.out.cell 2
            by_cases hml : m < ps.length
            · have hml2 : (m : Int) < (ps.length : Int) := by omega
              have hm6 : (m : Int) ≤ 1000 := by omega
              obtain ⟨q, hq⟩ : ∃ q, ps[m]? = some q := ⟨_, List.getElem?_eq_getElem hml⟩
              obtain ⟨pb, e, hc1⟩ := (K1.out.fr F2.out (fun _ _ x => x)).some (by omega)
              subst e
              obtain ⟨qb, e, hc2⟩ := (K2.out.fr F2.out (fun _ _ x => x)).some (by omega)
              subst e
              have p0 := hc1 _ _ (paramCells_get hq).1
              have p1 := hc1 _ _ (paramCells_get hq).2
              have q0 := hc2 _ _ (paramCells_get hq).1
              have q1 := hc2 _ _ (paramCells_get hq).2
              clear hc1 hc2 hq
              go_wp2_with fail
              go_quiet (fail)
              go_wp2_with fail
              go_roundw
              case rel => exact ⟨m + 1, by omega, by go_num, hid (by first | exact S.out | exact S.out.no ((Fr.refl nob _).drewN _)), hid (by first | exact FR.out | exact FR.out.drewN _), hid (by first | exact F2.out | exact F2.out.drewN _)⟩
              case measure => simp [intOf]; omega
            · have hle : (ps.length : Int) ≤ (m : Int) := by omega
              go_wp2_with fail
              go_roundw
              case rel => exact ⟨j + 1, by omega, by go_num, S, FR⟩
              case measure => simp [intOf]; omega
        · have hle : (fs.length : Int) ≤ (j : Int) := by omega
          go_wp2_with fail
          go_ret
          exact ⟨rfl, FR.out⟩
end
end Go.Proofs.YtahhgnbiahomiaaDoor
/- Back: two trees in memory, whose lines are struck. -/
namespace Go.Proofs.YtahhgnbiahomiaaDoor
open Go.RowKit
set_option linter.unusedVariables false
set_option linter.unusedSimpArgs false
structure ZZ (w0 : World) (B C : Nat) (NV FV NU FU : Value) (lvs pvs lvs2 pvs2 : List Value) (ns us : List NodeM) (fs gs : List FuncM) (w : World) : Prop where
  t : TB B NV FV lvs pvs ns fs w
  u : TB C NU FU lvs2 pvs2 us gs w
  fr : Fr nob w0 w
  dn : ∀ k, blk NV = some k → blk NU ≠ some k
  df : ∀ k, blk FV = some k → blk FU ≠ some k
  n1 : ∀ k, blk NV = some k → w0.heap.size ≤ k
  n2 : ∀ k, blk NU = some k → w0.heap.size ≤ k
  n3 : ∀ k, blk FV = some k → w0.heap.size ≤ k
  n4 : ∀ k, blk FU = some k → w0.heap.size ≤ k
section
variable {w0 : World} {B C : Nat} {NV FV NU FU : Value} {lvs pvs lvs2 pvs2 : List Value} {ns us : List NodeM} {fs gs : List FuncM} {w w' : World}
theorem ZZ.swap (h : ZZ w0 B C NV FV NU FU lvs pvs lvs2 pvs2 ns us fs gs w) : ZZ w0 C B NU FU NV FV lvs2 pvs2 lvs pvs us ns gs fs w :=
  ⟨h.u, h.t, h.fr, fun k h1 h2 => h.dn k h2 h1, fun k h1 h2 => h.df k h2 h1, h.n2, h.n1, h.n4, h.n3⟩
theorem ZZ.no (h : ZZ w0 B C NV FV NU FU lvs pvs lvs2 pvs2 ns us fs gs w) (f : Fr nob w w') : ZZ w0 B C NV FV NU FU lvs pvs lvs2 pvs2 ns us fs gs w' :=
  ⟨h.t.no f, h.u.no f, h.fr.tr f, h.dn, h.df, h.n1, h.n2, h.n3, h.n4⟩
theorem ZZ.tn {A : Option Addr} {n c j : Nat} {nd : NodeM} (h : ZZ w0 B C (.slice A n c) FV NU FU lvs pvs lvs2 pvs2 (zp zeroN j ns) us fs gs w) (hx : ns[j]? = some nd) :
    ∃ nb, A = some ⟨nb, 0, none⟩ ∧ w.cell? ⟨nb, j * 5 + 1, none⟩ = some (.int .i64 nd.line) ∧ w.frozen? ⟨nb, j * 5 + 1, none⟩ = false ∧ ZZ w0 B C (.slice A n c) FV NU FU lvs pvs lvs2 pvs2 (zp zeroN (j + 1) ns) us fs gs (w.setCell ⟨nb, j * 5 + 1, none⟩ (.int .i64 0)) := by
  have hx2 : (zp zeroN j ns)[j]? = some nd := by rw [zp_get]; exact hx
  have hlt := (List.getElem?_eq_some_iff.1 hx2).1
  obtain ⟨nb, c', lv, e, _, _, _, x1, _⟩ := h.t.tree.node hx2
  injection e with e1 e2 e3
  subst e1
  subst e2
  obtain ⟨⟨cs, hg⟩, hbk⟩ := own_blk h.t.tree.nodes (by omega)
  refine ⟨nb, rfl, x1, hg.frozen _, ?_⟩
  have h1 := h.t.nline hx2
  rw [← zp_set zeroN j ns nd hx] at h1
  exact ⟨h1, h.u.far hg (.inl rfl) (h.dn nb hbk) (h.u.tree.fns.blk_ne hg (by decide)) _, h.fr.setCell _ _ (fun hl => absurd (h.n1 nb hbk) (by show ¬ w0.heap.size ≤ nb; exact Nat.not_le_of_lt hl)), h.dn, h.df, h.n1, h.n2, h.n3, h.n4⟩
theorem ZZ.tf {A : Option Addr} {n c j : Nat} {f : FuncM} (h : ZZ w0 B C NV (.slice A n c) NU FU lvs pvs lvs2 pvs2 ns us (zp zeroF j fs) gs w) (hx : fs[j]? = some f) :
    ∃ fb, A = some ⟨fb, 0, none⟩ ∧ w.cell? ⟨fb, j * 5 + 1, none⟩ = some (.int .i64 f.line) ∧ w.frozen? ⟨fb, j * 5 + 1, none⟩ = false ∧ ZZ w0 B C NV (.slice A n c) NU FU lvs pvs lvs2 pvs2 ns us (zp zeroF (j + 1) fs) gs (w.setCell ⟨fb, j * 5 + 1, none⟩ (.int .i64 0)) := by
  have hx2 : (zp zeroF j fs)[j]? = some f := by rw [zp_get]; exact hx
  have hlt := (List.getElem?_eq_some_iff.1 hx2).1
  obtain ⟨A', c', e, _, _⟩ := h.t.tree.fns.cap
  injection e with e1 e2 e3
  subst e2
  obtain ⟨fb, e0, _⟩ := h.t.tree.fns.some (by omega)
  subst e0
  obtain ⟨⟨cs, hg⟩, hbk⟩ := own_blk h.t.tree.fns (by omega)
  obtain ⟨pv, _, x0, x1, _⟩ := h.t.tree.fn hx2
  refine ⟨fb, rfl, x1, hg.frozen _, ?_⟩
  have h1 := h.t.fline hx2
  rw [← zp_set zeroF j fs f hx] at h1
  exact ⟨h1, h.u.far hg (.inr rfl) (h.u.tree.nodes.blk_ne hg (by decide)) (h.df fb hbk) _, h.fr.setCell _ _ (fun hl => absurd (h.n3 fb hbk) (by show ¬ w0.heap.size ≤ fb; exact Nat.not_le_of_lt hl)), h.dn, h.df, h.n1, h.n2, h.n3, h.n4⟩
theorem ZZ.un {A : Option Addr} {n c j : Nat} {nd : NodeM} (h : ZZ w0 B C NV FV (.slice A n c) FU lvs pvs lvs2 pvs2 ns (zp zeroN j us) fs gs w) (hx : us[j]? = some nd) :
    ∃ nb, A = some ⟨nb, 0, none⟩ ∧ w.cell? ⟨nb, j * 5 + 1, none⟩ = some (.int .i64 nd.line) ∧ w.frozen? ⟨nb, j * 5 + 1, none⟩ = false ∧ ZZ w0 B C NV FV (.slice A n c) FU lvs pvs lvs2 pvs2 ns (zp zeroN (j + 1) us) fs gs (w.setCell ⟨nb, j * 5 + 1, none⟩ (.int .i64 0)) := by
  obtain ⟨nb, a, b, c, d⟩ := h.swap.tn hx
  exact ⟨nb, a, b, c, d.swap⟩
theorem ZZ.uf {A : Option Addr} {n c j : Nat} {f : FuncM} (h : ZZ w0 B C NV FV NU (.slice A n c) lvs pvs lvs2 pvs2 ns us fs (zp zeroF j gs) w) (hx : gs[j]? = some f) :
    ∃ fb, A = some ⟨fb, 0, none⟩ ∧ w.cell? ⟨fb, j * 5 + 1, none⟩ = some (.int .i64 f.line) ∧ w.frozen? ⟨fb, j * 5 + 1, none⟩ = false ∧ ZZ w0 B C NV FV NU (.slice A n c) lvs pvs lvs2 pvs2 ns us fs (zp zeroF (j + 1) gs) (w.setCell ⟨fb, j * 5 + 1, none⟩ (.int .i64 0)) := by
  obtain ⟨nb, a, b, c, d⟩ := h.swap.tf hx
  exact ⟨nb, a, b, c, d.swap⟩
end
theorem alike_n {ns us : List NodeM} {fs gs : List FuncM} (h : Alike ns us fs gs) : us.map zeroN = ns.map zeroN := by
  have h1 := h.strips
  have h2 := h.ls
  clear h
  induction ns generalizing us with
  | nil =>
    have : us = [] := by simpa using h1
    subst this; rfl
  | cons n ns ih =>
    cases us with
    | nil => simp at h1
    | cons u us =>
      simp only [List.map_cons, List.cons.injEq] at h1 h2 ⊢
      refine ⟨?_, ih h1.2 h2.2⟩
      obtain ⟨k, l, m, nm, kl⟩ := n
      obtain ⟨k', l', m', nm', kl'⟩ := u
      have a := h1.1
      unfold strip at a
      injection a with a1 a2
      injection a2 with a2 a3
      injection a3 with a3 a4
      have b := h2.1
      dsimp only at a1 a2 a3 b
      subst a1 a2 a3 b
      rfl
theorem alike_f {ns us : List NodeM} {fs gs : List FuncM} (h : Alike ns us fs gs) : gs.map zeroF = fs.map zeroF := by
  apply List.ext_getElem?
  intro i
  rw [List.getElem?_map, List.getElem?_map]
  by_cases hi : i < fs.length
  · have hf : fs[i]? = some fs[i] := List.getElem?_eq_getElem hi
    obtain ⟨g, h1, h2, h3, h4, h5⟩ := h.fns i _ hf
    rw [h1, hf]
    show some (zeroF g) = some (zeroF fs[i])
    unfold zeroF
    rw [h2, h3, h4, h5]
  · rw [List.getElem?_eq_none (by have := h.lenf; omega), List.getElem?_eq_none (by omega)]
end Go.Proofs.YtahhgnbiahomiaaDoor
