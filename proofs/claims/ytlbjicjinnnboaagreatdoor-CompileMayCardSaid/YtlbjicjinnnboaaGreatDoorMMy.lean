/- MMy: ShN2, LwV. -/
import Derived.Test.YtlbjicjinnnboaaGreatDoorMPw
import Derived.Test.YtlbjicjinnnboaaGreatDoorMPt
set_option linter.unusedVariables false
set_option linter.unusedSimpArgs false
/- The parser: what the tokens' texts, and so the names of a tree, are like. -/
namespace Go.Proofs.YtlbjicjinnnboaaGreatDoor
open Go.RowKit
namespace Pw
structure NameOk (x : List UInt8) : Prop where
 some : x ≠ []
 name : NameL x
 word : wordB x = false
 short : x.length ≤ 8
structure TextOk (x : List UInt8) : Prop where
 all : ∀ b ∈ x, plainI b.toNat = true
 short : x.length ≤ 12
def TokNm (t : Tok) : Prop :=
 (t.kind = 0 → t.text = []) ∧ (t.kind = 2 → TextOk t.text) ∧ (t.kind = 3 → NameOk t.text) ∧ (t.kind = 4 → wordB t.text = true) ∧ (t.kind = 5 → twoB t.text = true ∨ ∃ c, t.text = [c] ∧ oneB c.toNat = true)
theorem run_take (q : Int → Bool) (l : List UInt8) : ∀ b ∈ l.take (runN q l), q b.toNat = true := by
 rw [take_run]
 intro b hb
 have := List.all_takeWhile (p := fun b : UInt8 => q b.toNat) (l := l)
 rw [List.all_eq_true] at this
 exact this b hb
theorem first_nm {l : List UInt8} {k o m n p : Nat} (h0 : 0 < l.length) (h : firstM l = .ok k o m n) : TokNm ⟨k, (l.drop o).take m, p⟩ := by
 unfold firstM at h
 split at h
 · unfold numberM at h
   split at h
   · injection h with h1 h2 h3 h4
     subst h1
     exact ⟨fun e => (by cases e), fun e => (by cases e), fun e => (by cases e), fun e => (by cases e), fun e => (by cases e)⟩
   · cases h
 · split at h
   · rename_i hl
     have hr : letterI (byteAt l 0) = true := hl
     have hw : withinI (byteAt l 0) = true := by unfold withinI; rw [hr]; rfl
     have h1 := runN_pos withinI l h0 hw
     unfold nameM at h
     split at h
     · rename_i hwd
       injection h with h1 h2 h3 h4
       subst h1; subst h2; subst h3
       refine ⟨fun e => (by cases e), fun e => (by cases e), fun e => (by cases e), fun _ => ?_, fun e => (by cases e)⟩
       exact hwd
     · rename_i hwd
       split at h
       · cases h
       · rename_i h8
         injection h with h1 h2 h3 h4
         subst h1; subst h2; subst h3
         refine ⟨fun e => (by cases e), fun e => (by cases e), fun _ => ?_, fun e => (by cases e), fun e => (by cases e)⟩
         have hle := runN_le withinI l
         refine ⟨fun e => ?_, ⟨run_take _ _, fun _ => ?_⟩, by simpa using hwd, by rw [List.drop_zero, List.length_take]; omega⟩
         · have := congrArg List.length e
           rw [List.drop_zero, List.length_take, List.length_nil] at this
           omega
         · show letterI (((l.take (runN withinI l)).getD 0 0).toNat : Int) = true
           have e : (l.take (runN withinI l)).getD 0 0 = l.getD 0 0 := by
            rw [List.getD, List.getD, List.getElem?_take_of_lt (by omega)]
           rw [e]; exact hr
   · split at h
     · unfold textM at h
       split at h
       · cases h
       · split at h
         · cases h
         · injection h with h1 h2 h3 h4
           subst h1; subst h2; subst h3
           refine ⟨fun e => (by cases e), fun _ => ?_, fun e => (by cases e), fun e => (by cases e), fun e => (by cases e)⟩
           exact ⟨run_take _ _, by rw [List.length_take]; omega⟩
     · unfold signM at h
       split at h
       · rename_i h2'
         injection h with h1 h2 h3 h4
         subst h1; subst h2; subst h3
         exact ⟨fun e => (by cases e), fun e => (by cases e), fun e => (by cases e), fun e => (by cases e), fun _ => .inl h2'.2⟩
       · split at h
         · rename_i ho
           injection h with h1 h2 h3 h4
           subst h1; subst h2; subst h3
           refine ⟨fun e => (by cases e), fun e => (by cases e), fun e => (by cases e), fun e => (by cases e), fun _ => .inr ?_⟩
           cases l with
           | nil => simp at h0
           | cons c r => exact ⟨c, by simp, ho⟩
         · cases h
theorem lex_nm : ∀ (n : Nat) (l : List UInt8) (p : Nat) (ts : List Tok), l.length ≤ n → lexFrom l p = .good ts → ∀ t ∈ ts, TokNm t := by
 have end0 : ∀ p : Nat, TokNm ⟨0, [], p⟩ := fun p => ⟨fun _ => rfl, fun e => (by cases e), fun e => (by cases e), fun e => (by cases e), fun e => (by cases e)⟩
 intro n
 induction n with
 | zero =>
  intro l p ts hl h t ht
  have : l = [] := List.eq_nil_of_length_eq_zero (by omega)
  subst this
  rw [lex_nil] at h
  injection h with h
  subst h
  rw [List.mem_singleton.1 ht]; exact end0 p
 | succ n ih =>
  intro l p ts hl h
  refine lex_step (Mo := fun l p => l.length ≤ n + 1 → lexFrom l p = .good ts → ∀ t ∈ ts, TokNm t) l p ?_ ?_ ?_ ?_ ?_ hl h
  · intro _ _ h t ht
    rw [lex_nil] at h
    injection h with h
    subst h
    rw [List.mem_singleton.1 ht]; exact end0 p
  · intro h0 hb hl h
    rw [lex_blank h0 hb] at h
    exact ih (l.drop 1) (p + 1) ts (by rw [List.length_drop]; omega) h
  · intro h0 hb hr hp hl h
    rw [lex_remark h0 hb hr] at h
    exact ih (l.drop (runN lineI l)) (p + runN lineI l) ts (by rw [List.length_drop]; omega) h
  · intro e h0 hb hr hf hl h
    rw [lex_err h0 hb hr hf] at h
    cases h
  · intro k o m n' h0 hb hr hf hl h
    obtain ⟨g1, g2, g3⟩ := firstM_ok h0 hf
    rw [lex_ok h0 hb hr hf] at h
    cases hq : lexFrom (l.drop n') (p + n') with
    | bad i e => rw [hq] at h; cases h
    | good us =>
     rw [hq] at h
     injection h with h
     subst h
     intro t ht
     rcases List.mem_append.1 ht with ht | ht
     · rw [List.mem_singleton.1 ht]; exact first_nm h0 hf
     · exact ih (l.drop n') (p + n') us (by rw [List.length_drop]; omega) hq t ht
theorem lexM_nm {l : List UInt8} {ts : List Tok} (h : lexM l = .good ts) : ∀ t ∈ ts, TokNm t := by
 unfold lexM at h
 split at h
 · cases h
 · exact lex_nm _ _ _ _ (Nat.le_refl _) h
def NodeNm (nd : NodeM) : Prop :=
 (nd.kind = 3 → TextOk nd.name) ∧ (nd.kind = 4 ∨ nd.kind = 5 ∨ nd.kind = 10 ∨ nd.kind = 11 ∨ nd.kind = 12 ∨ nd.kind = 21 → NameOk nd.name) ∧ (nd.kind = 9 → nd.name ∈ allSigns)
def Nms (ns : List NodeM) : Prop := ∀ nd ∈ ns, NodeNm nd
section
variable {src : List UInt8} {ts : List Tok}
theorem Nms.put {s : PS} (h : Nms s.nodes) {k line n : Nat} {name : List UInt8} {l : List Nat} (hn : NodeNm ⟨k, line, n, name, l⟩) : Nms (pPut k line n name l s).2.nodes := by
 intro nd hnd
 rcases List.mem_append.1 hnd with hnd | hnd
 · exact h nd hnd
 · rw [List.mem_singleton.1 hnd]; exact hn
theorem nm_tok (ht : ∀ t ∈ ts, TokNm t) (s : PS) : TokNm (pTok ts s) := by
 unfold pTok
 rw [List.getD]
 cases h : ts[s.i]? with
 | none => exact ⟨fun _ => rfl, fun e => (by cases e), fun e => (by cases e), fun e => (by cases e), fun e => (by cases e)⟩
 | some t => exact ht t (List.mem_of_getElem? h)
theorem named_nm (ht : ∀ t ∈ ts, TokNm t) {s : PS} (h : (pNamed ts s).e = 0) : NameOk (pName ts s) := by
 unfold pNamed at h
 unfold pName
 split at h
 · rename_i hk
   rw [if_pos hk]
   exact (nm_tok ht s).2.2.1 (pKind_kind hk).2
 · exact (e_fail (by decide) h).elim
theorem nm0 {k line n : Nat} {l : List Nat} (h : k ≠ 3 ∧ k ≠ 4 ∧ k ≠ 5 ∧ k ≠ 9 ∧ k ≠ 10 ∧ k ≠ 11 ∧ k ≠ 12 ∧ k ≠ 21) : NodeNm ⟨k, line, n, [], l⟩ :=
 ⟨fun e => absurd e h.1, fun e => (by rcases e with e | e | e | e | e | e <;> simp only at e <;> omega), fun e => (by simp only at e; omega)⟩
theorem nm1 {k line n : Nat} {name : List UInt8} {l : List Nat} (h : k ≠ 3 ∧ k ≠ 9) (hn : NameOk name) : NodeNm ⟨k, line, n, name, l⟩ :=
 ⟨fun e => absurd e h.1, fun _ => hn, fun e => absurd e h.2⟩
theorem run_nm (ht : ∀ t ∈ ts, TokNm t) : ∀ (n : Nat) (k : Task) (s : PS) (r : List Nat × PS), run src ts n k s = some r → r.2.e = 0 → Nms s.nodes → Nms r.2.nodes := by
 intro n
 induction n with
 | zero => intro k s r h; simp [run] at h
 | succ n ih =>
  intro k s r h he hs
  have ih2 : ∀ {k : Task} {s : PS} {r : List Nat × PS} {ns : List NodeM}, run src ts n k s = some r → r.2.e = 0 → s.nodes = ns → Nms ns → Nms r.2.nodes := fun h1 h2 h3 h4 => by
   subst h3
   exact ih _ _ _ h1 h2 h4
  cases k with
  | atom =>
   simp only [run] at h
   split at h
   · rename_i h0
     simp only [Option.some.injEq] at h; subst h; exact absurd he h0
   · split at h
     · simp only [Option.some.injEq] at h; subst h; exact Nms.put (s := pGo s) hs (nm0 (by decide))
     · split at h
       · rename_i h2
         simp only [Option.some.injEq] at h; subst h
         exact Nms.put (s := pGo s) hs ⟨fun _ => (nm_tok ht s).2.1 h2, fun e => (by rcases e with e | e | e | e | e | e <;> cases e), fun e => (by cases e)⟩
       · split at h
         · rename_i h3
           have hn := (nm_tok ht s).2.2.1 h3
           split at h
           · simp only [Option.map_eq_some_iff] at h
             obtain ⟨q, hq, rfl⟩ := h
             have c := ih2 hq (e_must (x := [93]) (ts := ts) he) (show _ = s.nodes by rw [nodes_must, nodes_down]; rfl) hs
             exact Nms.put (s := pUp (pMust ts [93] q.2)) (by rw [nodes_up, nodes_must]; exact c) (nm1 (by decide) hn)
           · simp only [Option.some.injEq] at h; subst h; exact Nms.put (s := pGo s) hs (nm1 (by decide) hn)
         · split at h
           · simp only [Option.some.injEq] at h; subst h; exact Nms.put (s := pGo s) hs (nm0 (by decide))
           · split at h
             · simp only [Option.some.injEq] at h; subst h; exact Nms.put (s := pGo s) hs (nm0 (by decide))
             · split at h
               · split at h
                 · simp only [Option.map_eq_some_iff] at h
                   obtain ⟨q, hq, rfl⟩ := h
                   have c := ih2 hq (e_must (x := [41]) (ts := ts) he) (show _ = s.nodes by rw [nodes_must, nodes_down]; rfl) hs
                   exact Nms.put (s := pUp (pMust ts [41] q.2)) (by rw [nodes_up, nodes_must]; exact c) (nm0 (by decide))
                 · simp only [Option.some.injEq] at h; subst h; exact (e_fail (by decide) he).elim
               · split at h
                 · simp only [Option.map_eq_some_iff] at h
                   obtain ⟨q, hq, rfl⟩ := h
                   have c := ih2 hq (e_must (x := [41]) (ts := ts) he) (show _ = s.nodes by rw [nodes_must, nodes_down]) hs
                   show Nms (pMust ts [41] q.2).nodes
                   rw [nodes_must]; exact c
                 · simp only [Option.some.injEq] at h; subst h; exact (e_fail (by decide) he).elim
  | factor =>
   simp only [run] at h
   have go : ∀ {k : Nat} (hk : k ≠ 3 ∧ k ≠ 4 ∧ k ≠ 5 ∧ k ≠ 9 ∧ k ≠ 10 ∧ k ≠ 11 ∧ k ≠ 12 ∧ k ≠ 21), ((run src ts n .factor (pGo (pDown ts s))).map fun r => pPut k (pLine src ts s) 0 [] r.1 (pUp r.2)) = some r → Nms r.2.nodes := fun hk h => by
     simp only [Option.map_eq_some_iff] at h
     obtain ⟨q, hq, rfl⟩ := h
     have c := ih2 hq he (show (pDown ts s).nodes = s.nodes from nodes_down s) hs
     exact Nms.put (s := pUp q.2) c (nm0 hk)
   split at h
   · exact go (by decide) h
   · split at h
     · exact go (by decide) h
     · exact ih _ _ _ h he hs
  | chain lv =>
   simp only [run] at h
   split at h
   · exact ih _ _ _ h he hs
   · simp only [Option.bind_eq_some_iff] at h
     obtain ⟨q, hq, h⟩ := h
     exact ih _ _ _ h he (ih2 hq (run_e h he) rfl hs)
  | more lv line y =>
   simp only [run] at h
   split at h
   · simp only [Option.some.injEq] at h; subst h; exact hs
   · rename_i hx
     simp only [Option.bind_eq_some_iff] at h
     obtain ⟨q, hq, h⟩ := h
     have key : q.2.e = 0 → Nms (pPut 9 line 0 (pNext ts lv s) [y, q.1.headD 0] q.2).2.nodes := fun e1 =>
       (ih2 hq e1 (show (pGo s).nodes = s.nodes from rfl) hs).put ⟨fun e => (by cases e), fun e => (by rcases e with e | e | e | e | e | e <;> cases e), fun _ => next_sign hx⟩
     split at h
     · simp only [Option.some.injEq] at h; subst h
       exact key he
     · have e5 := run_e h he
       exact ih _ _ _ h he (key e5)
  | args l =>
   simp only [run, Option.bind_eq_some_iff] at h
   obtain ⟨q, hq, h⟩ := h
   split at h
   · exact ih _ _ _ h he (ih2 hq (run_e (s := pGo q.2) h he) rfl hs)
   · simp only [Option.some.injEq] at h; subst h
     exact ih2 (r := q) hq he rfl hs
  | call =>
   simp only [run, Option.map_eq_some_iff] at h
   obtain ⟨q, hq, rfl⟩ := h
   have e1 : q.2.e = 0 := e_must (x := [41]) (ts := ts) he
   have hn : (pMust ts [40] (pNamed ts s)).nodes = s.nodes := by rw [nodes_must, nodes_named]
   have key : (pMust ts [40] (pNamed ts s)).e = 0 ∧ Nms q.2.nodes := by
     split at hq
     · exact ⟨run_e hq e1, ih2 hq e1 hn hs⟩
     · simp only [Option.some.injEq] at hq; subst hq
       exact ⟨e1, by show Nms (pMust ts [40] (pNamed ts s)).nodes; rw [hn]; exact hs⟩
   exact Nms.put (s := pMust ts [41] q.2) (by rw [nodes_must]; exact key.2) (nm1 (by decide) (named_nm ht (e_must key.1)))
  | right =>
   simp only [run] at h
   split at h
   · simp only [Option.some.injEq] at h; subst h; exact Nms.put (s := pGo s) hs (nm0 (by decide))
   · split at h
     · simp only [Option.map_eq_some_iff] at h
       obtain ⟨q, hq, rfl⟩ := h
       have c := ih2 hq (e_must (x := [41]) (ts := ts) he) (show _ = s.nodes by rw [nodes_must]; rfl) hs
       exact Nms.put (s := pMust ts [41] q.2) (by rw [nodes_must]; exact c) (nm0 (by decide))
     · split at h <;> exact ih _ _ _ h he hs
  | block =>
   simp only [run] at h
   split at h
   · simp only [Option.map_eq_some_iff] at h
     obtain ⟨q, hq, rfl⟩ := h
     have c := ih2 hq (e_must (x := [125]) (ts := ts) he) (show _ = s.nodes by rw [nodes_must, nodes_down]) hs
     exact Nms.put (s := pUp (pMust ts [125] q.2)) (by rw [nodes_up, nodes_must]; exact c) (nm0 (by decide))
   · simp only [Option.some.injEq] at h; subst h; exact (e_fail (by decide) he).elim
  | stmts l =>
   simp only [run] at h
   split at h
   · rename_i h0
     simp only [Option.some.injEq] at h; subst h; exact absurd he h0
   · split at h
     · simp only [Option.some.injEq] at h; subst h; exact hs
     · simp only [Option.bind_eq_some_iff] at h
       obtain ⟨q, hq, h⟩ := h
       exact ih _ _ _ h he (ih2 hq (run_e h he) rfl hs)
  | named line =>
   simp only [run] at h
   split at h
   · simp only [Option.map_eq_some_iff] at h
     obtain ⟨q, hq, rfl⟩ := h
     have c := ih2 hq (e_must (x := [59]) (ts := ts) he) rfl hs
     exact Nms.put (s := pMust ts [59] q.2) (by rw [nodes_must]; exact c) (nm0 (by decide))
   · split at h
     · rename_i hx
       simp only [Option.map_eq_some_iff, Option.bind_eq_some_iff] at h
       obtain ⟨q, hq, u, hu, rfl⟩ := h
       have e2 : u.2.e = 0 := e_must (x := [59]) (ts := ts) he
       have e1 : q.2.e = 0 := e_must (ts := ts) (x := [93]) (s := q.2) (e_must (ts := ts) (x := [61]) (s := pUp (pMust ts [93] q.2)) (run_e hu e2))
       have c := ih2 hq e1 (show _ = s.nodes by rw [nodes_must, nodes_down, nodes_named]) hs
       have g := ih2 hu e2 (show (pMust ts [61] (pUp (pMust ts [93] q.2))).nodes = q.2.nodes by rw [nodes_must]; exact nodes_must _ _) c
       exact Nms.put (s := pMust ts [59] u.2) (by rw [nodes_must]; exact g) (nm1 (by decide) (named_nm ht (pIs_kind hx).1))
     · simp only [Option.map_eq_some_iff] at h
       obtain ⟨q, hq, rfl⟩ := h
       have e1 : q.2.e = 0 := e_must (x := [59]) (ts := ts) he
       have c := ih2 hq e1 (show _ = s.nodes by rw [nodes_must, nodes_named]) hs
       exact Nms.put (s := pMust ts [59] q.2) (by rw [nodes_must]; exact c) (nm1 (by decide) (named_nm ht (e_must (run_e hq e1))))
  | stmt =>
   simp only [run] at h
   split at h
   · simp only [Option.map_eq_some_iff] at h
     obtain ⟨q, hq, rfl⟩ := h
     have e1 : q.2.e = 0 := e_must (x := [59]) (ts := ts) he
     have c := ih2 hq e1 (show _ = s.nodes by rw [nodes_must, nodes_named]; rfl) hs
     exact Nms.put (s := pMust ts [59] q.2) (by rw [nodes_must]; exact c) (nm1 (by decide) (named_nm ht (e_must (run_e hq e1))))
   · split at h
     · simp only [Option.map_eq_some_iff] at h
       obtain ⟨q, hq, rfl⟩ := h
       have c := ih2 hq (e_must (x := [59]) (ts := ts) he) (show (pGo s).nodes = s.nodes from rfl) hs
       exact Nms.put (s := pMust ts [59] q.2) (by rw [nodes_must]; exact c) (nm0 (by decide))
     · split at h
       · simp only [Option.map_eq_some_iff, Option.bind_eq_some_iff] at h
         obtain ⟨q, hq, u, hu, rfl⟩ := h
         have c := ih2 hq (run_e hu he) (show (pGo s).nodes = s.nodes from rfl) hs
         exact Nms.put (s := u.2) (ih2 hu he rfl c) (nm0 (by decide))
       · split at h
         · simp only [Option.bind_eq_some_iff] at h
           obtain ⟨q, hq, u, hu, h⟩ := h
           split at h
           · simp only [Option.map_eq_some_iff] at h
             obtain ⟨v, hv, rfl⟩ := h
             have e2 : u.2.e = 0 := run_e (s := pGo u.2) hv he
             have c := ih2 hq (run_e hu e2) (show (pGo s).nodes = s.nodes from rfl) hs
             exact Nms.put (s := v.2) (ih2 hv he (show (pGo u.2).nodes = u.2.nodes from rfl) (ih2 hu e2 rfl c)) (nm0 (by decide))
           · simp only [Option.some.injEq] at h; subst h
             have c := ih2 hq (run_e hu he) (show (pGo s).nodes = s.nodes from rfl) hs
             exact Nms.put (s := u.2) (ih2 hu he rfl c) (nm0 (by decide))
         · split at h
           · split at h
             · simp only [Option.some.injEq] at h; subst h
               exact Nms.put (s := pMust ts [59] (pGo s)) (by rw [nodes_must]; exact hs) (nm0 (by decide))
             · simp only [Option.map_eq_some_iff] at h
               obtain ⟨q, hq, rfl⟩ := h
               have c := ih2 hq (e_must (x := [59]) (ts := ts) he) (show (pGo s).nodes = s.nodes from rfl) hs
               exact Nms.put (s := pMust ts [59] q.2) (by rw [nodes_must]; exact c) (nm0 (by decide))
           · exact ih _ _ _ h he hs
theorem typed_ok {s : PS} (h : (pTyped ts s).e = 0) : 1 ≤ pType ts s ∧ s.e = 0 := by
 unfold pTyped at h
 split at h
 · exact (e_fail (by decide) h).elim
 · rename_i h0
   exact ⟨by omega, h⟩
theorem params_nm (ht : ∀ t ∈ ts, TokNm t) : ∀ (n : Nat) (acc : List (List UInt8 × Nat)) (s : PS) (p : List (List UInt8 × Nat) × PS), runParams ts n acc s = some p → p.2.e = 0 → (∀ q ∈ acc, NameOk q.1 ∧ 1 ≤ q.2) → s.e = 0 ∧ ∀ q ∈ p.1, NameOk q.1 ∧ 1 ≤ q.2
 | 0, _, _, _, h, _, _ => by simp [runParams] at h
 | n + 1, acc, s, p, h, he, ha => by
  have key : (pTyped ts (pNamed ts s)).e = 0 → s.e = 0 ∧ ∀ q ∈ acc ++ [(pName ts s, pType ts (pNamed ts s))], NameOk q.1 ∧ 1 ≤ q.2 := fun e1 => by
    obtain ⟨h1, h2⟩ := typed_ok e1
    refine ⟨((Ext.refl s).named (ts := ts)).e0 h2, fun q hq => ?_⟩
    rcases List.mem_append.1 hq with hq | hq
    · exact ha q hq
    · rw [List.mem_singleton.1 hq]; exact ⟨named_nm ht h2, h1⟩
  simp only [runParams] at h
  split at h
  · rename_i hx
    obtain ⟨a, b⟩ := key (pIs_kind hx).1
    exact ⟨a, (params_nm ht n _ _ _ h he b).2⟩
  · simp only [Option.some.injEq] at h
    subst h; exact key he
structure FuncNm (f : FuncM) : Prop where
 name : NameOk f.name
 pars : ∀ q ∈ f.params, NameOk q.1 ∧ 1 ≤ q.2
theorem func_nm (ht : ∀ t ∈ ts, TokNm t) {n : Nat} {s : PS} {fs : FuncM × PS} (h : runFunc src ts n s = some fs) (he : fs.2.e = 0) (hs : Nms s.nodes) : Nms fs.2.nodes ∧ FuncNm fs.1 := by
 simp only [runFunc, Option.bind_eq_some_iff, Option.map_eq_some_iff] at h
 obtain ⟨p, hp, b, hb, rfl⟩ := h
 have hn1 : (pMust ts [40] (pNamed ts (pMust ts [102, 110] s))).nodes = s.nodes := by rw [nodes_must, nodes_named, nodes_must]
 have h2 : p.2.nodes = s.nodes := by
   split at hp
   · rw [params_nodes _ _ _ _ hp, hn1]
   · simp only [Option.some.injEq] at hp
     subst hp; exact hn1
 have e5 := run_e hb he
 have e4 : p.2.e = 0 := by
   split at e5
   · exact e_must e5
   · exact e_must (typed_ok e5).2
 have h3 : (pMust ts [40] (pNamed ts (pMust ts [102, 110] s))).e = 0 ∧ ∀ q ∈ p.1, NameOk q.1 ∧ 1 ≤ q.2 := by
   split at hp
   · exact params_nm ht _ _ _ _ hp e4 (fun q hq => by cases hq)
   · simp only [Option.some.injEq] at hp
     subst hp; exact ⟨e4, fun q hq => by cases hq⟩
 refine ⟨run_nm ht _ _ _ _ hb he ?_, named_nm ht (e_must h3.1), h3.2⟩
 split
 · rw [nodes_must, h2]; exact hs
 · rw [nodes_typed, nodes_must, h2]; exact hs
theorem fns_nm (ht : ∀ t ∈ ts, TokNm t) : ∀ (n : Nat) (acc : List FuncM) (s : PS) (r : List FuncM × PS), runFns src ts n acc s = some r → r.2.e = 0 → Nms s.nodes → (∀ f ∈ acc, FuncNm f) → Nms r.2.nodes ∧ ∀ f ∈ r.1, FuncNm f
 | 0, _, _, _, h, _, _, _ => by simp [runFns] at h
 | n + 1, acc, s, r, h, he, hs, ha => by
  simp only [runFns] at h
  split at h
  · simp only [Option.some.injEq] at h; subst h; exact ⟨hs, ha⟩
  · split at h
    · simp only [Option.some.injEq] at h; subst h; exact ⟨hs, ha⟩
    · simp only [Option.bind_eq_some_iff] at h
      obtain ⟨fs, hfs, h⟩ := h
      obtain ⟨a, b⟩ := func_nm ht hfs ((fns_ext _ _ _ _ h).e0 he) hs
      exact fns_nm ht n _ _ _ h he a (fun f hf => by
       rcases List.mem_append.1 hf with hf | hf
       · exact ha f hf
       · rw [List.mem_singleton.1 hf]; exact b)
end
structure TreeNm (ns : List NodeM) (fs : List FuncM) : Prop where
 nodes : Nms ns
 fns : ∀ f ∈ fs, FuncNm f
theorem parse_nm {src : List UInt8} {ns : List NodeM} {fs : List FuncM} (h : parseM src = some (.good ns fs)) : TreeNm ns fs := by
 unfold parseM at h
 cases hl : lexM src with
 | bad p e => rw [hl] at h; simp at h
 | good ts =>
  rw [hl] at h
  simp only [parseT, Option.map_eq_some_iff] at h
  obtain ⟨q, hq, h⟩ := h
  split at h
  · cases h
  · rename_i h0
    have h0 : q.2.e = 0 := by simpa using h0
    split at h
    · cases h
    · injection h with h1 h2
      subst h1; subst h2
      obtain ⟨a, b⟩ := fns_nm (lexM_nm hl) _ _ _ _ hq h0 (fun nd hnd => by cases hnd) (fun f hf => by cases hf)
      exact ⟨a, b⟩
end Pw
open Pw
theorem texts_ok {src : List UInt8} {p : ProgM} (h : parseM src = some (.good p.ns p.fs)) : TextsOk p := fun x nd hx hk => by
 have := ((parse_nm h).nodes nd (List.mem_of_getElem? hx)).1 hk
 have := this.short
 omega
def eAt (p : ProgM) (k : Nat) : Nat := ((compM p).entry[k]?).getD (compM p).ins.length
theorem eAt_zero {p : ProgM} (hi : ProgIs p) : eAt p 0 = 0 := by
 have h := comp_cd hi
 have h0 := (prog_pos hi).1
 unfold eAt
 generalize (compM p).ins = code at *
 generalize (compM p).entry = en at *
 cases hf : p.fs with
 | nil => rw [hf] at h0; simp at h0
 | cons f l =>
  have h2 : ∃ q, q = p.fs ∧ FnsCd p 0 q 0 p.ns.length 0 code en := ⟨_, rfl, h⟩
  obtain ⟨q, e, h2⟩ := h2
  rw [hf] at e
  subst e
  cases h2
  rfl
structure MayFn (p : ProgM) (k e e2 z : Nat) (f : FuncM) : Prop where
 now : eAt p k = e
 then_ : eAt p (k + 1) = e2
 ent : (compM p).entry[k]? = some e
 nxt : (compM p).entry[k + 1]? = some e2 ∨ ((compM p).entry.length ≤ k + 1 ∧ e2 = (compM p).ins.length)
 lt : e < e2
 le : e2 ≤ (compM p).ins.length
 fn : p.fs[k]? = some f
 last : (compM p).ins[e2 - 1]? = some ⟨22, (f.ret : Int), 0, []⟩
 size : p.sizes[k]? = some z
 each : ∀ i x, e ≤ i → i < e2 → (compM p).ins[i]? = some x → MayI x ∧ (∀ t, toI x = some t → (e : Int) ≤ t ∧ t < (e2 : Int)) ∧ (x.op = 5 ∨ x.op = 6 ∨ x.op = 11 ∨ x.op = 12 → x.a < (z : Int)) ∧
  (x.op = 20 → ∃ (j : Nat) (f : FuncM), x.a = j ∧ p.fs[j]? = some f ∧ x.b = f.params.length) ∧ (x.op = 1 → ∃ y : Nat, x.a = y ∧ y < p.ns.length ∧ p.fn[y]? = some k)
theorem may_fn {p : ProgM} (hi : ProgIs p) (hT : TextsOk p) {k : Nat} (hk : k < (compM p).entry.length) : ∃ e e2 z f, MayFn p k e e2 z f := by
 obtain ⟨e, he⟩ : ∃ e, (compM p).entry[k]? = some e := ⟨_, List.getElem?_eq_getElem hk⟩
 have h := comp_ok hi hT k e he
 obtain ⟨f, hf, hl⟩ := h.last
 obtain ⟨z, hz, hea⟩ := h.each
 refine ⟨e, _, z, f, by unfold eAt; rw [he]; rfl, rfl, he, ?_, h.lt, h.le, hf, hl, hz, hea⟩
 unfold eAt
 cases h2 : (compM p).entry[k + 1]? with
 | some x => exact .inl (by simp)
 | none => exact .inr ⟨List.getElem?_eq_none_iff.1 h2, by simp⟩
theorem may_all {p : ProgM} (hi : ProgIs p) (hT : TextsOk p) : ∀ k, k ≤ (compM p).entry.length → ∀ i x, i < eAt p k → (compM p).ins[i]? = some x → MayI x
 | 0, _, i, x, h, _ => by rw [eAt_zero hi] at h; omega
 | k + 1, hk, i, x, h, hx => by
  obtain ⟨e, e2, z, f, hm⟩ := may_fn hi hT (k := k) (by omega)
  by_cases hlt : i < eAt p k
  · exact may_all hi hT k (by omega) i x hlt hx
  · rw [hm.now] at hlt
    rw [hm.then_] at h
    exact (hm.each i x (by omega) h hx).1
theorem eAt_end (p : ProgM) : eAt p (compM p).entry.length = (compM p).ins.length := by
 unfold eAt
 rw [List.getElem?_eq_none (Nat.le_refl _)]; rfl
theorem ent_le {p : ProgM} (hi : ProgIs p) (hT : TextsOk p) : ∀ e ∈ (compM p).entry, e ≤ (compM p).ins.length := fun e he => by
 obtain ⟨k, hk, e1⟩ := List.getElem_of_mem he
 obtain ⟨a, b, z, f, hm⟩ := may_fn hi hT hk
 have h := hm.ent
 rw [List.getElem?_eq_getElem hk, e1] at h
 injection h with h
 have := hm.lt; have := hm.le
 omega
theorem ins_may {p : ProgM} (hi : ProgIs p) (hT : TextsOk p) : ∀ x ∈ (compM p).ins, MayI x := fun x hx => by
 obtain ⟨i, h1, e⟩ := List.getElem_of_mem hx
 exact may_all hi hT _ (Nat.le_refl _) i x (by rw [eAt_end]; exact h1) (by rw [List.getElem?_eq_getElem h1, e])
structure Mks (p : ProgM) (i : Nat) (mm : Nat) (ts : List Nat) : Prop where
 len : ts.length = p.ns.length
 all : mm = mkI ((compM p).ins.take i)
 each : ∀ y < p.ns.length, ts[y]? = some (mksI ((compM p).ins.take i) y)
theorem Mks.zero (p : ProgM) : Mks p 0 0 (List.replicate p.ns.length 0) := ⟨by simp, by simp [mkI], fun y hy => by rw [List.getElem?_replicate, if_pos hy]; simp [mksI]⟩
theorem Mks.other {p : ProgM} {i mm : Nat} {ts : List Nat} (h : Mks p i mm ts) {x : InsM} (hx : (compM p).ins[i]? = some x) (h1 : x.op ≠ 1) : Mks p (i + 1) mm ts := by
 have e : (compM p).ins.take (i + 1) = (compM p).ins.take i ++ [x] := by rw [List.take_add_one, hx]; rfl
 exact ⟨h.len, by rw [e, mk_app, mk_one x h1]; exact h.all, fun y hy => by rw [e, mks_app, mks_one x y h1]; exact h.each y hy⟩
theorem Mks.mark {p : ProgM} {i mm y : Nat} {ts : List Nat} (h : Mks p i mm ts) {x : InsM} (hx : (compM p).ins[i]? = some x) (h1 : x.op = 1) (h2 : x.a = y) (hy : y < p.ns.length) : Mks p (i + 1) (mm + 1) (ts.set y (mksI ((compM p).ins.take i) y + 1)) := by
 have e : (compM p).ins.take (i + 1) = (compM p).ins.take i ++ [x] := by rw [List.take_add_one, hx]; rfl
 refine ⟨by rw [List.length_set]; exact h.len, ?_, fun u hu => ?_⟩
 · rw [e, mk_app, ← h.all]
   simp [mkI, h1]
 · rw [e, mks_app]
   by_cases he : y = u
   · subst he
     rw [List.getElem?_set_self (by rw [h.len]; exact hy)]
     simp [mksI, h1, h2]
   · rw [List.getElem?_set_ne he, h.each u hu]
     have hne : ¬ ((y : Int) = (u : Int)) := by omega
     simp [mksI, h1, h2, hne]
theorem Mks.le {p : ProgM} (hi : ProgIs p) {i mm : Nat} {ts : List Nat} (h : Mks p i mm ts) : mm ≤ p.ns.length := by
 have h1 := (mks_fns (comp_cd hi) 0).2
 rw [h.all]
 have : mkI ((compM p).ins.take i) ≤ mkI (compM p).ins := (List.take_sublist _ _).countP_le
 omega
theorem Mks.le2 {p : ProgM} {i mm y v : Nat} {ts : List Nat} (h : Mks p i mm ts) (hy : ts[y]? = some v) : v ≤ (compM p).ins.length := by
 have hl : y < p.ns.length := by rw [← h.len]; exact (List.getElem?_eq_some_iff.1 hy).1
 rw [h.each y hl] at hy
 injection hy with hy
 rw [← hy]
 have h1 : mksI ((compM p).ins.take i) y ≤ ((compM p).ins.take i).length := List.countP_le_length
 rw [List.length_take] at h1
 omega
theorem Mks.fin {p : ProgM} (hi : ProgIs p) {mm : Nat} {ts : List Nat} (h : Mks p (eAt p (compM p).entry.length) mm ts) : mm ≤ p.ns.length ∧ ∀ (y : Nat) (nd : NodeM), p.ns[y]? = some nd → ts[y]? = some (if stmK nd.kind = true then 1 else 0) := by
 have e : (compM p).ins.take (eAt p (compM p).entry.length) = (compM p).ins := by rw [eAt_end, List.take_length]
 have hc := comp_cd hi
 refine ⟨?_, fun y nd hy => ?_⟩
 · rw [h.all, e]; exact Nat.le_trans (mks_fns hc 0).2 (by omega)
 · have hlt := (List.getElem?_eq_some_iff.1 hy).1
   rw [h.each y hlt, e, (mks_fns hc y).1]
   unfold cnS
   have : kindN p.ns y = nd.kind := by unfold kindN; rw [hy]; rfl
   rw [this]
   simp [hlt]
structure My (g : PgV) (PB CB : Nat) (IA EA : Option Addr) (IC EC n m : Nat) (w : World) : Prop where
 pg : PgAt g w
 fn : Own w 3 1 (.slice g.ua g.un g.uc) g.p.fn.length (ints g.p.fn)
 size : Own w 3 1 (.slice g.za g.zn g.zc) g.p.sizes.length (ints g.p.sizes)
 pb : Blk w PB 29 #[.slice (some ⟨g.nb, 0, none⟩) g.p.ns.length g.nc, .slice (some ⟨g.fb, 0, none⟩) g.p.fs.length g.fc, .slice (some ⟨g.tb, 0, none⟩) g.p.ns.length g.tc, .slice (some ⟨g.sb, 0, none⟩) g.p.ns.length g.sc, .slice g.ua g.un g.uc, .slice g.za g.zn g.zc]
 cb : Blk w CB 37 #[.slice IA n IC, .slice EA m EC]
 ins : Own w 45 4 (.slice IA n IC) n (insCells (compM g.p).ins)
 ent : Own w 3 1 (.slice EA m EC) m (ints (compM g.p).entry)
 hn : n = (compM g.p).ins.length
 hm : m = (compM g.p).entry.length
section
variable {g : PgV} {PB CB IC EC n m : Nat} {IA EA : Option Addr} {w w' : World}
theorem My.no (h : My g PB CB IA EA IC EC n m w) (f : Fr nob w w') : My g PB CB IA EA IC EC n m w' :=
 ⟨h.pg.no f, h.fn.fr f (fun _ _ x => x), h.size.fr f (fun _ _ x => x), h.pb.fr f (fun x => x), h.cb.fr f (fun x => x), h.ins.fr f (fun _ _ x => x), h.ent.fr f (fun _ _ x => x), h.hn, h.hm⟩
theorem own_int {v : Value} {k : Nat} {xs : List Nat} (h : Own w 3 1 v k (ints xs)) {j e : Nat} (hj : xs[j]? = some e) : ∃ b c, v = .slice (some ⟨b, 0, none⟩) k c ∧ w.cell? ⟨b, j, none⟩ = some (.int .i64 (e : Nat)) ∧ b < w.heap.size := by
 have hl : k = xs.length := by have := h.len; unfold ints at this; rw [List.length_map] at this; omega
 have hjl := (List.getElem?_eq_some_iff.1 hj).1
 obtain ⟨A, c, rfl, _, _⟩ := h.cap
 obtain ⟨b, rfl, hc⟩ := h.some (by omega)
 have h1 := hc j (.int .i64 (e : Nat)) (by unfold ints; rw [List.getElem?_map, hj]; rfl)
 exact ⟨b, c, rfl, h1, World.block_lt_of_cell? _ _ h1⟩
theorem My.entry (h : My g PB CB IA EA IC EC n m w) {j e : Nat} (hj : (compM g.p).entry[j]? = some e) : ∃ eb, EA = some ⟨eb, 0, none⟩ ∧ w.cell? ⟨eb, j, none⟩ = some (.int .i64 (e : Nat)) := by
 obtain ⟨b, c, e1, h1, _⟩ := own_int h.ent hj
 injection e1 with e1
 exact ⟨b, e1, h1⟩
theorem My.sizeAt (h : My g PB CB IA EA IC EC n m w) {j e : Nat} (hj : g.p.sizes[j]? = some e) : ∃ b, g.za = some ⟨b, 0, none⟩ ∧ w.cell? ⟨b, j, none⟩ = some (.int .i64 (e : Nat)) := by
 obtain ⟨b, c, e1, h1, _⟩ := own_int h.size hj
 injection e1 with e1
 exact ⟨b, e1, h1⟩
theorem My.fnAt (h : My g PB CB IA EA IC EC n m w) {j e : Nat} (hj : g.p.fn[j]? = some e) : ∃ b, g.ua = some ⟨b, 0, none⟩ ∧ w.cell? ⟨b, j, none⟩ = some (.int .i64 (e : Nat)) := by
 obtain ⟨b, c, e1, h1, _⟩ := own_int h.fn hj
 injection e1 with e1
 exact ⟨b, e1, h1⟩
theorem My.lens (h : My g PB CB IA EA IC EC n m w) : g.un = g.p.fn.length ∧ g.zn = g.p.sizes.length := by
 obtain ⟨A, c, e, _, _⟩ := h.fn.cap
 obtain ⟨A2, c2, e2, _, _⟩ := h.size.cap
 injection e with _ e
 injection e2 with _ e2
 exact ⟨e, e2⟩
theorem My.insr (h : My g PB CB IA EA IC EC n m w) {j : Nat} {x : InsM} (hj : (compM g.p).ins[j]? = some x) : ∃ ib, IA = some ⟨ib, 0, none⟩ ∧ w.cell? ⟨ib, j * 4, none⟩ = some (.int .i64 (x.op : Nat)) ∧ w.cell? ⟨ib, j * 4 + 1, none⟩ = some (.int .i64 x.a) ∧ w.cell? ⟨ib, j * 4 + 2, none⟩ = some (.int .i64 (x.b : Nat)) ∧ w.cell? ⟨ib, j * 4 + 3, none⟩ = some (.string (bs x.s)) ∧ ib < w.heap.size := by
 have hjl := (List.getElem?_eq_some_iff.1 hj).1
 have hn0 : 0 < n := by rw [h.hn]; omega
 obtain ⟨b, rfl, hc⟩ := h.ins.some hn0
 obtain ⟨g0, g1, g2, g3⟩ := insCells_get hj
 exact ⟨b, rfl, hc _ _ g0, hc _ _ g1, hc _ _ g2, hc _ _ g3, World.block_lt_of_cell? _ ⟨b, j * 4, none⟩ (hc _ _ g0)⟩
theorem My.boxes (h : My g PB CB IA EA IC EC n m w) : (w.cell? ⟨CB, 0, none⟩ = some (.slice IA n IC) ∧ w.cell? ⟨CB, 1, none⟩ = some (.slice EA m EC) ∧ CB < w.heap.size) ∧
  (w.cell? ⟨PB, 0, none⟩ = some (.slice (some ⟨g.nb, 0, none⟩) g.p.ns.length g.nc) ∧ w.cell? ⟨PB, 1, none⟩ = some (.slice (some ⟨g.fb, 0, none⟩) g.p.fs.length g.fc) ∧ w.cell? ⟨PB, 4, none⟩ = some (.slice g.ua g.un g.uc) ∧ w.cell? ⟨PB, 5, none⟩ = some (.slice g.za g.zn g.zc) ∧ PB < w.heap.size) :=
 ⟨⟨(h.cb.cell 0).trans rfl, (h.cb.cell 1).trans rfl, h.cb.lt⟩, (h.pb.cell 0).trans rfl, (h.pb.cell 1).trans rfl, (h.pb.cell 4).trans rfl, (h.pb.cell 5).trans rfl, h.pb.lt⟩
theorem My.entry' {eb : Nat} (h : My g PB CB IA (some ⟨eb, 0, none⟩) IC EC n m w) {j e : Nat} (hj : (compM g.p).entry[j]? = some e) : w.cell? ⟨eb, j, none⟩ = some (.int .i64 (e : Nat)) := by
 obtain ⟨b, e1, h1⟩ := h.entry hj
 injection e1 with e1
 injection e1 with e1
 subst e1; exact h1
theorem My.insr' {ib : Nat} (h : My g PB CB (some ⟨ib, 0, none⟩) EA IC EC n m w) {j : Nat} {x : InsM} (hj : (compM g.p).ins[j]? = some x) : w.cell? ⟨ib, j * 4, none⟩ = some (.int .i64 (x.op : Nat)) ∧ w.cell? ⟨ib, j * 4 + 1, none⟩ = some (.int .i64 x.a) ∧ w.cell? ⟨ib, j * 4 + 2, none⟩ = some (.int .i64 (x.b : Nat)) ∧ w.cell? ⟨ib, j * 4 + 3, none⟩ = some (.string (bs x.s)) ∧ ib < w.heap.size := by
 obtain ⟨b, e1, h1⟩ := h.insr hj
 injection e1 with e1
 injection e1 with e1
 subst e1; exact h1
theorem My.func (h : My g PB CB IA EA IC EC n m w) {j : Nat} {f : FuncM} (hf : g.p.fs[j]? = some f) : ∃ PA PC, w.cell? ⟨g.fb, j * 5 + 2, none⟩ = some (.slice PA f.params.length PC) ∧ w.cell? ⟨g.fb, j * 5 + 3, none⟩ = some (.int .i64 (f.ret : Nat)) ∧ g.fb < w.heap.size := by
 have TA := h.pg.tree
 have hjl := (List.getElem?_eq_some_iff.1 hf).1
 obtain ⟨pv, hpv⟩ : ∃ pv, g.pvs[j]? = some pv := ⟨_, List.getElem?_eq_getElem (by have := TA.samef; omega)⟩
 obtain ⟨PA, PC, rfl, _, _⟩ := (TA.pars.get hf hpv).cap
 obtain ⟨fb, e, hcell⟩ := TA.fns.some (by omega)
 injection e with e
 injection e with e
 subst e
 have h2 := hcell (j * 5 + 2) _ (fnCells_all hf hpv 2 _ rfl)
 exact ⟨PA, PC, h2, hcell (j * 5 + 3) _ (fnCells_all hf hpv 3 _ rfl), World.block_lt_of_cell? _ ⟨g.fb, j * 5 + 2, none⟩ h2⟩
end
structure Mt (w0 : World) (TB N : Nat) (w : World) (ts : List Nat) : Prop where
 ti : Own w 3 1 (.slice (some ⟨TB, 0, none⟩) N N) N (ints ts)
 fr : Fr nob w0 w
 new : w0.heap.size ≤ TB
section
variable {w0 w w' : World} {TB N : Nat} {ts : List Nat}
theorem Mt.no (h : Mt w0 TB N w ts) (f : Fr nob w w') : Mt w0 TB N w' ts := ⟨h.ti.fr f (fun _ _ x => x), h.fr.tr f, h.new⟩
theorem Mt.at_ (h : Mt w0 TB N w ts) {j v : Nat} (hj : ts[j]? = some v) : w.cell? ⟨TB, j, none⟩ = some (.int .i64 (v : Nat)) ∧ w.frozen? ⟨TB, j, none⟩ = false ∧ TB < w.heap.size := by
 obtain ⟨b, c, e, h1, h2⟩ := own_int h.ti hj
 injection e with e
 injection e with e
 injection e with e
 subst e
 have hN : 0 < N := by have := h.ti.len; unfold ints at this; rw [List.length_map] at this; have := (List.getElem?_eq_some_iff.1 hj).1; omega
 obtain ⟨cs, hb⟩ := h.ti.ty (show blk (.slice (some ⟨TB, 0, none⟩) N N) = some TB from blk_rowP hN (Nat.le_refl _))
 exact ⟨h1, hb.frozen j, h2⟩
theorem Mt.set (h : Mt w0 TB N w ts) (hN : 0 < N) (j v : Nat) : Mt w0 TB N (w.setCell ⟨TB, j, none⟩ (.int .i64 (v : Nat))) (ts.set j v) := by
 refine ⟨?_, h.fr.setCell _ _ (fun hlt => ?_), h.new⟩
 · have := h.ti.store (show blk (.slice (some ⟨TB, 0, none⟩) N N) = some TB from blk_rowP hN (Nat.le_refl _)) j (.int .i64 (v : Nat))
   unfold ints at this ⊢
   rw [List.map_set]; exact this
 · have hlt : TB < w0.heap.size := hlt
   have := h.new
   omega
end
theorem source_prog2 {w : World} {en : Ending} {p : ProgM} (h : SourceAt w en (.good p)) (hi : ProgIs p) : ∃ g : PgV, g.p = p ∧ PgAt g w ∧ en = .returned (.tuple #[g.val, .int .i64 0, .int .i64 0]) ∧ Own w 3 1 (.slice g.ua g.un g.uc) g.p.fn.length (ints g.p.fn) ∧ Own w 3 1 (.slice g.za g.zn g.zc) g.p.sizes.length (ints g.p.sizes) := by
 obtain ⟨nv, fv, tv, sv, uv, zv, lvs, pvs, he, hp⟩ := h
 obtain ⟨g, h1, h2, h3, h4⟩ := pg_of hp hi
 have h5 := h2
 unfold PgV.val at h5
 simp only [Value.agg.injEq, Array.mk.injEq, List.cons.injEq, and_true] at h5
 obtain ⟨_, _, _, _, e5, e6⟩ := h5
 exact ⟨g, h1, h3, by rw [he, h2], by rw [e5]; exact h4.fn, by rw [e6]; exact h4.sizes⟩
end Go.Proofs.YtlbjicjinnnboaaGreatDoor
