/- QA2: QSt, QSp, QDeep, QWith, QWithin, QBox, QInner, QInnerB, QFactor, QPuts, QFactorB. -/
import Derived.Test.YtlbjicjinnnboaaGreatDoorQA1
import Derived.Test.YtlbjicjinnnboaaGreatDoorMC
import Derived.Test.YtlbjicjinnnboaaGreatDoorMD
import Derived.Laws.EntriesVeiled
/- The program's own parser beside the model: the same, as long as there is no error; the same error behind it. -/
namespace Go.Proofs.YtlbjicjinnnboaaGreatDoor
open Go.RowKit
set_option linter.unusedVariables false
set_option linter.unusedSimpArgs false
/-- How many nodes more there may be, and how deep the parser is. -/
structure Lim where
  n : Nat
  d : Nat
/-- The parser and the model's state; N: how many nodes more there may be behind an error. -/
structure Sim (ts : List Tok) (R : Nat → Prop) (w : World) (q : PQ) (s : PS) (lvs : List Value) (N : Lim) : Prop where
  e : q.e = s.e
  place : q.place = s.place
  deep : q.deep = N.d
  pos : s.e = 0 → q.i = s.i ∧ q.deep = s.deep
  row : s.e = 0 → q.m = s.nodes.length ∧ q.xs = nodesCells s.nodes lvs ∧ s.nodes.length = lvs.length
  below : s.e = 0 → Below2 w s.nodes lvs
  avoid : s.e = 0 → ∀ v ∈ lvs, ∀ k, blk v = some k → ¬ R k
  bad : s.e ≠ 0 → q.m ≤ s.nodes.length + N.n
/-- A variable of the library's, which strings.Split reads. -/
def Most (w0 w : World) : Prop := 0 < w0.heap.size ∧ ∃ m : Int, Blk w 0 3 #[.int .i64 m]
theorem Most.no {w0 w w' : World} (h : Most w0 w) (f : Fr nob w w') : Most w0 w' := ⟨h.1, h.2.imp fun m hm => hm.fr f (fun x => x)⟩
theorem Most.frR {w0 w w' : World} {g : Nat} {cs : Array Value} (h : Most w0 w) (hb : Blk w g 82 cs) (f : FrR g w w') : Most w0 w' := ⟨h.1, h.2.imp fun m hm => f.blk hm (fun e => hm.ne hb (by decide) e) (by decide)⟩
theorem Most.here {w0 w : World} (h : Most w0 w) : Most w w := ⟨h.2.choose_spec.lt, h.2⟩
structure QS (src : ByteArray) (tb tc : Nat) (ts : List Tok) (g : Nat) (R : Nat → Prop) (w0 w : World) (s : PS) (N : Lim) : Prop where
  q : ∃ q lvs, QMem src tb tc ts g w q ∧ Sim ts R w q s lvs N
  res : ∀ k, R k → k < w.heap.size
  ok : PSOk ts s
  toks : ToksOk ts
  long : src.size ≤ 281474976710656
  fr : FrR g w0 w
  most : Most w0 w
section
variable {src : ByteArray} {tb tc : Nat} {ts : List Tok} {g : Nat} {N : Lim} {R : Nat → Prop} {w0 w w1 w' : World} {s s' : PS} {q q' : PQ} {lvs : List Value}
theorem Sim.more (h : Sim ts R w q s lvs N) {n : Nat} (hn : N.n ≤ n) : Sim ts R w q s lvs ⟨n, N.d⟩ := ⟨h.e, h.place, h.deep, h.pos, h.row, h.below, h.avoid, fun he => by have := h.bad he; show q.m ≤ s.nodes.length + n; omega⟩
theorem QS.more (h : QS src tb tc ts g R w0 w s N) {n : Nat} (hn : N.n ≤ n) : QS src tb tc ts g R w0 w s ⟨n, N.d⟩ := by
  obtain ⟨q, lvs, hq, hs⟩ := h.q
  exact ⟨⟨q, lvs, hq, hs.more hn⟩, h.res, h.ok, h.toks, h.long, h.fr, h.most⟩
theorem Sim.no (h : Sim ts R w q s lvs N) (f : Fr nob w w') : Sim ts R w' q s lvs N := ⟨h.e, h.place, h.deep, h.pos, h.row, fun he => (h.below he).no f, h.avoid, h.bad⟩
theorem Sim.frR {cs : Array Value} (h : Sim ts R w q s lvs N) (hb : Blk w g 82 cs) (f : FrR g w w') : Sim ts R w' q s lvs N := ⟨h.e, h.place, h.deep, h.pos, h.row, fun he => (h.below he).frR hb (by decide) f, h.avoid, h.bad⟩
theorem QS.no (h : QS src tb tc ts g R w0 w s N) (f : Fr nob w w') : QS src tb tc ts g R w0 w' s N := by
  obtain ⟨q, lvs, hq, hs⟩ := h.q
  exact ⟨⟨q, lvs, hq.no f, hs.no f⟩, fun k hk => Nat.lt_of_lt_of_le (h.res k hk) f.size, h.ok, h.toks, h.long, h.fr.trans (FrR.no f), h.most.no f⟩
theorem QS.alloc (h : QS src tb tc ts g R w0 w s N) (o : Obj) : QS src tb tc ts g R w0 (w.alloc o) s N := h.no ((Fr.refl nob w).alloc o)
theorem QS.here (h : QS src tb tc ts g R w0 w s N) : QS src tb tc ts g R w w s N := ⟨h.q, h.res, h.ok, h.toks, h.long, Fr.refl _ _, h.most.here⟩
theorem QS.back (h : QS src tb tc ts g R w0 w s N) {N' : Lim} (h' : QS src tb tc ts g R w w' s' N') : QS src tb tc ts g R w0 w' s' N' := ⟨h'.q, h'.res, h'.ok, h'.toks, h'.long, h.fr.trans h'.fr, ⟨h.most.1, h'.most.2⟩⟩
/-- A step of the parser's, and the model's. -/
theorem QS.go (h : QS src tb tc ts g R w0 w s N) (hq : QMem src tb tc ts g w q) (hs : Sim ts R w q s lvs N) (hq' : QMem src tb tc ts g w' q') (f : FrR g w w') (hk : PSOk ts s') (hm : Sim ts R w q' s' lvs N) : QS src tb tc ts g R w0 w' s' N :=
  ⟨⟨q', lvs, hq', hm.frR hq.blk f⟩, fun k hk => Nat.lt_of_lt_of_le (h.res k hk) f.size, hk, h.toks, h.long, h.fr.trans f, h.most.frR hq.blk f⟩
theorem Sim.tok (h : Sim ts R w q s lvs N) (h0 : s.e = 0) : qTok ts q = pTok ts s := by
  unfold qTok pTok
  rw [(h.pos h0).1]
theorem Sim.isX (h : Sim ts R w q s lvs N) (X : ByteArray) : qIs ts [X] q = pIs ts X.data.toList s := by
  unfold qIs pIs
  rw [h.e]
  by_cases h0 : s.e = 0
  · rw [h.tok h0]
    unfold isIn
    simp
  · rw [decide_eq_false h0]; simp
theorem Sim.kindX (h : Sim ts R w q s lvs N) (k : Nat) : qKind ts k q = pKind ts k s := by
  unfold qKind pKind
  rw [h.e]
  by_cases h0 : s.e = 0
  · rw [h.tok h0]
  · rw [decide_eq_false h0]; simp
theorem Sim.take (h : Sim ts R w q s lvs N) (h0 : s.e = 0) (hr : (pGo s).i < ts.length) : Sim ts R w (qTake ts q) (pGo s) lvs N := by
  have hi := (h.pos h0).1
  have hr2 : s.i + 1 < ts.length := hr
  have e : qTake ts q = { q with i := q.i + 1 } := by unfold qTake; rw [if_pos (by omega)]
  rw [e]
  exact ⟨h.e, h.place, h.deep, fun he => ⟨by show q.i + 1 = s.i + 1; omega, (h.pos he).2⟩, h.row, h.below, h.avoid, h.bad⟩
theorem Sim.fail (h : Sim ts R w q s lvs N) (k : Nat) (hk : k ≠ 0) : Sim ts R w (qFail ts k q) (pFail ts k s) lvs N := by
  unfold qFail pFail
  rw [h.e]
  by_cases h0 : s.e = 0
  · rw [if_pos h0, if_pos h0]
    refine ⟨rfl, by show (qTok ts q).place = (pTok ts s).place; rw [h.tok h0], h.deep, fun he => absurd he hk, fun he => absurd he hk, fun he => absurd he hk, fun he => absurd he hk, fun _ => ?_⟩
    show q.m ≤ s.nodes.length + N.n
    rw [(h.row h0).1]; omega
  · rw [if_neg h0, if_neg h0]; exact h
theorem QS.kind (h : QS src tb tc ts g R w0 w s N) (k : Nat) {b : Bool} (hb : pKind ts k s = b) :
    Calls Tryz.prog 50 #[.pointer (some ⟨g, 0, none⟩), .int .i64 k] w fun e w' => e = .returned (.bool b) ∧ QS src tb tc ts g R w0 w' s N := by
  obtain ⟨q, lvs, hq, hs⟩ := h.q
  refine (qkind_any hq k).mono fun e w' ⟨he, hf⟩ => ⟨?_, h.no hf⟩
  rw [he, hs.kindX, hb]
theorem QS.has (h : QS src tb tc ts g R w0 w s N) (X : ByteArray) {b : Bool} (hb : pIs ts X.data.toList s = b) :
    Calls Tryz.prog 118 #[.pointer (some ⟨g, 0, none⟩), .string X] w fun e w' => e = .returned (.bool b) ∧ QS src tb tc ts g R w0 w' (if b = true then pGo s else s) N := by
  obtain ⟨q, lvs, hq, hs⟩ := h.q
  refine (qhas_any hq X).mono fun e w' ⟨he, hq', hf⟩ => ⟨by rw [he, hs.isX, hb], ?_⟩
  unfold qHas at hq'
  rw [hs.isX, hb] at hq'
  cases b with
  | false => rw [if_neg (by decide)] at hq' ⊢; exact h.go hq hs hq' hf h.ok hs
  | true =>
    rw [if_pos rfl] at hq' ⊢
    have hk := h.ok.goIs h.toks hb
    exact h.go hq hs hq' hf hk (hs.take (pIs_kind hb).1 hk.room)
theorem QS.fail (h : QS src tb tc ts g R w0 w s N) (k : Nat) (hk : k ≤ 21) (hk0 : 1 ≤ k) :
    Calls Tryz.prog 119 #[.pointer (some ⟨g, 0, none⟩), .int .i64 k] w fun e w' => e = .returned (.tuple #[]) ∧ QS src tb tc ts g R w0 w' (pFail ts k s) N := by
  obtain ⟨q, lvs, hq, hs⟩ := h.q
  exact (qfail_any hq k).mono fun e w' ⟨he, hq', hf⟩ => ⟨he, h.go hq hs hq' hf (h.ok.fail h.toks k hk hk0) (hs.fail k (by omega))⟩
theorem QS.must (h : QS src tb tc ts g R w0 w s N) (X : ByteArray) :
    Calls Tryz.prog 78 #[.pointer (some ⟨g, 0, none⟩), .string X] w fun e w' => e = .returned (.tuple #[]) ∧ QS src tb tc ts g R w0 w' (pMust ts X.data.toList s) N := by
  obtain ⟨q, lvs, hq, hs⟩ := h.q
  refine (qmust_any hq X).mono fun e w' ⟨he, hq', hf⟩ => ⟨he, h.go hq hs hq' hf (h.ok.must h.toks _) ?_⟩
  unfold qMust pMust
  rw [hs.isX]
  by_cases hb : pIs ts X.data.toList s = true
  · rw [if_pos hb, if_pos hb]
    exact hs.take (pIs_kind hb).1 (h.ok.goIs h.toks hb).room
  · rw [if_neg hb, if_neg hb]
    exact hs.fail 20 (by decide)
theorem QS.name (h : QS src tb tc ts g R w0 w s N) {x : ByteArray} (hx : bs (pName ts s) = x) :
    Calls Tryz.prog 79 #[.pointer (some ⟨g, 0, none⟩)] w fun e w' => e = .returned (.string x) ∧ QS src tb tc ts g R w0 w' (pNamed ts s) N := by
  obtain ⟨q, lvs, hq, hs⟩ := h.q
  refine (qname_any hq).mono fun e w' ⟨he, hq', hf⟩ => ⟨?_, h.go hq hs hq' hf (h.ok.named h.toks) ?_⟩
  · rw [he, ← hx]
    unfold qName pName
    rw [hs.kindX]
    by_cases hb : pKind ts 3 s = true
    · rw [if_pos hb, if_pos hb, hs.tok (pKind_kind hb).1]
    · rw [if_neg hb, if_neg hb]
  · unfold qNamed pNamed
    rw [hs.kindX]
    by_cases hb : pKind ts 3 s = true
    · rw [if_pos hb, if_pos hb]
      exact hs.take (pKind_kind hb).1 (h.ok.goKind h.toks (pKind_kind hb).2 (by decide)).room
    · rw [if_neg hb, if_neg hb]
      exact hs.fail 20 (by decide)
theorem QS.line (h : QS src tb tc ts g R w0 w s N) :
    Calls Tryz.prog 77 #[.pointer (some ⟨g, 0, none⟩)] w fun e w' => ∃ y : Nat, e = .returned (.int .i64 y) ∧ (s.e = 0 → y = pLine src.data.toList ts s) ∧ QS src tb tc ts g R w0 w' s N := by
  obtain ⟨q, lvs, hq, hs⟩ := h.q
  refine (qline_any hq h.long).mono fun e w' ⟨he, hf⟩ => ⟨_, he, fun h0 => ?_, h.no hf⟩
  unfold qLine pLine
  rw [hs.tok h0]
theorem QS.calls (h : QS src tb tc ts g R w0 w s N) {b : Bool} (hb : pCalls ts s = b) :
    Calls Tryz.prog 187 #[.pointer (some ⟨g, 0, none⟩)] w fun e w' => e = .returned (.bool b) ∧ QS src tb tc ts g R w0 w' s N := by
  obtain ⟨q, lvs, hq, hs⟩ := h.q
  refine (qcalls_any hq h.toks).mono fun e w' ⟨he, hf⟩ => ⟨?_, h.no hf⟩
  rw [he, ← hb]
  unfold qCalls pCalls
  rw [hs.kindX]
  by_cases hk : pKind ts 3 s = true
  · rw [hk, (hs.pos (pKind_kind hk).1).1]
  · rw [show pKind ts 3 s = false by simpa using hk]; rfl
theorem Sim.typeX (h : Sim ts R w q s lvs N) : qType ts q = pType ts s := by
  unfold qType pType pWord
  rw [h.kindX]
  by_cases hb : pKind ts 4 s = true
  · rw [if_pos hb, if_pos hb, h.tok (pKind_kind hb).1]
  · rw [if_neg hb, if_neg hb]; rfl
theorem QS.typed (h : QS src tb tc ts g R w0 w s N) {n : Nat} (hn : pType ts s = n) :
    Calls Tryz.prog 82 #[.pointer (some ⟨g, 0, none⟩)] w fun e w' => e = .returned (.int .i64 n) ∧ QS src tb tc ts g R w0 w' (pTyped ts s) N := by
  obtain ⟨q, lvs, hq, hs⟩ := h.q
  refine (qtyped_any hq).mono fun e w' ⟨he, hq', hf⟩ => ⟨by rw [he, hs.typeX, hn], h.go hq hs hq' hf (h.ok.typed h.toks) ?_⟩
  have hk := h.ok.typed h.toks
  unfold qTyped
  unfold pTyped at hk ⊢
  rw [hs.typeX]
  by_cases hb : pType ts s = 0
  · rw [if_pos hb, if_pos hb]
    exact hs.fail 20 (by decide)
  · rw [if_neg hb] at hk
    rw [if_neg hb, if_neg hb]
    have h0 : s.e = 0 := by
      unfold pType pWord at hb
      by_cases hkk : pKind ts 4 s = true
      · exact (pKind_kind hkk).1
      · rw [if_neg hkk] at hb; exact absurd rfl hb
    exact hs.take h0 hk.room
end
end Go.Proofs.YtlbjicjinnnboaaGreatDoor
/- The program's own parser beside the model: nodes put, deeper. -/
namespace Go.Proofs.YtlbjicjinnnboaaGreatDoor
open Go.RowKit
set_option linter.unusedVariables false
set_option linter.unusedSimpArgs false
section
variable {src : ByteArray} {tb tc : Nat} {ts : List Tok} {g : Nat} {N : Lim} {R : Nat → Prop} {w0 w w1 w' : World} {s s' : PS} {q q' : PQ} {lvs : List Value}
/-- How many nodes there may be. -/
theorem QS.few (h : QS src tb tc ts g R w0 w s N) (hn : s.nodes.length + N.n ≤ 1000000) : ∀ q lvs, QMem src tb tc ts g w q → Sim ts R w q s lvs N → q.m ≤ 1000000 := fun q lvs hq hs => by
  by_cases h0 : s.e = 0
  · rw [(hs.row h0).1]; omega
  · have := hs.bad h0; omega
/-- A node is put, in the model too. -/
theorem QS.put (h : QS src tb tc ts g R w0 w s N) (k : Nat) {kv : Int} (hkv : ((k : Nat) : Int) = kv) (y line : Nat) (hy : s.e = 0 → y = line) {name : List UInt8} {X : ByteArray} (hX : bs name = X) {A1 : Option Addr} {M c1 : Nat} {l : List Nat}
    (hl : s.e = 0 → Own w 3 1 (.slice A1 M c1) l.length (ints l)) (hlr : ∀ k, blk (.slice A1 M c1) = some k → ¬ R k) (hn : s.nodes.length + N.n ≤ 1000000) :
    Calls Tryz.prog 126 #[.pointer (some ⟨g, 0, none⟩), .int .i64 kv, .int .i64 y, .string X, .slice A1 M c1] w fun e w' => ∃ x : Nat, e = .returned (.int .i64 x) ∧ (s.e = 0 → x = s.nodes.length) ∧ QS src tb tc ts g R w0 w' (pPut k line 0 name l s).2 N := by
  obtain ⟨q, lvs, hq, hs⟩ := h.q
  subst hX; subst hkv
  refine (qput_any hq k y name A1 M c1 (h.few hn q lvs hq hs)).mono fun e w' ⟨he, ⟨nv, hq'⟩, hf⟩ => ⟨q.m, he, fun h0 => (hs.row h0).1, ⟨⟨_, lvs ++ [.slice A1 M c1], hq', ?_⟩, fun k hk => Nat.lt_of_lt_of_le (h.res k hk) hf.size, h.ok.put .., h.toks, h.long, h.fr.trans hf, h.most.frR hq.blk hf⟩⟩
  refine ⟨hs.e, hs.place, hs.deep, hs.pos, fun h0 => ?_, fun h0 => ?_, fun h0 v hv => ?_, fun h0 => ?_⟩
  · obtain ⟨h1, h2, h3⟩ := hs.row h0
    refine ⟨?_, ?_, ?_⟩
    · show q.m + 1 = (s.nodes ++ [_]).length
      rw [List.length_append, h1]; rfl
    · show q.xs ++ _ = nodesCells (s.nodes ++ [_]) (lvs ++ [_])
      rw [nodesCells_snoc _ _ _ _ h3, h2, ← hy h0]
      rfl
    · show (s.nodes ++ [_]).length = (lvs ++ [_]).length
      rw [List.length_append, List.length_append, h3]; rfl
  · exact Below2.snoc ((hl h0).frR hq.blk (by decide) (by decide) hf) ((hs.below h0).frR hq.blk (by decide) hf)
  · rcases List.mem_append.1 hv with hv | hv
    · exact hs.avoid h0 v hv
    · rw [List.mem_singleton.1 hv]; exact hlr
  · have hb := hs.bad h0
    show q.m + 1 ≤ (s.nodes ++ [_]).length + N.n
    rw [List.length_append]
    simp; omega
/-- A node is put behind an error. -/
theorem QS.putBad (h : QS src tb tc ts g R w0 w s N) (h0 : s.e ≠ 0) (k : Nat) {kv : Int} (hkv : ((k : Nat) : Int) = kv) (y : Nat) {name : List UInt8} {X : ByteArray} (hX : bs name = X) {A1 : Option Addr} {M c1 : Nat} (hn : s.nodes.length + N.n ≤ 1000000) :
    Calls Tryz.prog 126 #[.pointer (some ⟨g, 0, none⟩), .int .i64 kv, .int .i64 y, .string X, .slice A1 M c1] w fun e w' => ∃ x : Nat, e = .returned (.int .i64 x) ∧ QS src tb tc ts g R w0 w' s ⟨N.n + 1, N.d⟩ := by
  obtain ⟨q, lvs, hq, hs⟩ := h.q
  subst hX; subst hkv
  refine (qput_any hq k y name A1 M c1 (h.few hn q lvs hq hs)).mono fun e w' ⟨he, ⟨nv, hq'⟩, hf⟩ => ⟨q.m, he, ⟨⟨_, lvs, hq', ?_⟩, fun k hk => Nat.lt_of_lt_of_le (h.res k hk) hf.size, h.ok, h.toks, h.long, h.fr.trans hf, h.most.frR hq.blk hf⟩⟩
  refine ⟨hs.e, hs.place, hs.deep, fun e => absurd e h0, fun e => absurd e h0, fun e => absurd e h0, fun e => absurd e h0, fun _ => ?_⟩
  have hb := hs.bad h0
  show q.m + 1 ≤ s.nodes.length + (N.n + 1)
  omega
/-- A number's node. -/
theorem QS.number (h : QS src tb tc ts g R w0 w s N) (k n : Nat) {kv nv0 : Int} (hkv : ((k : Nat) : Int) = kv) (hnv : ((n : Nat) : Int) = nv0) (y line : Nat) (hy : s.e = 0 → y = line) (hn : s.nodes.length + N.n ≤ 1000000) :
    Calls Tryz.prog 233 #[.pointer (some ⟨g, 0, none⟩), .int .i64 kv, .int .i64 y, .int .i64 nv0] w fun e w' => ∃ x : Nat, e = .returned (.int .i64 x) ∧ (s.e = 0 → x = s.nodes.length) ∧ QS src tb tc ts g R w0 w' (pPut k line n [] [] s).2 N := by
  obtain ⟨q, lvs, hq, hs⟩ := h.q
  subst hkv; subst hnv
  refine (qnumber_any hq k y n (h.few hn q lvs hq hs)).mono fun e w' ⟨he, ⟨nv, hq'⟩, hf⟩ => ⟨q.m, he, fun h0 => (hs.row h0).1, ⟨⟨_, lvs ++ [.slice none 0 0], hq', ?_⟩, fun k hk => Nat.lt_of_lt_of_le (h.res k hk) hf.size, h.ok.put .., h.toks, h.long, h.fr.trans hf, h.most.frR hq.blk hf⟩⟩
  refine ⟨hs.e, hs.place, hs.deep, hs.pos, fun h0 => ?_, fun h0 => ?_, fun h0 v hv => ?_, fun h0 => ?_⟩
  · obtain ⟨h1, h2, h3⟩ := hs.row h0
    refine ⟨?_, ?_, ?_⟩
    · show q.m + 1 = (s.nodes ++ [_]).length
      rw [List.length_append, h1]; rfl
    · show q.xs ++ _ = nodesCells (s.nodes ++ [_]) (lvs ++ [_])
      rw [nodesCells_snoc _ _ _ _ h3, h2, ← hy h0]
      rfl
    · show (s.nodes ++ [_]).length = (lvs ++ [_]).length
      rw [List.length_append, List.length_append, h3]; rfl
  · exact Below2.snoc (Own.nil _ _ _) ((hs.below h0).frR hq.blk (by decide) hf)
  · rcases List.mem_append.1 hv with hv | hv
    · exact hs.avoid h0 v hv
    · rw [List.mem_singleton.1 hv]; intro k hk; simp [blk] at hk
  · have hb := hs.bad h0
    show q.m + 1 ≤ (s.nodes ++ [_]).length + N.n
    rw [List.length_append]
    simp; omega
/-- The parser's cells that deeper reads. -/
theorem QS.deepC (h : QS src tb tc ts g R w0 w s N) : g < w.heap.size ∧ w.cell? ⟨g, 2, none⟩ = some (.int .i64 N.d) ∧ w.frozen? ⟨g, 2, none⟩ = false ∧ (s.e = 0 → N.d = s.deep) ∧ w.cell? ⟨g, 3, none⟩ = some (.int .i64 s.e) := by
  obtain ⟨q, lvs, hq, hs⟩ := h.q
  obtain ⟨hg, _, _, c2, c3, _, _⟩ := hq.cells
  rw [hs.e] at c3
  rw [hs.deep] at c2
  exact ⟨hg, c2, hq.blk.frozen 2, fun h0 => by rw [← hs.deep]; exact (hs.pos h0).2, c3⟩
theorem QS.setD (h : QS src tb tc ts g R w0 w s N) (x : Nat) (hs' : s'.e = s.e ∧ s'.place = s.place ∧ s'.nodes = s.nodes ∧ (s.e = 0 → s'.i = s.i ∧ s'.deep = x)) (hk : PSOk ts s') : QS src tb tc ts g R w0 (w.setCell ⟨g, 2, none⟩ (.int .i64 x)) s' ⟨N.n, x⟩ := by
  obtain ⟨q, lvs, hq, hs⟩ := h.q
  obtain ⟨i', nodes', deep', e', place'⟩ := s'
  obtain ⟨i, nodes, deep, e, place⟩ := s
  dsimp only at hs'
  obtain ⟨rfl, rfl, rfl, h0⟩ := hs'
  have f : FrR g w (w.setCell ⟨g, 2, none⟩ (.int .i64 x)) := ((Fr.refl (oneb g) w).setCell ⟨g, 2, none⟩ _ (fun _ => rfl)).mono (fun k _ e => .inl e)
  refine ⟨⟨_, lvs, hq.setD x, ?_⟩, fun k hk => Nat.lt_of_lt_of_le (h.res k hk) f.size, hk, h.toks, h.long, h.fr.trans f, h.most.frR hq.blk f⟩
  exact ⟨hs.e, hs.place, rfl, fun he => ⟨by rw [(h0 he).1]; exact (hs.pos he).1, (h0 he).2.symm⟩, hs.row, fun he => (hs.below he).frR hq.blk (by decide) f, hs.avoid, hs.bad⟩
/-- Behind an error the model may go on. -/
theorem QS.bad (h : QS src tb tc ts g R w0 w s N) (h0 : s.e ≠ 0) (he : s'.e = s.e) (hp : s'.place = s.place) (hn : s.nodes.length ≤ s'.nodes.length) (hk : PSOk ts s') : QS src tb tc ts g R w0 w s' N := by
  obtain ⟨q, lvs, hq, hs⟩ := h.q
  have h1 : s'.e ≠ 0 := by rw [he]; exact h0
  refine ⟨⟨q, lvs, hq, ⟨by rw [he]; exact hs.e, by rw [hp]; exact hs.place, hs.deep, fun e => absurd e h1, fun e => absurd e h1, fun e => absurd e h1, fun e => absurd e h1, fun _ => ?_⟩⟩, h.res, hk, h.toks, h.long, h.fr, h.most⟩
  have := hs.bad h0
  omega
end
end Go.Proofs.YtlbjicjinnnboaaGreatDoor
/- The program's own parser: deeper. -/
namespace Go.Proofs.YtlbjicjinnnboaaGreatDoor
open Go.RowKit
set_option linter.unusedVariables false
set_option linter.unusedSimpArgs false
set_option maxHeartbeats 1600000 in
set_option maxRecDepth 100000 in
/-- Something is read one deeper. -/
theorem QS.deeper {src : ByteArray} {tb tc : Nat} {ts : List Tok} {g : Nat} {N : Lim} {R : Nat → Prop} {w0 w : World} {s s2 : PS} (h : QS src tb tc ts g R w0 w s N) (h0 : s.e = 0) (f : Nat) (cap : Array Value) {n2 : Nat} {K : World → Prop}
    (hdn : pDown ts s = { s with deep := s.deep + 1 } → ∀ w1, QS src tb tc ts g R w0 w1 { s with deep := s.deep + 1 } ⟨N.n, N.d + 1⟩ → FrR g w w1 →
      Calls Tryz.prog f cap w1 fun e w' => e = .returned (.tuple #[]) ∧ QS src tb tc ts g R w0 w' s2 ⟨n2, N.d + 1⟩ ∧ (s2.e = 0 → s2.deep = s.deep + 1) ∧ K w')
    (hK : ∀ w' w'', FrR g w' w'' → K w' → K w'') (hen : Enters Tryz.prog f) (hup : s.deep < 16 → PSOk ts (pUp s2)) :
    Calls Tryz.prog 159 #[.pointer (some ⟨g, 0, none⟩), .func (.func f) #[] cap] w fun e w' => e = .returned (.tuple #[]) ∧
      ((16 ≤ s.deep → QS src tb tc ts g R w0 w' (pFail ts 21 s) N ∧ FrR g w w') ∧ (s.deep < 16 → QS src tb tc ts g R w0 w' (pUp s2) ⟨n2, N.d⟩ ∧ K w')) := by
  obtain ⟨hg, c2, f2, hd0, _⟩ := h.deepC
  have hd := hd0 h0
  clear hd0
  have H := hid h
  have HF := hid hdn
  have HK := hid hK
  have HUP := hid hup
  clear h hdn hK hup
  by_cases h16 : 16 ≤ s.deep
  · have k1 : (16 : Int) ≤ (N.d : Int) := by omega
    have k2 : ¬ (N.d : Int) < 16 := by omega
    have H16 := hid h16
    clear h16 hd
    go_enter Tryz.func159, Tryz.ntmps159
    go_wp2_with fail
    refine (H.out.here.fail 21 (by decide) (by decide)).mono ?_
    rintro e w2 ⟨rfl, h2⟩
    have H2 := hid h2
    clear h2
    go_wp2_with fail
    refine bodyPost_ret (results_none rfl _ _ _) rfl ⟨rfl, fun _ => ⟨H.out.back H2.out, H2.out.fr⟩, fun hlt => absurd H16.out (by omega)⟩
  · have k1 : ¬ (16 : Int) ≤ (N.d : Int) := by omega
    have k2 : (N.d : Int) < 16 := by omega
    have hk16 : s.deep < 16 := by omega
    have e1 : pDown ts s = { s with deep := s.deep + 1 } := by
      unfold pDown
      simp only
      rw [if_neg h16]
    have H1 := hid (H.out.setD (s' := { s with deep := s.deep + 1 }) (N.d + 1) ⟨rfl, rfl, rfl, fun _ => ⟨rfl, by show s.deep + 1 = N.d + 1; omega⟩⟩ (by rw [← e1]; exact H.out.ok.down H.out.toks h0))
    have F1 := hid (show FrR g w (w.setCell ⟨g, 2, none⟩ (.int .i64 ((N.d + 1 : Nat) : Int))) from ((Fr.refl (oneb g) w).setCell ⟨g, 2, none⟩ _ (fun _ => rfl)).mono (fun k _ e => .inl e))
    rw [show (((N.d + 1 : Nat)) : Int) = (N.d : Int) + 1 by omega] at H1 F1
    have HF2 := hid (HF.out e1)
    have K16 := hid hk16
    have HDD := hid hd
    clear h16 hd e1 hk16
    go_enter Tryz.func159, Tryz.ntmps159
    go_wp2_with fail
    rw [hen]
    generalize w.setCell _ _ = w1 at *
    go_wp2_with fail
    refine (HF2.out w1 H1.out F1.out).mono ?_
    rintro e w2 ⟨rfl, h2, hd2, hk2⟩
    have H2 := hid h2
    have HD2 := hid hd2
    have K2 := hid hk2
    clear h2 hd2 hk2 c2 f2
    obtain ⟨hg2, c2, f2, _, _⟩ := H2.out.deepC
    have HC2 := hid c2
    clear c2
    have c2 : w2.cell? ⟨g, 2, none⟩ = some (.int .i64 ((N.d : Int) + 1)) := by rw [HC2.out]; congr 2
    have kk : (N.d : Int) + 1 - 1 = (N.d : Int) := by omega
    go_wp2_with fail
    have F3 := hid (show FrR g w2 (w2.setCell ⟨g, 2, none⟩ (.int .i64 N.d)) from ((Fr.refl (oneb g) w2).setCell ⟨g, 2, none⟩ _ (fun _ => rfl)).mono (fun k _ e => .inl e))
    refine bodyPost_end (results_none rfl _ _ _) rfl ⟨rfl, fun hge => absurd hge (by have := K16.out; omega), fun hlt => ⟨?_, HK.out _ _ F3.out K2.out⟩⟩
    refine H2.out.setD (s' := pUp s2) N.d ⟨rfl, rfl, rfl, fun h => ⟨rfl, ?_⟩⟩ (HUP.out hlt)
    show s2.deep - 1 = N.d
    have h1 := HD2.out h
    have h3 := HDD.out
    omega
end Go.Proofs.YtlbjicjinnnboaaGreatDoor
/- The program's own parser: within. -/
namespace Go.Proofs.YtlbjicjinnnboaaGreatDoor
open Go.RowKit
set_option linter.unusedVariables false
set_option linter.unusedSimpArgs false
theorem QS.take {src : ByteArray} {tb tc : Nat} {ts : List Tok} {g : Nat} {N : Lim} {R : Nat → Prop} {w0 w : World} {s : PS} (h : QS src tb tc ts g R w0 w s N) (h0 : s.e = 0) (hk : PSOk ts (pGo s)) :
    Calls Tryz.prog 120 #[.pointer (some ⟨g, 0, none⟩)] w fun e w' => e = .returned (tokA (pTok ts s)) ∧ QS src tb tc ts g R w0 w' (pGo s) N := by
  obtain ⟨q, lvs, hq, hs⟩ := h.q
  refine (qtake_any hq).mono fun e w' ⟨he, hq', hf⟩ => ⟨by rw [he, hs.tok h0], h.go hq hs hq' hf hk (hs.take h0 hk.room)⟩
set_option maxHeartbeats 1600000 in
set_option maxRecDepth 100000 in
/-- What is read between: one token, something, and the end. -/
theorem within1_any {src : ByteArray} {tb tc : Nat} {ts : List Tok} {g : Nat} {N : Lim} {R : Nat → Prop} {w0 w : World} {s s2 : PS} (h : QS src tb tc ts g R w0 w s N) (h0 : s.e = 0) (hk : PSOk ts (pGo s)) (f : Nat) (cap : Array Value) {N2 : Lim} {K : World → Prop}
    {b0 b1 b2 : Nat} {X : ByteArray} (hb0 : Blk w b0 118 #[.pointer (some ⟨g, 0, none⟩)]) (hb1 : Blk w b1 1 #[.func (.func f) #[] cap]) (hb2 : Blk w b2 9 #[.string X])
    (n0 : b0 ≠ g) (n1 : b1 ≠ g) (n2 : b2 ≠ g)
    (hF : ∀ w1, QS src tb tc ts g R w0 w1 (pGo s) N → FrR g w w1 → Calls Tryz.prog f cap w1 fun e w' => e = .returned (.tuple #[]) ∧ QS src tb tc ts g R w0 w' s2 N2 ∧ (∀ b t cs, Blk w1 b t cs → (t = 118 ∨ t = 9) → Blk w' b t cs) ∧ K w')
    (hK : ∀ w' w'', FrR g w' w'' → K w' → K w'') (hen : Enters Tryz.prog f) :
    Calls Tryz.prog 160 #[.pointer (some ⟨b0, 0, none⟩), .pointer (some ⟨b1, 0, none⟩), .pointer (some ⟨b2, 0, none⟩)] w fun e w' => e = .returned (.tuple #[]) ∧ QS src tb tc ts g R w0 w' (pMust ts X.data.toList s2) N2 ∧ K w' := by
  have H := hid h
  have HF := hid hF
  have HK := hid hK
  have T := hid (h.here.take h0 hk)
  have B0 := hid hb0
  have B1 := hid hb1
  have B2 := hid hb2
  have x0 : w.cell? ⟨b0, 0, none⟩ = some (.pointer (some ⟨g, 0, none⟩)) := by rw [hb0.cell 0]; rfl
  clear h hF hK hb0 hb1 hb2 hk
  go_enter Tryz.func160, Tryz.ntmps160
  go_wp2_with fail
  refine T.out.mono ?_
  rintro e w2 ⟨rfl, h2⟩
  have H2 := hid h2
  have C0 := hid (h2.fr.blk B0.out n0 (by decide))
  have C1 := hid (h2.fr.blk B1.out n1 (by decide))
  have C2 := hid (h2.fr.blk B2.out n2 (by decide))
  have HF2 := hid (HF.out w2 (H.out.back h2) h2.fr)
  have x1 : w2.cell? ⟨b1, 0, none⟩ = some (.func (.func f) #[] cap) := by rw [C1.out.cell 0]; rfl
  clear h2 x0
  go_wp2_with fail
  rw [hen]
  go_wp2_with fail
  refine HF2.out.mono ?_
  rintro e w3 ⟨rfl, h3, hb, hk3⟩
  have H3 := hid h3
  have K3 := hid hk3
  have x0 : w3.cell? ⟨b0, 0, none⟩ = some (.pointer (some ⟨g, 0, none⟩)) := by rw [(hb _ _ _ C0.out (.inl rfl)).cell 0]; rfl
  have x2 : w3.cell? ⟨b2, 0, none⟩ = some (.string X) := by rw [(hb _ _ _ C2.out (.inr rfl)).cell 0]; rfl
  clear h3 hk3 hb x1
  go_wp2_with fail
  refine (H3.out.here.must X).mono ?_
  rintro e w4 ⟨rfl, h4⟩
  have H4 := hid h4
  clear h4
  go_wp2_with fail
  refine bodyPost_end (results_none rfl _ _ _) rfl ⟨rfl, H3.out.back H4.out, HK.out _ _ H4.out.fr K3.out⟩
end Go.Proofs.YtlbjicjinnnboaaGreatDoor
/- The program's own parser: within, of something that is read. -/
namespace Go.Proofs.YtlbjicjinnnboaaGreatDoor
open Go.RowKit
set_option linter.unusedVariables false
set_option linter.unusedSimpArgs false
theorem QS.is1 {src : ByteArray} {tb tc : Nat} {ts : List Tok} {g : Nat} {N : Lim} {R : Nat → Prop} {w0 w : World} {s : PS} (h : QS src tb tc ts g R w0 w s N) (X : ByteArray) {b : Nat} (hb : Blk w b 9 #[.string X]) {z : Bool} (hz : pIs ts X.data.toList s = z) :
    Calls Tryz.prog 83 #[.pointer (some ⟨g, 0, none⟩), .slice (some ⟨b, 0, none⟩) 1 1] w fun e w' => e = .returned (.bool z) ∧ Fr nob w w' := by
  obtain ⟨q, lvs, hq, hs⟩ := h.q
  refine (qis_any hq [X] b 1 hb rfl (by decide)).mono fun e w' ⟨he, hf⟩ => ⟨by rw [he, hs.isX, hz], hf⟩
theorem enters_within1 : Enters Tryz.prog 160 := enters_of Tryz.func160 (by kernel_rfl) rfl
set_option maxHeartbeats 3200000 in
set_option maxRecDepth 100000 in
/-- Something between two signs. -/
theorem QS.within {src : ByteArray} {tb tc : Nat} {ts : List Tok} {g : Nat} {N : Lim} {R : Nat → Prop} {w0 w : World} {s s2 : PS} (h : QS src tb tc ts g R w0 w s N) (op X : ByteArray) (f : Nat) (cap : Array Value) {n2 : Nat} {K : World → Prop}
    (hF : pIs ts op.data.toList s = true → s.deep < 16 → ∀ w1, QS src tb tc ts g R w0 w1 (pGo { s with deep := s.deep + 1 }) ⟨N.n, N.d + 1⟩ → FrR g w w1 →
      Calls Tryz.prog f cap w1 fun e w' => e = .returned (.tuple #[]) ∧ QS src tb tc ts g R w0 w' s2 ⟨n2, N.d + 1⟩ ∧ (∀ b t cs, Blk w1 b t cs → (t = 118 ∨ t = 9) → Blk w' b t cs) ∧ K w')
    (hK : ∀ w' w'', FrR g w' w'' → K w' → K w'') (hen : Enters Tryz.prog f) (hdeep : s2.e = 0 → s2.deep = s.deep + 1) (hup : s.deep < 16 → PSOk ts (pUp (pMust ts X.data.toList s2))) :
    Calls Tryz.prog 123 #[.pointer (some ⟨g, 0, none⟩), .string op, .string X, .func (.func f) #[] cap] w fun e w' => e = .returned (.tuple #[]) ∧
      ((pIs ts op.data.toList s = false → QS src tb tc ts g R w0 w' (pFail ts 20 s) N ∧ FrR g w w') ∧ (pIs ts op.data.toList s = true → 16 ≤ s.deep → QS src tb tc ts g R w0 w' (pFail ts 21 s) N ∧ FrR g w w') ∧
       (pIs ts op.data.toList s = true → s.deep < 16 → QS src tb tc ts g R w0 w' (pUp (pMust ts X.data.toList s2)) ⟨n2, N.d⟩ ∧ K w')) := by
  have hmf : ∀ (fn : Fn) (first cap : Array Value) (w : World), (Instr.makeFunc fn first cap).run Tryz.prog w = .ok (.func fn first cap) w := fun _ _ _ _ => rfl
  obtain ⟨W1, hW1⟩ : ∃ W1, W1 = (((w.alloc (.cells #[.pointer (some ⟨g, 0, none⟩)] 118)).alloc (.cells #[.string X] 9)).alloc (.cells #[.func (.func f) #[] cap] 1)) := ⟨_, rfl⟩
  have F1 := hid (show Fr nob w W1 from by rw [hW1]; exact (((Fr.refl nob w).alloc _).alloc _).alloc _)
  have hsz1 : (w.alloc (.cells #[.pointer (some ⟨g, 0, none⟩)] 118)).heap.size = w.heap.size + 1 := by simp
  have hsz2 : ((w.alloc (.cells #[.pointer (some ⟨g, 0, none⟩)] 118)).alloc (.cells #[.string X] 9)).heap.size = w.heap.size + 1 + 1 := by simp
  have hszW : W1.heap.size = w.heap.size + 1 + 1 + 1 := by rw [hW1]; simp
  have B0 := hid (show Blk W1 w.heap.size 118 #[.pointer (some ⟨g, 0, none⟩)] from by rw [hW1]; exact ((Blk.new w _ _).alloc _).alloc _)
  have B1 := hid (show Blk W1 (w.heap.size + 1) 9 #[.string X] from by
    rw [hW1]
    have := Blk.new (w.alloc (.cells #[.pointer (some ⟨g, 0, none⟩)] 118)) 9 #[.string X]
    rw [hsz1] at this
    exact this.alloc _)
  have B2 := hid (show Blk W1 (w.heap.size + 1 + 1) 1 #[.func (.func f) #[] cap] from by
    rw [hW1]
    have := Blk.new ((w.alloc (.cells #[.pointer (some ⟨g, 0, none⟩)] 118)).alloc (.cells #[.string X] 9)) 1 #[.func (.func f) #[] cap]
    rw [hsz2] at this
    exact this)
  have H1 := hid (h.no F1.out)
  have hgl : g < w.heap.size := h.deepC.1
  have GL := hid hgl
  have A2 := hid (show Fr nob W1 (W1.alloc (.cells #[.string op] 9)) from (Fr.refl nob W1).alloc _)
  obtain ⟨z, hz⟩ : ∃ z, pIs ts op.data.toList s = z := ⟨_, rfl⟩
  have HI := hid ((H1.out.no A2.out).is1 op (Blk.new W1 _ _) hz)
  have HF := hid hF
  have HK := hid hK
  have HUP := hid hup
  have HDP := hid hdeep
  have HZ := hid hz
  rw [hz]
  rw [hz] at HF
  have x0 : (W1.alloc (.cells #[.string op] 9)).cell? ⟨w.heap.size, 0, none⟩ = some (.pointer (some ⟨g, 0, none⟩)) := by rw [(B0.out.alloc _).cell 0]; rfl
  have y0 : W1.cell? ⟨w.heap.size, 0, none⟩ = some (.pointer (some ⟨g, 0, none⟩)) := by rw [B0.out.cell 0]; rfl
  clear h hF hK hup hdeep hsz1 hsz2 hz hgl
  have HS := hid hszW
  clear hszW
  rw [HS.out] at HI
  cases z with
  | false =>
    go_enter Tryz.func123, Tryz.ntmps123
    go_wp2_with fail
    rw [← hW1]
    clear hW1
    refine HI.out.mono ?_
    rintro e w2 ⟨rfl, hf⟩
    have F2 := hid (A2.out.tr hf)
    have H2 := hid (H1.out.no F2.out)
    have C0 := hid (B0.out.fr F2.out (fun x => x))
    have C1 := hid (B1.out.fr F2.out (fun x => x))
    have C2 := hid (B2.out.fr F2.out (fun x => x))
    have G2 := hid (F1.out.tr F2.out)
    clear hf x0
    have x0 : w2.cell? ⟨w.heap.size, 0, none⟩ = some (.pointer (some ⟨g, 0, none⟩)) := by rw [C0.out.cell 0]; rfl
    go_wp2_with fail
    refine (H2.out.here.fail 20 (by decide) (by decide)).mono ?_
    rintro e w3 ⟨rfl, h3⟩
    have H3 := hid h3
    clear h3
    go_wp2_with fail
    refine bodyPost_ret (results_none rfl _ _ _) rfl ⟨rfl, fun _ => ⟨H2.out.back H3.out, FrR.trans (FrR.no G2.out) H3.out.fr⟩, fun e => (by cases e), fun e => (by cases e)⟩
  | true =>
    have h0 := (pIs_kind HZ.out).1
    have HH0 := hid h0
    go_enter Tryz.func123, Tryz.ntmps123
    go_wp2_with fail
    rw [← hW1]
    clear hW1
    refine HI.out.mono ?_
    rintro e w2 ⟨rfl, hf⟩
    have F2 := hid (A2.out.tr hf)
    have H2 := hid (H1.out.no F2.out)
    have C0 := hid (B0.out.fr F2.out (fun x => x))
    have C1 := hid (B1.out.fr F2.out (fun x => x))
    have C2 := hid (B2.out.fr F2.out (fun x => x))
    have G2 := hid (F1.out.tr F2.out)
    clear hf x0
    have x0 : w2.cell? ⟨w.heap.size, 0, none⟩ = some (.pointer (some ⟨g, 0, none⟩)) := by rw [C0.out.cell 0]; rfl
    have HW := hid (H2.out.deeper h0 160 #[.pointer (some ⟨w.heap.size, 0, none⟩), .pointer (some ⟨w.heap.size + 1 + 1, 0, none⟩), .pointer (some ⟨w.heap.size + 1, 0, none⟩)] (s2 := pMust ts X.data.toList s2) (n2 := n2) (K := K)
      (fun hdn w3 h3 hf3 => by
        have hlt : s.deep < 16 := by
          by_cases hh : 16 ≤ s.deep
          · exfalso
            unfold pDown at hdn
            simp only at hdn
            rw [if_pos hh] at hdn
            have e1 := congrArg PS.e hdn
            unfold pFail at e1
            rw [if_pos HH0.out] at e1
            simp at e1
            have := HH0.out
            omega
          · omega
        have hk : PSOk ts (pGo { s with deep := s.deep + 1 }) := by rw [← hdn]; exact H2.out.ok.goDown H2.out.toks HZ.out
        have ng : ∀ k, w.heap.size ≤ k → k ≠ g := fun k hk e => by have := GL.out; omega
        refine (within1_any h3 HH0.out hk f cap (hf3.blk C0.out (ng _ (Nat.le_refl _)) (by decide)) (hf3.blk C2.out (ng _ (by omega)) (by decide)) (hf3.blk C1.out (ng _ (by omega)) (by decide)) (ng _ (Nat.le_refl _)) (ng _ (by omega)) (ng _ (by omega))
          (fun w4 h4 hf4 => HF.out (by first | trivial | rfl) hlt w4 h4 (FrR.trans (FrR.trans (FrR.no G2.out) hf3) hf4)) HK.out hen).mono fun e w' ⟨he, hq, hk⟩ => ⟨he, hq, fun hz => ?_, hk⟩
        have h2e : s2.e = 0 := Ext.e0 ((Ext.refl s2).must (ts := ts) X.data.toList) hz
        rw [deep_must]
        exact HDP.out h2e)
      HK.out enters_within1 HUP.out)
    clear h0
    go_wp2_with fail
    refine HW.out.mono ?_
    rintro e w5 ⟨rfl, h5, h6⟩
    have H5 := hid h5
    have H6 := hid h6
    clear h5 h6
    go_wp2_with fail
    first
      | refine bodyPost_end (results_none rfl _ _ _) rfl ⟨rfl, fun e => (by cases e), fun _ hge => ⟨(H5.out hge).1, FrR.trans (FrR.no G2.out) (H5.out hge).2⟩, fun _ hlt => H6.out hlt⟩
      | refine bodyPost_ret (results_none rfl _ _ _) rfl ⟨rfl, fun e => (by cases e), fun _ hge => ⟨(H5.out hge).1, FrR.trans (FrR.no G2.out) (H5.out hge).2⟩, fun _ hlt => H6.out hlt⟩
end Go.Proofs.YtlbjicjinnnboaaGreatDoor
/- The program's own parser: variables that its closures write; what a task does. -/
namespace Go.Proofs.YtlbjicjinnnboaaGreatDoor
open Go.RowKit
set_option linter.unusedVariables false
set_option linter.unusedSimpArgs false
/-- And one block more. -/
def RB (R : Nat → Prop) (b : Nat) : Nat → Prop := fun k => R k ∨ k = b
section
variable {src : ByteArray} {tb tc : Nat} {ts : List Tok} {g : Nat} {N : Lim} {R R' : Nat → Prop} {w0 w w' : World} {s : PS} {b : Nat}
/-- A new block of numbers. -/
theorem QS.box (h : QS src tb tc ts g R w0 w s N) (o : Obj) : QS src tb tc ts g (RB R w.heap.size) w0 (w.alloc o) s N := by
  obtain ⟨q, lvs, hq, hs⟩ := h.q
  have h1 := h.alloc o
  refine ⟨⟨q, lvs, hq.no ((Fr.refl nob w).alloc o), ?_⟩, fun k hk => ?_, h.ok, h.toks, h.long, h1.fr, h1.most⟩
  · have hs1 := hs.no ((Fr.refl nob w).alloc o)
    exact ⟨hs.e, hs.place, hs.deep, hs.pos, hs.row, hs1.below, fun h0 v hv k hk hR => by
      rcases hR with hR | hR
      · exact hs.avoid h0 v hv k hk hR
      · have := rows_lt (hs.below h0) v hv k hk
        omega, hs.bad⟩
  · rcases hk with hk | hk
    · exact h1.res k hk
    · rw [hk]; simp
theorem QS.drop (h : QS src tb tc ts g R' w0 w s N) (hR : ∀ k, R k → R' k) : QS src tb tc ts g R w0 w s N := by
  obtain ⟨q, lvs, hq, hs⟩ := h.q
  exact ⟨⟨q, lvs, hq, ⟨hs.e, hs.place, hs.deep, hs.pos, hs.row, hs.below, fun h0 v hv k hk hr => hs.avoid h0 v hv k hk (hR k hr), hs.bad⟩⟩, fun k hk => h.res k (hR k hk), h.ok, h.toks, h.long, h.fr, h.most⟩
theorem Below2.avoid {M : Nat → Prop} (f : Fr M w w') : ∀ {ns : List NodeM} {vs : List Value}, Below2 w ns vs → (∀ v ∈ vs, ∀ k, blk v = some k → ¬ M k) → Below2 w' ns vs
  | [], [], _, _ => trivial
  | [], _ :: _, h, _ => h.elim
  | _ :: _, [], h, _ => h.elim
  | _ :: _, v :: _, h, hn => ⟨h.1.fr f (fun k hk => hn v List.mem_cons_self k hk), Below2.avoid f h.2 (fun v hv => hn v (List.mem_cons_of_mem _ hv))⟩
/-- A block of one's own is written. -/
theorem QS.own (h : QS src tb tc ts g R w0 w s N) {cs : Array Value} (hb : Blk w b 3 cs) (hR : R b) (hn : w0.heap.size ≤ b) (f : Fr (oneb b) w w') : QS src tb tc ts g R w0 w' s N := by
  obtain ⟨q, lvs, hq, hs⟩ := h.q
  have hg : g ≠ b := fun e => hq.blk.ne hb (by decide) e
  obtain ⟨b0, ht⟩ := hq.toks
  refine ⟨⟨q, lvs, ⟨hq.blk.fr f hg, hq.own.fr f (fun k hk hm => hq.own.blk_ne hb (by decide) (by rw [hk, show k = b from hm])), ⟨b0, ht.own.fr f (fun k hk hm => ht.own.blk_ne hb (by decide) (by rw [hk, show k = b from hm])), ht.new⟩, hq.room, hq.newer⟩, ?_⟩, fun k hk => Nat.lt_of_lt_of_le (h.res k hk) f.size, h.ok, h.toks, h.long, ?_, ⟨h.most.1, h.most.2.imp fun m hm => hm.fr f (fun e => by have e1 : (0 : Nat) = b := e; have := h.most.1; omega)⟩⟩
  · exact ⟨hs.e, hs.place, hs.deep, hs.pos, hs.row, fun h0 => (hs.below h0).avoid f (fun v hv k hk hm => hs.avoid h0 v hv k hk (by rw [show k = b from hm]; exact hR)), hs.avoid, hs.bad⟩
  · exact Fr.trans h.fr f (fun _ _ x => x) (fun k hk hm => by have : k = b := hm; omega)
end
section
variable (src : ByteArray) (tb tc : Nat) (ts : List Tok) (g : Nat)
/-- What a task comes to: the same, and behind an error few nodes more. -/
def QDoes (n : Nat) (k : Task) (F : FuncId) (args : Array Value) : Prop :=
  ∀ (R : Nat → Prop) (w0 w : World) (s : PS) (r : List Nat × PS) (N : Lim), QS src tb tc ts g R w0 w s N → run src.data.toList ts n k s = some r → r.2.nodes.length + N.n + 10 * n + 10 ≤ 1000000 →
    Calls Tryz.prog F args w fun e w' => ∃ x : Nat, e = .returned (.int .i64 x) ∧ (r.2.e = 0 → x = oneOf r.1) ∧ QS src tb tc ts g R w0 w' r.2 ⟨if s.e = 0 then 10 * n else N.n + 2, N.d⟩
structure QGood (n : Nat) : Prop where
  atom : QDoes src tb tc ts g n .atom 222 #[.pointer (some ⟨g, 0, none⟩)]
  factor : QDoes src tb tc ts g n .factor 202 #[.pointer (some ⟨g, 0, none⟩)]
  chain : ∀ (lv : Nat) (z : Int), ((lv : Nat) : Int) = z → lv ≤ 5 → QDoes src tb tc ts g n (.chain lv) 186 #[.pointer (some ⟨g, 0, none⟩), .int .i64 z]
  expr : QDoes src tb tc ts g n (.chain 0) 162 #[.pointer (some ⟨g, 0, none⟩)]
  call : QDoes src tb tc ts g n .call 188 #[.pointer (some ⟨g, 0, none⟩)]
  right : QDoes src tb tc ts g n .right 185 #[.pointer (some ⟨g, 0, none⟩)]
  block : QDoes src tb tc ts g n .block 84 #[.pointer (some ⟨g, 0, none⟩)]
  named : ∀ line : Nat, QDoes src tb tc ts g n (.named line) 164 #[.pointer (some ⟨g, 0, none⟩), .int .i64 line]
  stmt : QDoes src tb tc ts g n .stmt 125 #[.pointer (some ⟨g, 0, none⟩)]
end
end Go.Proofs.YtlbjicjinnnboaaGreatDoor
/- The program's own parser: an expression between two signs. -/
namespace Go.Proofs.YtlbjicjinnnboaaGreatDoor
open Go.RowKit
set_option linter.unusedVariables false
set_option linter.unusedSimpArgs false
theorem enters_inner1 : Enters Tryz.prog 204 := enters_of Tryz.func204 (by kernel_rfl) rfl
theorem QS.blkg {src : ByteArray} {tb tc : Nat} {ts : List Tok} {g : Nat} {N : Lim} {R : Nat → Prop} {w0 w : World} {s : PS} (h : QS src tb tc ts g R w0 w s N) : ∃ cs, Blk w g 82 cs := by
  obtain ⟨q, lvs, hq, hs⟩ := h.q
  exact ⟨_, hq.blk⟩
set_option maxHeartbeats 3200000 in
set_option maxRecDepth 100000 in
theorem inner1_any {src : ByteArray} {tb tc : Nat} {ts : List Tok} {g n : Nat} {N : Lim} {R : Nat → Prop} {w0 w : World} {s : PS} {r : List Nat × PS} (hG : QDoes src tb tc ts g n (.chain 0) 162 #[.pointer (some ⟨g, 0, none⟩)])
    (h : QS src tb tc ts g R w0 w s N) (h0 : s.e = 0) (hr : run src.data.toList ts n (.chain 0) s = some r) (hn : r.2.nodes.length + N.n + 10 * n + 10 ≤ 1000000) {b0 b1 : Nat} {v : Value}
    (hb0 : Blk w b0 78 #[.pointer (some ⟨g, 0, none⟩)]) (hb1 : Blk w b1 3 #[v]) (hR : R b1) (hnew : w0.heap.size ≤ b1) :
    Calls Tryz.prog 204 #[.pointer (some ⟨b0, 0, none⟩), .pointer (some ⟨b1, 0, none⟩)] w fun e w' => e = .returned (.tuple #[]) ∧ QS src tb tc ts g R w0 w' r.2 ⟨10 * n, N.d⟩ ∧
      (∀ b t cs, Blk w b t cs → (t = 118 ∨ t = 9) → Blk w' b t cs) ∧ (∃ x : Nat, Blk w' b1 3 #[.int .i64 x] ∧ (r.2.e = 0 → x = oneOf r.1)) ∧ Blk w' b0 78 #[.pointer (some ⟨g, 0, none⟩)] := by
  have HX := hid (hG R w w s r N h.here hr hn)
  rw [if_pos h0] at HX
  have H := hid h
  have B0 := hid hb0
  have B1 := hid hb1
  obtain ⟨cg, hcg⟩ := h.blkg
  have G := hid hcg
  have x0 : w.cell? ⟨b0, 0, none⟩ = some (.pointer (some ⟨g, 0, none⟩)) := by rw [hb0.cell 0]; rfl
  clear h hG hr hn hb0 hb1 hcg h0
  go_enter Tryz.func204, Tryz.ntmps204
  go_wp2_with fail
  refine HX.out.mono ?_
  rintro e w2 ⟨x, rfl, hx, h2⟩
  have H2 := hid h2
  have HXE := hid hx
  have C1 := hid (h2.fr.blk B1.out (fun e => B1.out.ne G.out (by decide) e) (by decide))
  have C0 := hid (h2.fr.blk B0.out (fun e => B0.out.ne G.out (by decide) e) (by decide))
  have y1 : w2.cell? ⟨b1, 0, none⟩ = some v := by rw [C1.out.cell 0]; rfl
  have z1 := C1.out.frozen 0
  clear h2 hx x0
  go_wp2_with fail
  have f : Fr (oneb b1) w2 (w2.setCell ⟨b1, 0, none⟩ (.int .i64 x)) := (Fr.refl _ w2).setCell _ _ (fun _ => rfl)
  refine bodyPost_end (results_none rfl _ _ _) rfl ⟨rfl, (H.out.back H2.out).own C1.out hR hnew f, fun b t cs hb ht => ?_, ⟨x, ?_, HXE.out⟩, ?_⟩
  · have hb2 := H2.out.fr.blk hb (fun e => by rcases ht with rfl | rfl <;> exact hb.ne G.out (by decide) e) (by rcases ht with rfl | rfl <;> decide)
    exact hb2.far (p := ⟨b1, 0, none⟩) (by rcases ht with rfl | rfl <;> exact fun e => hb2.ne C1.out (by decide) e) _
  · exact C1.out.setCell 0 (.int .i64 x)
  · exact C0.out.far (p := ⟨b1, 0, none⟩) (fun e => C0.out.ne C1.out (by decide) e) _
end Go.Proofs.YtlbjicjinnnboaaGreatDoor
/- The program's own parser: an expression between two signs, all of it. -/
namespace Go.Proofs.YtlbjicjinnnboaaGreatDoor
open Go.RowKit
set_option linter.unusedVariables false
set_option linter.unusedSimpArgs false
/-- Where there is no error yet, there is nothing behind one. -/
theorem QS.zero {src : ByteArray} {tb tc : Nat} {ts : List Tok} {g : Nat} {N : Lim} {R : Nat → Prop} {w0 w : World} {s : PS} (h : QS src tb tc ts g R w0 w s N) (h0 : s.e = 0) (m : Nat) : QS src tb tc ts g R w0 w s ⟨m, N.d⟩ := by
  obtain ⟨q, lvs, hq, hs⟩ := h.q
  exact ⟨⟨q, lvs, hq, hs.e, hs.place, hs.deep, hs.pos, hs.row, hs.below, hs.avoid, fun he => absurd h0 he⟩, h.res, h.ok, h.toks, h.long, h.fr, h.most⟩
theorem inner_state {src : List UInt8} {ts : List Tok} {n : Nat} {s : PS} {op X : List UInt8} {r : List Nat × PS} (hp : pIs ts op s = true) (hr : run src ts n (.chain 0) (pMust ts op (pDown ts s)) = some r) :
    (s.deep < 16 → run src ts n (.chain 0) (pGo { s with deep := s.deep + 1 }) = some r) ∧
      (16 ≤ s.deep → (pUp (pMust ts X r.2)).e = (pFail ts 21 s).e ∧ (pFail ts 21 s).e ≠ 0 ∧ (pUp (pMust ts X r.2)).place = (pFail ts 21 s).place ∧ (pFail ts 21 s).nodes.length ≤ (pUp (pMust ts X r.2)).nodes.length) := by
  have h0 := (pIs_kind hp).1
  constructor
  · intro hd
    have e1 : pDown ts s = { s with deep := s.deep + 1 } := by
      unfold pDown
      rw [if_neg (by omega)]
    have e2 : pMust ts op (pDown ts s) = pGo { s with deep := s.deep + 1 } := by
      rw [e1]
      unfold pMust
      rw [if_pos (by simpa [pIs, pTok] using hp)]
    rw [← e2]
    exact hr
  · intro hd
    have e1 : pDown ts s = { pFail ts 21 s with deep := s.deep + 1 } := by
      unfold pDown
      rw [if_pos hd]
      simp only [deep_fail]
    have f0 : (pFail ts 21 s).e ≠ 0 := by
      unfold pFail
      rw [if_pos h0]
      exact (by decide : (21 : Nat) ≠ 0)
    have d0 : (pDown ts s).e ≠ 0 := by rw [e1]; exact f0
    have x1 : Ext (pDown ts s) (pMust ts op (pDown ts s)) := (Ext.refl _).must _
    have x2 := x1.trans (run_ext _ _ _ _ hr)
    have x3 : Ext (pDown ts s) (pUp (pMust ts X r.2)) := (x2.must (ts := ts) X).up
    have x4 := x3.err d0
    obtain ⟨x, hx⟩ := x3.nodes
    rw [e1] at x4 hx
    exact ⟨x4.1, f0, x4.2, by rw [hx]; simp⟩
/-- A result that lies in a cell of its own. -/
theorem results_cell_one {P : Program} {fn : Func} {p : Tmp} {ty : TypeId} (h : fn.results = #[.cell p ty]) (tmps : Array Value) (w : World) (q : Addr) (v : Value) (hp : tmps.getD p undef = .pointer (some q)) (ha : (isAgg ty).run P w = .ok false w) (hl : w.cell? q = some v) :
    (results fn tmps).run P w = .ok v w := by
  have hp' : tmps[p]?.getD undef = .pointer (some q) := by simpa using hp
  have hv : (loadVar ty q).run P w = .ok v w := by
    unfold loadVar
    rw [Sem.run_bind, ha]
    simp [hl]
  simp [results, h, hp', asAddr, hv]
set_option maxHeartbeats 3200000 in
set_option maxRecDepth 100000 in
theorem QS.inner {src : ByteArray} {tb tc : Nat} {ts : List Tok} {g n : Nat} {N : Lim} {R : Nat → Prop} {w0 w : World} {s : PS} {r : List Nat × PS} (hG : QDoes src tb tc ts g n (.chain 0) 162 #[.pointer (some ⟨g, 0, none⟩)])
    (h : QS src tb tc ts g R w0 w s N) (op X : ByteArray) (hr : pIs ts op.data.toList s = true → run src.data.toList ts n (.chain 0) (pMust ts op.data.toList (pDown ts s)) = some r) (hn : pIs ts op.data.toList s = true → r.2.nodes.length + N.n + 10 * n + 10 ≤ 1000000) :
    Calls Tryz.prog 189 #[.pointer (some ⟨g, 0, none⟩), .string op, .string X] w fun e w' => ∃ x : Nat, e = .returned (.int .i64 x) ∧
      (pIs ts op.data.toList s = false → x = 0 ∧ QS src tb tc ts g R w0 w' (pFail ts 20 s) N) ∧
      (pIs ts op.data.toList s = true → ((pUp (pMust ts X.data.toList r.2)).e = 0 → x = oneOf r.1) ∧ QS src tb tc ts g R w0 w' (pUp (pMust ts X.data.toList r.2)) ⟨N.n + 10 * n, N.d⟩) := by
  have hmf : ∀ (fn : Fn) (first cap : Array Value) (w : World), (Instr.makeFunc fn first cap).run Tryz.prog w = .ok (.func fn first cap) w := fun _ _ _ _ => rfl
  obtain ⟨cg, hcg⟩ := h.blkg
  have hgl : g < w.heap.size := hcg.lt
  have hA : (w.alloc (.cells #[.pointer (some ⟨g, 0, none⟩)] 78)).heap.size = w.heap.size + 1 := by simp
  obtain ⟨W1, hW1⟩ : ∃ W1, W1 = ((w.alloc (.cells #[.pointer (some ⟨g, 0, none⟩)] 78)).alloc (.cells #[.int .i64 0] 3)) := ⟨_, rfl⟩
  have B0 := hid (show Blk W1 w.heap.size 78 #[.pointer (some ⟨g, 0, none⟩)] from by rw [hW1]; exact (Blk.new w _ _).alloc _)
  have B1 := hid (show Blk W1 (w.heap.size + 1) 3 #[.int .i64 0] from by
    rw [hW1]
    have := Blk.new (w.alloc (.cells #[.pointer (some ⟨g, 0, none⟩)] 78)) 3 #[.int .i64 0]
    rw [hA] at this
    exact this)
  have H1 := hid (show QS src tb tc ts g (RB R (w.heap.size + 1)) w W1 s N from by
    have := (h.here.alloc (.cells #[.pointer (some ⟨g, 0, none⟩)] 78)).box (.cells #[.int .i64 0] 3)
    rw [hA] at this
    rw [hW1]
    exact this)
  have S0 := hid h
  have GL := hid hgl
  have h0 : pIs ts op.data.toList s = true → s.e = 0 := fun e => (pIs_kind e).1
  have hok : PSOk ts s := h.ok
  have ht := h.toks
  obtain ⟨s2, h2a, h2b, h2c⟩ : ∃ s2 : PS, (pIs ts op.data.toList s = true → s2 = r.2) ∧ (s2.e = 0 → s2.deep = s.deep + 1) ∧ (s.deep < 16 → PSOk ts (pUp (pMust ts X.data.toList s2))) := by
    by_cases hp : pIs ts op.data.toList s = true
    · refine ⟨r.2, fun _ => rfl, fun _ => ?_, fun _ => ?_⟩
      · have := run_deep _ _ _ _ (hr hp)
        rw [deep_must, deep_down] at this
        exact this
      · exact ((run_ok ht _ _ _ _ (hr hp) ((hok.down ht (h0 hp)).must ht _)).must ht _).up
    · refine ⟨{ s with deep := s.deep + 1 }, fun e => absurd e hp, fun _ => rfl, fun hd => ?_⟩
      have k : PSOk ts { s with deep := s.deep + 1 } := ⟨hok.room, by show s.deep + 1 ≤ 17; omega, fun e => by show s.deep + 1 ≤ 16; omega, hok.err, hok.place⟩
      exact (k.must ht _).up
  have HW := hid (H1.out.within op X 204 #[.pointer (some ⟨w.heap.size, 0, none⟩), .pointer (some ⟨w.heap.size + 1, 0, none⟩)] (s2 := s2) (n2 := N.n + 10 * n)
    (K := fun w' => ∃ x : Nat, Blk w' (w.heap.size + 1) 3 #[.int .i64 x] ∧ (r.2.e = 0 → x = oneOf r.1))
    (fun hp hd w1 hw1 hf => by
      have hrr := (inner_state (X := X.data.toList) hp (hr hp)).1 hd
      have hnn := hn hp
      have hne : ∀ k, w.heap.size ≤ k → k ≠ g := fun k hk e => by have := GL.out; omega
      refine (inner1_any hG hw1 (h0 hp) hrr (by exact hnn) (hf.blk B0.out (hne _ (Nat.le_refl _)) (by decide)) (hf.blk B1.out (hne _ (by omega)) (by decide)) (Or.inr rfl) (Nat.le_succ _)).mono ?_
      rintro e w' ⟨he, hq, hb, hx, _⟩
      rw [h2a hp]
      exact ⟨he, hq.more (by show 10 * n ≤ _; omega), hb, hx⟩)
    (fun w' w'' hf ⟨x, hx, hxx⟩ => ⟨x, hf.blk hx (fun e => by have := GL.out; omega) (by decide), hxx⟩)
    enters_inner1
    h2b h2c)
  have H2A := hid h2a
  have HOK := hid (show pIs ts op.data.toList s = true → PSOk ts (pUp (pMust ts X.data.toList r.2)) from fun hp => ((run_ok ht _ _ _ _ (hr hp) ((hok.down ht (h0 hp)).must ht _)).must ht _).up)
  have HR := hid hr
  clear h hcg hA hr hn hG h0 hgl h2a h2b h2c hok ht
  go_enter Tryz.func189, Tryz.ntmps189
  go_wp2_with fail
  rw [← hW1]
  clear hW1
  refine HW.out.mono ?_
  rintro e w2 ⟨rfl, hA, hB, hC⟩
  have Q2 := hid (show (∃ x : Nat, Blk w2 (w.heap.size + 1) 3 #[.int .i64 x] ∧ (pIs ts op.data.toList s = false → x = 0 ∧ QS src tb tc ts g (RB R (w.heap.size + 1)) w w2 (pFail ts 20 s) N) ∧
      (pIs ts op.data.toList s = true → ((pUp (pMust ts X.data.toList r.2)).e = 0 → x = oneOf r.1) ∧ QS src tb tc ts g (RB R (w.heap.size + 1)) w w2 (pUp (pMust ts X.data.toList r.2)) ⟨N.n + 10 * n, N.d⟩)) from by
    have hbk : FrR g W1 w2 → Blk w2 (w.heap.size + 1) 3 #[.int .i64 0] := fun hf => hf.blk B1.out (fun e => by have := GL.out; omega) (by decide)
    by_cases hp : pIs ts op.data.toList s = true
    · by_cases hd : 16 ≤ s.deep
      · obtain ⟨hq, hf⟩ := hB hp hd
        obtain ⟨e1, e2, e3, e4⟩ := (inner_state (X := X.data.toList) hp (HR.out hp)).2 hd
        refine ⟨0, hbk hf, fun e => (by rw [hp] at e; cases e), fun _ => ⟨fun e => absurd e (by rw [e1]; exact e2), ?_⟩⟩
        exact (hq.bad e2 e1 e3 e4 (HOK.out hp)).more (by show N.n ≤ N.n + 10 * n; omega)
      · obtain ⟨hq, x, hx, hxx⟩ := hC hp (by omega)
        rw [H2A.out hp] at hq
        refine ⟨x, hx, fun e => (by rw [hp] at e; cases e), fun _ => ⟨fun e => hxx (((Ext.refl r.2).must (ts := ts) X.data.toList).up.e0 e), hq⟩⟩
    · obtain ⟨hq, hf⟩ := hA (by simpa using hp)
      exact ⟨0, hbk hf, fun _ => ⟨rfl, hq⟩, fun e => absurd e hp⟩)
  clear hA hB hC
  obtain ⟨x, hx, hz⟩ := Q2.out
  have HX := hid hx
  have HZ := hid hz
  have y1 : w2.cell? ⟨w.heap.size + 1, 0, none⟩ = some (.int .i64 x) := by rw [hx.cell 0]; rfl
  have z1 := hx.frozen 0
  clear hx hz
  go_wp2_with fail
  have f : Fr (oneb (w.heap.size + 1)) w2 (w2.setCell ⟨w.heap.size + 1, 0, none⟩ (.int .i64 x)) := (Fr.refl _ w2).setCell _ _ (fun _ => rfl)
  have hx2 := HX.out.setCell 0 (.int .i64 x)
  have y2 : (w2.setCell ⟨w.heap.size + 1, 0, none⟩ (.int .i64 x)).cell? ⟨w.heap.size + 1, 0, none⟩ = some (.int .i64 x) := by rw [hx2.cell 0]; rfl
  refine bodyPost_ret (results_cell_one rfl _ _ _ _ rfl (by kernel_rfl) y2) rfl ?_
  exact ⟨x, rfl, fun hp => ⟨(HZ.out.1 hp).1, S0.out.back (((HZ.out.1 hp).2.own HX.out (Or.inr rfl) (Nat.le_succ _) f).drop (fun k hk => Or.inl hk))⟩, fun hp => ⟨(HZ.out.2 hp).1, S0.out.back (((HZ.out.2 hp).2.own HX.out (Or.inr rfl) (Nat.le_succ _) f).drop (fun k hk => Or.inl hk))⟩⟩
end Go.Proofs.YtlbjicjinnnboaaGreatDoor
/- The program's own parser: expr; factor's closure. -/
namespace Go.Proofs.YtlbjicjinnnboaaGreatDoor
open Go.RowKit
set_option linter.unusedVariables false
set_option linter.unusedSimpArgs false
theorem QDoes.zero {src : ByteArray} {tb tc : Nat} {ts : List Tok} {g : Nat} (k : Task) (F : FuncId) (args : Array Value) : QDoes src tb tc ts g 0 k F args := by
  intro R w0 w s r N h hr hn
  simp [run] at hr
theorem qexpr_good {src : ByteArray} {tb tc : Nat} {ts : List Tok} {g n : Nat} (h : ∀ (lv : Nat) (z : Int), ((lv : Nat) : Int) = z → lv ≤ 5 → QDoes src tb tc ts g n (.chain lv) 186 #[.pointer (some ⟨g, 0, none⟩), .int .i64 z]) : QDoes src tb tc ts g n (.chain 0) 162 #[.pointer (some ⟨g, 0, none⟩)] := by
  intro R w0 w s r N h1 hr hn
  have HC := hid (h 0 0 rfl (by decide) R w0 w s r N h1 hr hn)
  generalize (if s.e = 0 then 10 * n else N.n + 2) = M at *
  clear h h1 hr hn
  go_enter Tryz.func162, Tryz.ntmps162
  go_wp2_with fail
  refine HC.out.mono ?_
  rintro e w1 ⟨x, rfl, hx, h1⟩
  have S1 := hid h1
  have HX := hid hx
  clear h1 hx
  go_wp2_with fail
  go_ret
  exact ⟨x, rfl, HX.out, S1.out⟩
theorem enters_factor1 : Enters Tryz.prog 223 := enters_of Tryz.func223 (by kernel_rfl) rfl
set_option maxHeartbeats 3200000 in
set_option maxRecDepth 100000 in
theorem factor1_any {src : ByteArray} {tb tc : Nat} {ts : List Tok} {g n : Nat} {N : Lim} {R : Nat → Prop} {w0 w : World} {s : PS} {r : List Nat × PS} (hG : QDoes src tb tc ts g n .factor 202 #[.pointer (some ⟨g, 0, none⟩)])
    (h : QS src tb tc ts g R w0 w s N) (h0 : s.e = 0) (hk : PSOk ts (pGo s)) (hr : run src.data.toList ts n .factor (pGo s) = some r) (hn : r.2.nodes.length + N.n + 10 * n + 10 ≤ 1000000) {b0 b1 : Nat} {v : Value}
    (hb0 : Blk w b0 78 #[.pointer (some ⟨g, 0, none⟩)]) (hb1 : Blk w b1 3 #[v]) (hR : R b1) (hnew : w0.heap.size ≤ b1) :
    Calls Tryz.prog 223 #[.pointer (some ⟨b0, 0, none⟩), .pointer (some ⟨b1, 0, none⟩)] w fun e w' => e = .returned (.tuple #[]) ∧ QS src tb tc ts g R w0 w' r.2 ⟨10 * n, N.d⟩ ∧
      (∃ x : Nat, Blk w' b1 3 #[.int .i64 x] ∧ (r.2.e = 0 → x = oneOf r.1)) := by
  have HT := hid (h.here.take h0 hk)
  have H := hid h
  have B0 := hid hb0
  have B1 := hid hb1
  have HG := hid hG
  have HR := hid hr
  have HN := hid hn
  have H0 := hid h0
  obtain ⟨cg, hcg⟩ := h.blkg
  have G := hid hcg
  have x0 : w.cell? ⟨b0, 0, none⟩ = some (.pointer (some ⟨g, 0, none⟩)) := by rw [hb0.cell 0]; rfl
  clear h hG hr hn hb0 hb1 hcg h0 hk
  go_enter Tryz.func223, Tryz.ntmps223
  go_wp2_with fail
  refine HT.out.mono ?_
  rintro e w2 ⟨rfl, h2⟩
  have H2 := hid h2
  have C1 := hid (h2.fr.blk B1.out (fun e => B1.out.ne G.out (by decide) e) (by decide))
  have C0 := hid (h2.fr.blk B0.out (fun e => B0.out.ne G.out (by decide) e) (by decide))
  clear h2 x0
  have x0 : w2.cell? ⟨b0, 0, none⟩ = some (.pointer (some ⟨g, 0, none⟩)) := by rw [C0.out.cell 0]; rfl
  have HF := HG.out R w2 w2 (pGo s) r N H2.out.here HR.out HN.out
  rw [if_pos (show (pGo s).e = 0 from H0.out)] at HF
  have HF := hid HF
  go_wp2_with fail
  refine HF.out.mono ?_
  rintro e w3 ⟨x, rfl, hx, h3⟩
  have H3 := hid h3
  have HX := hid hx
  have D1 := hid (h3.fr.blk C1.out (fun e => B1.out.ne G.out (by decide) e) (by decide))
  have y1 : w3.cell? ⟨b1, 0, none⟩ = some v := by rw [D1.out.cell 0]; rfl
  have z1 := D1.out.frozen 0
  clear h3 hx x0
  go_wp2_with fail
  have f : Fr (oneb b1) w3 (w3.setCell ⟨b1, 0, none⟩ (.int .i64 x)) := (Fr.refl _ w3).setCell _ _ (fun _ => rfl)
  refine bodyPost_end (results_none rfl _ _ _) rfl ⟨rfl, (H.out.back (H2.out.back H3.out)).own D1.out hR hnew f, ⟨x, D1.out.setCell 0 (.int .i64 x), HX.out⟩⟩
end Go.Proofs.YtlbjicjinnnboaaGreatDoor
/- The program's own parser: nodes with few below them. -/
namespace Go.Proofs.YtlbjicjinnnboaaGreatDoor
open Go.RowKit
set_option linter.unusedVariables false
set_option linter.unusedSimpArgs false
section
variable {src : ByteArray} {tb tc : Nat} {ts : List Tok} {g : Nat} {N : Lim} {R : Nat → Prop} {w0 w : World} {s : PS}
theorem QS.put0 (h : QS src tb tc ts g R w0 w s N) (k : Nat) {kv : Int} (hkv : ((k : Nat) : Int) = kv) (y line : Nat) (hy : s.e = 0 → y = line) {name : List UInt8} {X : ByteArray} (hX : bs name = X) {l : List Nat} (hl : s.e = 0 → l = []) (hn : s.nodes.length + N.n ≤ 1000000) :
    Calls Tryz.prog 126 #[.pointer (some ⟨g, 0, none⟩), .int .i64 kv, .int .i64 y, .string X, .slice none 0 0] w fun e w' => ∃ x : Nat, e = .returned (.int .i64 x) ∧ (s.e = 0 → x = s.nodes.length) ∧ QS src tb tc ts g R w0 w' (pPut k line 0 name l s).2 N :=
  h.put k hkv y line hy hX (fun h0 => by rw [hl h0]; exact Own.nil _ _ _) (fun k hk => by simp [blk] at hk) hn
theorem QS.put1 (h : QS src tb tc ts g R w0 w s N) (x : Nat) {B : Nat} (hB : w.heap.size = B) (k : Nat) {kv : Int} (hkv : ((k : Nat) : Int) = kv) (y line : Nat) (hy : s.e = 0 → y = line) {name : List UInt8} {X : ByteArray} (hX : bs name = X) {l : List Nat} (hl : s.e = 0 → l = [x]) (hn : s.nodes.length + N.n ≤ 1000000) :
    Calls Tryz.prog 126 #[.pointer (some ⟨g, 0, none⟩), .int .i64 kv, .int .i64 y, .string X, .slice (some ⟨B, 0, none⟩) 1 1] (w.alloc (.cells #[.int .i64 (x : Int)] 3)) fun e w' => ∃ x : Nat, e = .returned (.int .i64 x) ∧ (s.e = 0 → x = s.nodes.length) ∧ QS src tb tc ts g R w0 w' (pPut k line 0 name l s).2 N := by
  subst hB
  refine (h.alloc _).put k hkv y line hy hX (fun h0 => ?_) (fun k hk hR => ?_) hn
  · rw [hl h0]
    exact ⟨rfl, _, 1, rfl, .inr ⟨w.heap.size, _, rfl, by decide, Blk.new w _ _, Nat.le_refl _, by decide, rfl, rfl⟩⟩
  · have := h.res k hR
    have := blk_row hk
    omega
theorem QS.put2 (h : QS src tb tc ts g R w0 w s N) (x z : Nat) {B : Nat} (hB : w.heap.size = B) (k : Nat) {kv : Int} (hkv : ((k : Nat) : Int) = kv) (y line : Nat) (hy : s.e = 0 → y = line) {name : List UInt8} {X : ByteArray} (hX : bs name = X) {l : List Nat} (hl : s.e = 0 → l = [x, z]) (hn : s.nodes.length + N.n ≤ 1000000) :
    Calls Tryz.prog 126 #[.pointer (some ⟨g, 0, none⟩), .int .i64 kv, .int .i64 y, .string X, .slice (some ⟨B, 0, none⟩) 2 2] (w.alloc (.cells #[.int .i64 (x : Int), .int .i64 (z : Int)] 3)) fun e w' => ∃ x : Nat, e = .returned (.int .i64 x) ∧ (s.e = 0 → x = s.nodes.length) ∧ QS src tb tc ts g R w0 w' (pPut k line 0 name l s).2 N := by
  subst hB
  refine (h.alloc _).put k hkv y line hy hX (fun h0 => ?_) (fun k hk hR => ?_) hn
  · rw [hl h0]
    exact ⟨rfl, _, 2, rfl, .inr ⟨w.heap.size, _, rfl, by decide, Blk.new w _ _, Nat.le_refl _, by decide, rfl, rfl⟩⟩
  · have := h.res k hR
    have := blk_row hk
    omega
/-- Too deep: what the model says of it. -/
theorem factor_state {src' : List UInt8} {n : Nat} {k : Task} {op : List UInt8} {r : List Nat × PS} (hp : pIs ts op s = true) (hr : run src' ts n k (pGo (pDown ts s)) = some r) (hd : 16 ≤ s.deep) :
    (pUp r.2).e = (pFail ts 21 s).e ∧ (pFail ts 21 s).e ≠ 0 ∧ (pUp r.2).place = (pFail ts 21 s).place ∧ (pFail ts 21 s).nodes.length ≤ (pUp r.2).nodes.length := by
  have h0 := (pIs_kind hp).1
  have e1 : pDown ts s = { pFail ts 21 s with deep := s.deep + 1 } := by
    unfold pDown
    rw [if_pos hd]
    simp only [deep_fail]
  have f0 : (pFail ts 21 s).e ≠ 0 := by
    unfold pFail
    rw [if_pos h0]
    exact (by decide : (21 : Nat) ≠ 0)
  have d0 : (pDown ts s).e ≠ 0 := by rw [e1]; exact f0
  have x3 : Ext (pDown ts s) (pUp r.2) := ((Ext.refl (pDown ts s)).go.trans (run_ext _ _ _ _ hr)).up
  have x4 := x3.err d0
  obtain ⟨x, hx⟩ := x3.nodes
  rw [e1] at x4 hx
  exact ⟨x4.1, f0, x4.2, by rw [hx]; simp⟩
/-- Behind a sign: a factor, one deeper; what it is lies in a box. -/
theorem QS.signed {n : Nat} {op : List UInt8} {r : List Nat × PS} (hG : QDoes src tb tc ts g n .factor 202 #[.pointer (some ⟨g, 0, none⟩)])
    (h : QS src tb tc ts g R w0 w s N) (hp : pIs ts op s = true) (hr : run src.data.toList ts n .factor (pGo (pDown ts s)) = some r) (hn : r.2.nodes.length + N.n + 10 * n + 10 ≤ 1000000) {b0 b1 : Nat}
    (hb0 : Blk w b0 78 #[.pointer (some ⟨g, 0, none⟩)]) (hb1 : Blk w b1 3 #[.int .i64 0]) (hR : R b1) (hnew : w0.heap.size ≤ b1) :
    Calls Tryz.prog 159 #[.pointer (some ⟨g, 0, none⟩), .func (.func 223) #[] #[.pointer (some ⟨b0, 0, none⟩), .pointer (some ⟨b1, 0, none⟩)]] w fun e w' => e = .returned (.tuple #[]) ∧
      ∃ x : Nat, Blk w' b1 3 #[.int .i64 x] ∧ (r.2.e = 0 → x = oneOf r.1) ∧ QS src tb tc ts g R w0 w' (pUp r.2) ⟨10 * n, N.d⟩ := by
  have h0 := (pIs_kind hp).1
  obtain ⟨cg, hcg⟩ := h.blkg
  have n0 : b0 ≠ g := hb0.ne hcg (by decide)
  have n1 : b1 ≠ g := hb1.ne hcg (by decide)
  have hkr : PSOk ts (pUp r.2) := (run_ok h.toks _ _ _ _ hr (h.ok.goDown h.toks hp)).up
  refine ((h.zero h0 0).deeper h0 223 #[.pointer (some ⟨b0, 0, none⟩), .pointer (some ⟨b1, 0, none⟩)] (s2 := r.2) (n2 := 10 * n) (K := fun w' => ∃ x : Nat, Blk w' b1 3 #[.int .i64 x] ∧ (r.2.e = 0 → x = oneOf r.1))
    (fun hdn w1 hw1 hf => ?_) (fun w' w'' hf ⟨x, hx, hxx⟩ => ⟨x, hf.blk hx n1 (by decide), hxx⟩) enters_factor1 (fun _ => hkr)).mono ?_
  · refine (factor1_any hG hw1 h0 (by rw [← hdn]; exact h.ok.goDown h.toks hp) (by rw [← hdn]; exact hr) (by show r.2.nodes.length + 0 + 10 * n + 10 ≤ 1000000; omega) (hf.blk hb0 n0 (by decide)) (hf.blk hb1 n1 (by decide)) hR hnew).mono ?_
    rintro e w' ⟨he, hq, hx⟩
    refine ⟨he, hq, fun _ => ?_, hx⟩
    have := run_deep _ _ _ _ hr
    rw [deep_go, deep_down] at this
    exact this
  · rintro e w' ⟨he, hA, hB⟩
    refine ⟨he, ?_⟩
    by_cases hd : 16 ≤ s.deep
    · obtain ⟨hq, hf⟩ := hA hd
      obtain ⟨e1, e2, e3, e4⟩ := factor_state hp hr hd
      exact ⟨0, hf.blk hb1 n1 (by decide), fun e => absurd (show (pUp r.2).e = 0 from e) (by rw [e1]; exact e2), (hq.bad e2 e1 e3 e4 hkr).more (Nat.zero_le _)⟩
    · obtain ⟨hq, x, hx, hxx⟩ := hB (by omega)
      exact ⟨x, hx, hxx, hq⟩
end
end Go.Proofs.YtlbjicjinnnboaaGreatDoor
/- The program's own parser: factor. Printed by wip/tools/mkqfactor.py. -/
namespace Go.Proofs.YtlbjicjinnnboaaGreatDoor
open Go.RowKit
set_option linter.unusedVariables false
set_option linter.unusedSimpArgs false
theorem pIs_other {ts : List Tok} {s : PS} {x y : List UInt8} (h : pIs ts x s = true) (hxy : x ≠ y) : pIs ts y s = false := by
  cases hh : pIs ts y s with
  | false => rfl
  | true => exact absurd ((pIs_kind h).2.2.symm.trans (pIs_kind hh).2.2) hxy
structure QStep (src : ByteArray) (tb tc : Nat) (ts : List Tok) (g n : Nat) : Prop where
  factor : QDoes src tb tc ts g n .factor 202 #[.pointer (some ⟨g, 0, none⟩)]
  atom : QDoes src tb tc ts g n .atom 222 #[.pointer (some ⟨g, 0, none⟩)]
set_option maxHeartbeats 3200000 in
set_option maxRecDepth 100000 in
theorem qfactor_good {src : ByteArray} {tb tc : Nat} {ts : List Tok} {g n : Nat} (ih : QStep src tb tc ts g n) : QDoes src tb tc ts g (n + 1) .factor 202 #[.pointer (some ⟨g, 0, none⟩)] := by
  intro R w0 w s r N h hr hn
  have IH := hid ih
  have S0 := hid h
  obtain ⟨cg, hcg⟩ := h.blkg
  have hgl : g < w.heap.size := hcg.lt
  have GL := hid hgl
  have A0 := hid (show Fr nob w (w.alloc (.cells #[.pointer (some ⟨g, 0, none⟩)] 78)) from (Fr.refl nob w).alloc _)
  have B0 := hid (Blk.new w 78 #[.pointer (some ⟨g, 0, none⟩)])
  have hsz1 : (w.alloc (.cells #[.pointer (some ⟨g, 0, none⟩)] 78)).heap.size = w.heap.size + 1 := by simp
  obtain ⟨W1, hW1⟩ : ∃ W1, W1 = w.alloc (.cells #[.pointer (some ⟨g, 0, none⟩)] 78) := ⟨_, rfl⟩
  rw [← hW1] at A0 B0 hsz1
  have S1 := hid (S0.out.no A0.out).here
  have x0 : W1.cell? ⟨w.heap.size, 0, none⟩ = some (.pointer (some ⟨g, 0, none⟩)) := by rw [B0.out.cell 0]; rfl
  have HW := hid hW1
  have HS1 := hid hsz1
  simp only [run] at hr
  by_cases hp : pIs ts [45] s = true
  · rw [if_pos hp] at hr
    have HB33 := hid (pIs_other (y := [33]) hp (by decide))
    have HB45 := hid hp
    simp only [Option.map_eq_some_iff] at hr
    obtain ⟨q, hq, rfl⟩ := hr
    have HQ1 := hid (run_one _ _ _ _ hq trivial)
    have HR := hid hq
    have HP := hid hp
    have H0 := hid (pIs_kind hp).1
    rw [if_pos H0.out]
    have hn2 : q.2.nodes.length + 1 + N.n + 10 * (n + 1) + 10 ≤ 1000000 := by simpa [pPut, pUp] using hn
    have HN1 := hid (show q.2.nodes.length + N.n + 10 * n + 10 ≤ 1000000 by omega)
    have HN2 := hid (show (pUp q.2).nodes.length + 10 * n ≤ 1000000 by show q.2.nodes.length + 10 * n ≤ 1000000; omega)
    have HE := hid (show (pUp q.2).e = 0 → s.e = 0 from fun _ => H0.out)
    clear h hq hn hn2 hcg hgl hsz1 hW1 hp
    go_enter Tryz.func202, Tryz.ntmps202
    go_wp2_with fail
    rw [← HW.out]
    refine S1.out.line.mono ?_
    rintro e w2 ⟨y, rfl, hy, h2⟩
    have S2 := hid h2
    have HY := hid hy
    have B2 := hid (S2.out.fr.blk B0.out (fun e => by have := GL.out; omega) (by decide))
    have L2 := hid S2.out.fr.size
    clear h2 hy x0
    have x0 : w2.cell? ⟨w.heap.size, 0, none⟩ = some (.pointer (some ⟨g, 0, none⟩)) := by rw [B2.out.cell 0]; rfl
    have A3 := hid (show Fr nob w2 (w2.alloc (.cells #[.string ⟨#[33]⟩] 9)) from (Fr.refl nob w2).alloc _)
    have HI := hid ((S2.out.no A3.out).is1 ⟨#[33]⟩ (Blk.new w2 _ _) (z := false) HB33.out)
    have z0 : (w2.alloc (.cells #[.string ⟨#[33]⟩] 9)).cell? ⟨w.heap.size, 0, none⟩ = some (.pointer (some ⟨g, 0, none⟩)) := by rw [(B2.out.alloc _).cell 0]; rfl
    go_wp2_with fail
    refine HI.out.mono ?_
    rintro e w3 ⟨rfl, h3⟩
    have A3' := hid (A3.out.tr h3)
    have S3 := hid (S2.out.no A3'.out)
    have B3 := hid (B2.out.fr A3'.out (fun x => x))
    have L3 := hid A3'.out.size
    clear h3 x0 z0
    have x0 : w3.cell? ⟨w.heap.size, 0, none⟩ = some (.pointer (some ⟨g, 0, none⟩)) := by rw [B3.out.cell 0]; rfl
    have A4 := hid (show Fr nob w3 (w3.alloc (.cells #[.string ⟨#[45]⟩] 9)) from (Fr.refl nob w3).alloc _)
    have HJ := hid ((S3.out.no A4.out).is1 ⟨#[45]⟩ (Blk.new w3 _ _) (z := true) HB45.out)
    have z0 : (w3.alloc (.cells #[.string ⟨#[45]⟩] 9)).cell? ⟨w.heap.size, 0, none⟩ = some (.pointer (some ⟨g, 0, none⟩)) := by rw [(B3.out.alloc _).cell 0]; rfl
    go_wp2_with fail
    refine HJ.out.mono ?_
    rintro e w4 ⟨rfl, h4⟩
    have A4' := hid (A4.out.tr h4)
    have S4 := hid (S3.out.no A4'.out)
    have B4 := hid (B3.out.fr A4'.out (fun x => x))
    have L4 := hid A4'.out.size
    clear h4 x0 z0
    have x0 : w4.cell? ⟨w.heap.size, 0, none⟩ = some (.pointer (some ⟨g, 0, none⟩)) := by rw [B4.out.cell 0]; rfl
    have HG4 := hid (show g < w4.heap.size by have := GL.out; have := L2.out; have := L3.out; have := L4.out; have := HS1.out; omega)
    have HL4 := hid (show W1.heap.size ≤ w4.heap.size by have := L2.out; have := L3.out; have := L4.out; omega)
    have S5 := hid (S4.out.box (.cells #[.int .i64 0] 3))
    have C5 := hid (Blk.new w4 3 #[.int .i64 0])
    have B5 := hid (B4.out.alloc (.cells #[.int .i64 0] 3))
    have HD := hid (S5.out.signed IH.out.factor HP.out HR.out HN1.out B5.out C5.out (Or.inr rfl) HL4.out)
    have x5 : (w4.alloc (.cells #[.int .i64 0] 3)).cell? ⟨w.heap.size, 0, none⟩ = some (.pointer (some ⟨g, 0, none⟩)) := by rw [B5.out.cell 0]; rfl
    have hmf : ∀ (fn : Fn) (first cap : Array Value) (w : World), (Instr.makeFunc fn first cap).run Tryz.prog w = .ok (.func fn first cap) w := fun _ _ _ _ => rfl
    go_wp2_with fail
    refine HD.out.mono ?_
    rintro e w6 ⟨rfl, x, hx, hxx, h6⟩
    have S6 := hid h6
    have C6 := hid hx
    have HXX := hid hxx
    have B6 := hid (S6.out.fr.blk B0.out (fun e => by have := GL.out; omega) (by decide))
    clear hx hxx h6 x0 x5
    have x0 : w6.cell? ⟨w.heap.size, 0, none⟩ = some (.pointer (some ⟨g, 0, none⟩)) := by rw [B6.out.cell 0]; rfl
    have y0 : w6.cell? ⟨w4.heap.size, 0, none⟩ = some (.int .i64 x) := by rw [C6.out.cell 0]; rfl
    have HPT := hid (S6.out.drop (fun k hk => Or.inl hk) |>.put1 (R := R) x rfl 7 rfl y (pLine src.data.toList ts s) (fun e => HY.out (HE.out e)) (name := []) rfl (l := q.1) (fun e => by rw [HQ1.out, HXX.out e]) HN2.out)
    go_wp2_with fail
    refine HPT.out.mono ?_
    rintro e w7 ⟨x7, rfl, hx7, h7⟩
    have S7 := hid h7
    have HX7 := hid hx7
    clear h7 hx7
    go_wp2_with fail
    go_ret
    refine ⟨x7, rfl, fun e => ?_, (S0.out.no A0.out).back (S7.out.more (by show 10 * n ≤ 10 * (n + 1); omega))⟩
    rw [HX7.out e]; rfl
  · have HB45 := hid (show pIs ts [45] s = false by simpa using hp)
    rw [if_neg hp] at hr
    clear hp
    by_cases hp : pIs ts [33] s = true
    · rw [if_pos hp] at hr
      have HB33 := hid hp
      simp only [Option.map_eq_some_iff] at hr
      obtain ⟨q, hq, rfl⟩ := hr
      have HQ1 := hid (run_one _ _ _ _ hq trivial)
      have HR := hid hq
      have HP := hid hp
      have H0 := hid (pIs_kind hp).1
      rw [if_pos H0.out]
      have hn2 : q.2.nodes.length + 1 + N.n + 10 * (n + 1) + 10 ≤ 1000000 := by simpa [pPut, pUp] using hn
      have HN1 := hid (show q.2.nodes.length + N.n + 10 * n + 10 ≤ 1000000 by omega)
      have HN2 := hid (show (pUp q.2).nodes.length + 10 * n ≤ 1000000 by show q.2.nodes.length + 10 * n ≤ 1000000; omega)
      have HE := hid (show (pUp q.2).e = 0 → s.e = 0 from fun _ => H0.out)
      clear h hq hn hn2 hcg hgl hsz1 hW1 hp
      go_enter Tryz.func202, Tryz.ntmps202
      go_wp2_with fail
      rw [← HW.out]
      refine S1.out.line.mono ?_
      rintro e w2 ⟨y, rfl, hy, h2⟩
      have S2 := hid h2
      have HY := hid hy
      have B2 := hid (S2.out.fr.blk B0.out (fun e => by have := GL.out; omega) (by decide))
      have L2 := hid S2.out.fr.size
      clear h2 hy x0
      have x0 : w2.cell? ⟨w.heap.size, 0, none⟩ = some (.pointer (some ⟨g, 0, none⟩)) := by rw [B2.out.cell 0]; rfl
      have A3 := hid (show Fr nob w2 (w2.alloc (.cells #[.string ⟨#[33]⟩] 9)) from (Fr.refl nob w2).alloc _)
      have HI := hid ((S2.out.no A3.out).is1 ⟨#[33]⟩ (Blk.new w2 _ _) (z := true) HB33.out)
      have z0 : (w2.alloc (.cells #[.string ⟨#[33]⟩] 9)).cell? ⟨w.heap.size, 0, none⟩ = some (.pointer (some ⟨g, 0, none⟩)) := by rw [(B2.out.alloc _).cell 0]; rfl
      go_wp2_with fail
      refine HI.out.mono ?_
      rintro e w3 ⟨rfl, h3⟩
      have A3' := hid (A3.out.tr h3)
      have S3 := hid (S2.out.no A3'.out)
      have B3 := hid (B2.out.fr A3'.out (fun x => x))
      have L3 := hid A3'.out.size
      clear h3 x0 z0
      have x0 : w3.cell? ⟨w.heap.size, 0, none⟩ = some (.pointer (some ⟨g, 0, none⟩)) := by rw [B3.out.cell 0]; rfl
      have S4 := hid S3.out
      have B4 := hid B3.out
      have L4 := hid (Nat.le_refl w3.heap.size)
      generalize hw34 : w3 = w4 at *
      have HG4 := hid (show g < w4.heap.size by have := GL.out; have := L2.out; have := L3.out; have := L4.out; have := HS1.out; omega)
      have HL4 := hid (show W1.heap.size ≤ w4.heap.size by have := L2.out; have := L3.out; have := L4.out; omega)
      have S5 := hid (S4.out.box (.cells #[.int .i64 0] 3))
      have C5 := hid (Blk.new w4 3 #[.int .i64 0])
      have B5 := hid (B4.out.alloc (.cells #[.int .i64 0] 3))
      have HD := hid (S5.out.signed IH.out.factor HP.out HR.out HN1.out B5.out C5.out (Or.inr rfl) HL4.out)
      have x5 : (w4.alloc (.cells #[.int .i64 0] 3)).cell? ⟨w.heap.size, 0, none⟩ = some (.pointer (some ⟨g, 0, none⟩)) := by rw [B5.out.cell 0]; rfl
      have hmf : ∀ (fn : Fn) (first cap : Array Value) (w : World), (Instr.makeFunc fn first cap).run Tryz.prog w = .ok (.func fn first cap) w := fun _ _ _ _ => rfl
      go_wp2_with fail
      refine HD.out.mono ?_
      rintro e w6 ⟨rfl, x, hx, hxx, h6⟩
      have S6 := hid h6
      have C6 := hid hx
      have HXX := hid hxx
      have B6 := hid (S6.out.fr.blk B0.out (fun e => by have := GL.out; omega) (by decide))
      clear hx hxx h6 x0 x5
      have x0 : w6.cell? ⟨w.heap.size, 0, none⟩ = some (.pointer (some ⟨g, 0, none⟩)) := by rw [B6.out.cell 0]; rfl
      have y0 : w6.cell? ⟨w4.heap.size, 0, none⟩ = some (.int .i64 x) := by rw [C6.out.cell 0]; rfl
      have HPT := hid (S6.out.drop (fun k hk => Or.inl hk) |>.put1 (R := R) x rfl 8 rfl y (pLine src.data.toList ts s) (fun e => HY.out (HE.out e)) (name := []) rfl (l := q.1) (fun e => by rw [HQ1.out, HXX.out e]) HN2.out)
      go_wp2_with fail
      refine HPT.out.mono ?_
      rintro e w7 ⟨x7, rfl, hx7, h7⟩
      have S7 := hid h7
      have HX7 := hid hx7
      clear h7 hx7
      go_wp2_with fail
      go_ret
      refine ⟨x7, rfl, fun e => ?_, (S0.out.no A0.out).back (S7.out.more (by show 10 * n ≤ 10 * (n + 1); omega))⟩
      rw [HX7.out e]; rfl
    · rw [if_neg hp] at hr
      have HB33 := hid (show pIs ts [33] s = false by simpa using hp)
      obtain ⟨M', hM'⟩ : ∃ M', M' = (if s.e = 0 then 10 * (n + 1) else N.n + 2) := ⟨_, rfl⟩
      rw [← hM']
      have HM' := hid hM'
      clear hM'
      have hn3 : r.2.nodes.length + N.n + 10 * n + 10 ≤ 1000000 := by omega
      have HR := hid hr
      have HN := hid hn3
      clear h hr hn hn3 hcg hgl hsz1 hW1 hp
      go_enter Tryz.func202, Tryz.ntmps202
      go_wp2_with fail
      rw [← HW.out]
      refine S1.out.line.mono ?_
      rintro e w2 ⟨y, rfl, hy, h2⟩
      have S2 := hid h2
      have HY := hid hy
      have B2 := hid (S2.out.fr.blk B0.out (fun e => by have := GL.out; omega) (by decide))
      have L2 := hid S2.out.fr.size
      clear h2 hy x0
      have x0 : w2.cell? ⟨w.heap.size, 0, none⟩ = some (.pointer (some ⟨g, 0, none⟩)) := by rw [B2.out.cell 0]; rfl
      have A3 := hid (show Fr nob w2 (w2.alloc (.cells #[.string ⟨#[33]⟩] 9)) from (Fr.refl nob w2).alloc _)
      have HI := hid ((S2.out.no A3.out).is1 ⟨#[33]⟩ (Blk.new w2 _ _) (z := false) HB33.out)
      have z0 : (w2.alloc (.cells #[.string ⟨#[33]⟩] 9)).cell? ⟨w.heap.size, 0, none⟩ = some (.pointer (some ⟨g, 0, none⟩)) := by rw [(B2.out.alloc _).cell 0]; rfl
      go_wp2_with fail
      refine HI.out.mono ?_
      rintro e w3 ⟨rfl, h3⟩
      have A3' := hid (A3.out.tr h3)
      have S3 := hid (S2.out.no A3'.out)
      have B3 := hid (B2.out.fr A3'.out (fun x => x))
      have L3 := hid A3'.out.size
      clear h3 x0 z0
      have x0 : w3.cell? ⟨w.heap.size, 0, none⟩ = some (.pointer (some ⟨g, 0, none⟩)) := by rw [B3.out.cell 0]; rfl
      have A4 := hid (show Fr nob w3 (w3.alloc (.cells #[.string ⟨#[45]⟩] 9)) from (Fr.refl nob w3).alloc _)
      have HJ := hid ((S3.out.no A4.out).is1 ⟨#[45]⟩ (Blk.new w3 _ _) (z := false) HB45.out)
      have z0 : (w3.alloc (.cells #[.string ⟨#[45]⟩] 9)).cell? ⟨w.heap.size, 0, none⟩ = some (.pointer (some ⟨g, 0, none⟩)) := by rw [(B3.out.alloc _).cell 0]; rfl
      go_wp2_with fail
      refine HJ.out.mono ?_
      rintro e w4 ⟨rfl, h4⟩
      have A4' := hid (A4.out.tr h4)
      have S4 := hid (S3.out.no A4'.out)
      have B4 := hid (B3.out.fr A4'.out (fun x => x))
      have L4 := hid A4'.out.size
      clear h4 x0 z0
      have x0 : w4.cell? ⟨w.heap.size, 0, none⟩ = some (.pointer (some ⟨g, 0, none⟩)) := by rw [B4.out.cell 0]; rfl
      have HA := IH.out.atom R w4 w4 s r N S4.out.here HR.out HN.out
      obtain ⟨M, hM⟩ : ∃ M, M = (if s.e = 0 then 10 * n else N.n + 2) := ⟨_, rfl⟩
      rw [← hM] at HA
      have HA := hid HA
      have HM := hid (show M ≤ M' by rw [hM, HM'.out]; split <;> omega)
      clear hM
      go_wp2_with fail
      refine HA.out.mono ?_
      rintro e w5 ⟨x, rfl, hx, h5⟩
      have S5 := hid h5
      have HX := hid hx
      clear h5 hx
      go_wp2_with fail
      go_ret
      exact ⟨x, rfl, HX.out, (S0.out.no A0.out).back (S4.out.back (S5.out.more HM.out))⟩
end Go.Proofs.YtlbjicjinnnboaaGreatDoor
