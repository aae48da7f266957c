/- MD: PSt, PGood, PRight, PNamed, PStmt, PChain, PCall. -/
import Derived.Test.YtlbjicjinnnboaaDoorMC
set_option linter.unusedVariables false
set_option linter.unusedSimpArgs false
/- The parser's functions: what is borne along a walk. -/
namespace Go.Proofs.YtlbjicjinnnboaaDoor
open Go.RowKit
structure St (src : ByteArray) (tb tc : Nat) (ts : List Tok) (g : Nat) (R : Nat → Prop) (w0 w : World) (s : PS) : Prop where
 rdr : ∃ lvs, Rdr src tb tc ts g lvs w s ∧ ∀ v ∈ lvs, ∀ k, blk v = some k → ¬ R k
 res : ∀ k, R k → k < w.heap.size
 ok : PSOk ts s
 toks : ToksOk ts
 long : src.size ≤ 281474976710656
 fr : FrR g w0 w
def RV (R : Nat → Prop) (v : Value) : Nat → Prop := fun k => R k ∨ blk v = some k
section
variable {src : ByteArray} {tb tc : Nat} {ts : List Tok} {g : Nat} {R : Nat → Prop} {w0 w w1 w' : World} {s : PS}
theorem St.no (h : St src tb tc ts g R w0 w s) (f : Fr nob w w') : St src tb tc ts g R w0 w' s := by
 obtain ⟨lvs, hr, hn⟩ := h.rdr
 exact ⟨⟨lvs, hr.no f, hn⟩, fun k hk => Nat.lt_of_lt_of_le (h.res k hk) f.size, h.ok, h.toks, h.long, h.fr.trans (FrR.no f)⟩
theorem St.here (h : St src tb tc ts g R w0 w s) : St src tb tc ts g R w w s := ⟨h.rdr, h.res, h.ok, h.toks, h.long, Fr.refl _ _⟩
theorem St.back (h : St src tb tc ts g R w0 w s) {s' : PS} (h' : St src tb tc ts g R w w' s') : St src tb tc ts g R w0 w' s' := ⟨h'.rdr, h'.res, h'.ok, h'.toks, h'.long, h.fr.trans h'.fr⟩
theorem St.set (h : St src tb tc ts g R w0 w s) (j : Nat) (u : Value) {s' : PS} (hr : ∀ lvs, Rdr src tb tc ts g lvs w s → Rdr src tb tc ts g lvs (w.setCell ⟨g, j, none⟩ u) s') (hk : PSOk ts s') : St src tb tc ts g R w0 (w.setCell ⟨g, j, none⟩ u) s' := by
 obtain ⟨lvs, hr0, hn⟩ := h.rdr
 exact ⟨⟨lvs, hr lvs hr0, hn⟩, fun k hk => by simpa using h.res k hk, hk, h.toks, h.long, h.fr.trans (((Fr.refl (oneb g) w).setCell ⟨g, j, none⟩ _ (fun _ => rfl)).mono (fun k _ e => .inl e))⟩
theorem St.go (h : St src tb tc ts g R w0 w s) (hk : PSOk ts (pGo s)) : St src tb tc ts g R w0 (w.setCell ⟨g, 2, none⟩ (.int .i64 ((s.i : Int) + 1))) (pGo s) :=
 h.set 2 _ (fun lvs hr => hr.setI (s.i + 1)) hk
theorem St.up (h : St src tb tc ts g R w0 w s) (hd : 1 ≤ s.deep) : St src tb tc ts g R w0 (w.setCell ⟨g, 4, none⟩ (.int .i64 ((s.deep : Int) - 1))) (pUp s) := by
 refine h.set 4 _ (fun lvs hr => ?_) h.ok.up
 have := hr.setD (s.deep - 1)
 rw [show (((s.deep - 1 : Nat)) : Int) = (s.deep : Int) - 1 by omega] at this
 exact this
theorem St.cells (h : St src tb tc ts g R w0 w s) : g < w.heap.size ∧ w.cell? ⟨g, 1, none⟩ = some (.slice (some ⟨tb, 0, none⟩) ts.length tc) ∧ w.cell? ⟨g, 2, none⟩ = some (.int .i64 s.i) ∧ w.cell? ⟨g, 4, none⟩ = some (.int .i64 s.deep) ∧ w.cell? ⟨g, 5, none⟩ = some (.int .i64 s.e) ∧ w.frozen? ⟨g, 2, none⟩ = false ∧ w.frozen? ⟨g, 4, none⟩ = false := by
 obtain ⟨lvs, hr, hnr⟩ := h.rdr
 obtain ⟨nv, hb⟩ := hr.blk
 have c1 := hb.cell 1
 have c2 := hb.cell 2
 have c4 := hb.cell 4
 have c5 := hb.cell 5
 simp at c1 c2 c4 c5
 exact ⟨hb.lt, c1, c2, c4, c5, hb.frozen 2, hb.frozen 4⟩
theorem St.tok (h : St src tb tc ts g R w0 w s) : (s.i : Int) < (ts.length : Int) ∧ w.cell? ⟨tb, s.i * 3, none⟩ = some (.int .i64 (pTok ts s).kind) ∧ w.cell? ⟨tb, s.i * 3 + 1, none⟩ = some (.string (bs (pTok ts s).text)) ∧ w.cell? ⟨tb, s.i * 3 + 2, none⟩ = some (.int .i64 (pTok ts s).place) := by
 obtain ⟨lvs, hr, hnr⟩ := h.rdr
 obtain ⟨_, _, x⟩ := hr.tok h.ok
 exact ⟨by have := h.ok.room; omega, x⟩
theorem St.i_le (h : St src tb tc ts g R w0 w s) : (s.i : Int) ≤ 1000 := h.toks.i_le h.ok
theorem St.line (h : St src tb tc ts g R w0 w s) {n : Nat} (hn : pLine src.data.toList ts s = n) :
  Calls Tryd.prog 25 #[.pointer (some ⟨g, 0, none⟩)] w fun e w' => e = .returned (.int .i64 n) ∧ St src tb tc ts g R w0 w' s := by
 obtain ⟨lvs, hr, hnr⟩ := h.rdr
 subst hn
 exact (pline_any hr h.ok h.long).mono fun e w' ⟨he, hf⟩ => ⟨he, h.no hf⟩
theorem St.is (h : St src tb tc ts g R w0 w s) (X : ByteArray) {b : Bool} (hb : pIs ts X.data.toList s = b) :
  Calls Tryd.prog 28 #[.pointer (some ⟨g, 0, none⟩), .string X] w fun e w' => e = .returned (.bool b) ∧ St src tb tc ts g R w0 w' s := by
 obtain ⟨lvs, hr, hnr⟩ := h.rdr
 subst hb
 exact (is_any hr h.ok X).mono fun e w' ⟨he, hf⟩ => ⟨he, h.no hf⟩
theorem St.kind (h : St src tb tc ts g R w0 w s) (k : Nat) {b : Bool} (hb : pKind ts k s = b) :
  Calls Tryd.prog 16 #[.pointer (some ⟨g, 0, none⟩), .int .i64 k] w fun e w' => e = .returned (.bool b) ∧ St src tb tc ts g R w0 w' s := by
 obtain ⟨lvs, hr, hnr⟩ := h.rdr
 subst hb
 exact (kind_any hr h.ok k).mono fun e w' ⟨he, hf⟩ => ⟨he, h.no hf⟩
theorem St.calls (h : St src tb tc ts g R w0 w s) {b : Bool} (hb : pCalls ts s = b) :
  Calls Tryd.prog 63 #[.pointer (some ⟨g, 0, none⟩)] w fun e w' => e = .returned (.bool b) ∧ St src tb tc ts g R w0 w' s := by
 obtain ⟨lvs, hr, hnr⟩ := h.rdr
 subst hb
 exact (calls_any hr h.ok h.toks).mono fun e w' ⟨he, hf⟩ => ⟨he, h.no hf⟩
theorem St.word (h : St src tb tc ts g R w0 w s) {x : ByteArray} (hx : bs (pWord ts s) = x) :
  Calls Tryd.prog 44 #[.pointer (some ⟨g, 0, none⟩)] w fun e w' => e = .returned (.string x) ∧ St src tb tc ts g R w0 w' s := by
 obtain ⟨lvs, hr, hnr⟩ := h.rdr
 subst hx
 exact (rword2_any hr h.ok).mono fun e w' ⟨he, hf⟩ => ⟨he, h.no hf⟩
theorem St.next (h : St src tb tc ts g R w0 w s) (lv : Nat) (hlv : lv ≤ 4) {x : ByteArray} (hx : bs (pNext ts lv s) = x) :
  Calls Tryd.prog 68 #[.pointer (some ⟨g, 0, none⟩), .int .i64 lv] w fun e w' => e = .returned (.string x) ∧ St src tb tc ts g R w0 w' s := by
 obtain ⟨lvs, hr, hnr⟩ := h.rdr
 subst hx
 exact (next_any hr h.ok lv hlv).mono fun e w' ⟨he, hf⟩ => ⟨he, h.no hf⟩
theorem St.fails (h : St src tb tc ts g R w0 w s) (k : Nat) (hk : k ≤ 21) (hk0 : 1 ≤ k) :
  Calls Tryd.prog 43 #[.pointer (some ⟨g, 0, none⟩), .int .i64 k] w fun e w' => e = .returned (.tuple #[]) ∧ St src tb tc ts g R w0 w' (pFail ts k s) := by
 obtain ⟨lvs, hr, hnr⟩ := h.rdr
 exact (fails_any hr h.ok k).mono fun e w' ⟨he, hr2, hf⟩ => ⟨he, ⟨lvs, hr2, hnr⟩, fun k hk => Nat.lt_of_lt_of_le (h.res k hk) hf.size, h.ok.fail h.toks k hk hk0, h.toks, h.long, h.fr.trans hf⟩
theorem St.must (h : St src tb tc ts g R w0 w s) (X : ByteArray) :
  Calls Tryd.prog 26 #[.pointer (some ⟨g, 0, none⟩), .string X] w fun e w' => e = .returned (.tuple #[]) ∧ St src tb tc ts g R w0 w' (pMust ts X.data.toList s) := by
 obtain ⟨lvs, hr, hnr⟩ := h.rdr
 exact (must_any hr h.ok h.toks X).mono fun e w' ⟨he, hr2, hf⟩ => ⟨he, ⟨lvs, hr2, hnr⟩, fun k hk => Nat.lt_of_lt_of_le (h.res k hk) hf.size, h.ok.must h.toks _, h.toks, h.long, h.fr.trans hf⟩
theorem St.name (h : St src tb tc ts g R w0 w s) {x : ByteArray} (hx : bs (pName ts s) = x) :
  Calls Tryd.prog 27 #[.pointer (some ⟨g, 0, none⟩)] w fun e w' => e = .returned (.string x) ∧ St src tb tc ts g R w0 w' (pNamed ts s) := by
 obtain ⟨lvs, hr, hnr⟩ := h.rdr
 subst hx
 exact (name_any hr h.ok h.toks).mono fun e w' ⟨he, hr2, hf⟩ => ⟨he, ⟨lvs, hr2, hnr⟩, fun k hk => Nat.lt_of_lt_of_le (h.res k hk) hf.size, h.ok.named h.toks, h.toks, h.long, h.fr.trans hf⟩
theorem St.typed (h : St src tb tc ts g R w0 w s) {n : Nat} (hn : pType ts s = n) :
  Calls Tryd.prog 29 #[.pointer (some ⟨g, 0, none⟩)] w fun e w' => e = .returned (.int .i64 n) ∧ St src tb tc ts g R w0 w' (pTyped ts s) := by
 obtain ⟨lvs, hr, hnr⟩ := h.rdr
 subst hn
 exact (typed_any hr h.ok h.toks).mono fun e w' ⟨he, hr2, hf⟩ => ⟨he, ⟨lvs, hr2, hnr⟩, fun k hk => Nat.lt_of_lt_of_le (h.res k hk) hf.size, h.ok.typed h.toks, h.toks, h.long, h.fr.trans hf⟩
theorem St.down (h : St src tb tc ts g R w0 w s) (h0 : s.e = 0) :
  Calls Tryd.prog 46 #[.pointer (some ⟨g, 0, none⟩)] w fun e w' => e = .returned (.tuple #[]) ∧ St src tb tc ts g R w0 w' (pDown ts s) := by
 obtain ⟨lvs, hr, hnr⟩ := h.rdr
 exact (down_any hr h.ok).mono fun e w' ⟨he, hr2, hf⟩ => ⟨he, ⟨lvs, hr2, hnr⟩, fun k hk => Nat.lt_of_lt_of_le (h.res k hk) hf.size, h.ok.down h.toks h0, h.toks, h.long, h.fr.trans hf⟩
theorem St.put (h : St src tb tc ts g R w0 w s) (k line n : Nat) {kv nv : Int} (hkv : ((k : Nat) : Int) = kv) (hnv : ((n : Nat) : Int) = nv) {name : List UInt8} {X : ByteArray} (hX : bs name = X) {lv : Value} {l : List Nat} (hl : Own w 3 1 lv l.length (ints l)) (hlr : ∀ k, blk lv = some k → ¬ R k) (hn : s.nodes.length ≤ 1000000) :
   Calls Tryd.prog 48 #[.pointer (some ⟨g, 0, none⟩), .int .i64 kv, .int .i64 line, .int .i64 nv, .string X, lv] w fun e w' => e = .returned (.int .i64 s.nodes.length) ∧ St src tb tc ts g R w0 w' (pPut k line n name l s).2 := by
 obtain ⟨lvs, hr, hnr⟩ := h.rdr
 subst hX; subst hkv; subst hnv
 refine (put_any hr k line n name lv l hl hn).mono fun e w' ⟨he, hr2, hf⟩ => ⟨he, ⟨_, hr2, fun v hv => ?_⟩, fun k hk => Nat.lt_of_lt_of_le (h.res k hk) hf.size, h.ok.put .., h.toks, h.long, h.fr.trans hf⟩
 rcases List.mem_append.1 hv with hv | hv
 · exact hnr v hv
 · rw [List.mem_singleton.1 hv]; exact hlr
theorem St.alloc (h : St src tb tc ts g R w0 w s) (o : Obj) : St src tb tc ts g R w0 (w.alloc o) s := h.no ((Fr.refl nob w).alloc o)
theorem St.put0 (h : St src tb tc ts g R w0 w s) (k line n : Nat) {kv nv : Int} (hkv : ((k : Nat) : Int) = kv) (hnv : ((n : Nat) : Int) = nv) {name : List UInt8} {X : ByteArray} (hX : bs name = X) (hn : s.nodes.length ≤ 1000000) :
  Calls Tryd.prog 48 #[.pointer (some ⟨g, 0, none⟩), .int .i64 kv, .int .i64 line, .int .i64 nv, .string X, .slice none 0 0] w fun e w' => e = .returned (.int .i64 s.nodes.length) ∧ St src tb tc ts g R w0 w' (pPut k line n name [] s).2 :=
 h.put k line n hkv hnv hX (l := []) (Own.nil _ _ _) (fun k hk => by simp [blk] at hk) hn
theorem blk_row {B n c k : Nat} (h : blk (.slice (some ⟨B, 0, none⟩) n c) = some k) : k = B := by
 simp [blk] at h; omega
theorem St.put1 (h : St src tb tc ts g R w0 w s) (x : Nat) {B : Nat} (hB : w.heap.size = B) (k line n : Nat) {kv nv : Int} (hkv : ((k : Nat) : Int) = kv) (hnv : ((n : Nat) : Int) = nv) {name : List UInt8} {X : ByteArray} (hX : bs name = X) (hn : s.nodes.length ≤ 1000000) :
  Calls Tryd.prog 48 #[.pointer (some ⟨g, 0, none⟩), .int .i64 kv, .int .i64 line, .int .i64 nv, .string X, .slice (some ⟨B, 0, none⟩) 1 1] (w.alloc (.cells #[.int .i64 (x : Int)] 3)) fun e w' => e = .returned (.int .i64 s.nodes.length) ∧ St src tb tc ts g R w0 w' (pPut k line n name [x] s).2 := by
 subst hB
 refine (h.alloc _).put k line n hkv hnv hX (l := [x]) ⟨rfl, _, 1, rfl, .inr ⟨w.heap.size, _, rfl, by decide, Blk.new w _ _, Nat.le_refl _, by decide, rfl, rfl⟩⟩ (fun k hk hR => ?_) hn
 have := h.res k hR
 have := blk_row hk
 omega
theorem St.put2 (h : St src tb tc ts g R w0 w s) (x y : Nat) {B : Nat} (hB : w.heap.size = B) (k line n : Nat) {kv nv : Int} (hkv : ((k : Nat) : Int) = kv) (hnv : ((n : Nat) : Int) = nv) {name : List UInt8} {X : ByteArray} (hX : bs name = X) (hn : s.nodes.length ≤ 1000000) :
  Calls Tryd.prog 48 #[.pointer (some ⟨g, 0, none⟩), .int .i64 kv, .int .i64 line, .int .i64 nv, .string X, .slice (some ⟨B, 0, none⟩) 2 2] (w.alloc (.cells #[.int .i64 (x : Int), .int .i64 (y : Int)] 3)) fun e w' => e = .returned (.int .i64 s.nodes.length) ∧ St src tb tc ts g R w0 w' (pPut k line n name [x, y] s).2 := by
 subst hB
 refine (h.alloc _).put k line n hkv hnv hX (l := [x, y]) ⟨rfl, _, 2, rfl, .inr ⟨w.heap.size, _, rfl, by decide, Blk.new w _ _, Nat.le_refl _, by decide, rfl, rfl⟩⟩ (fun k hk hR => ?_) hn
 have := h.res k hR
 have := blk_row hk
 omega
theorem TyInts : SlTy Tryd.prog 27 3 1 8 (.int .i64 0) := SlTy.mk' (by kernel_rfl) (by kernel_rfl) rfl (by decide)
structure StR (src : ByteArray) (tb tc : Nat) (ts : List Tok) (g : Nat) (R : Nat → Prop) (w0 w : World) (s : PS) (v : Value) (l : List Nat) : Prop where
 st : St src tb tc ts g (RV R v) w0 w s
 own : Own w 3 1 v l.length (ints l)
 nr : ∀ k, blk v = some k → ¬ R k
 nw : ∀ k, blk v = some k → w0.heap.size ≤ k
variable {v : Value} {l : List Nat}
theorem StR.here (h : StR src tb tc ts g R w0 w s v l) : St src tb tc ts g (RV R v) w w s := h.st.here
theorem StR.step (h : StR src tb tc ts g R w0 w s v l) {f : FuncId} {args : Array Value} {E : Ending → Prop} {s' : PS} (c : Calls Tryd.prog f args w fun e w' => E e ∧ St src tb tc ts g (RV R v) w w' s') :
  Calls Tryd.prog f args w fun e w' => E e ∧ StR src tb tc ts g R w0 w' s' v l := by
 refine c.mono fun e w' ⟨he, h'⟩ => ⟨he, h.st.back h', ?_, h.nr, h.nw⟩
 obtain ⟨lvs, hr, _⟩ := h.st.rdr
 obtain ⟨nv, hb⟩ := hr.blk
 exact h.own.frR hb (by decide) (by decide) h'.fr
theorem StR.to (h : StR src tb tc ts g R w0 w s v l) {s' : PS} (h' : St src tb tc ts g (RV R v) w w' s') : StR src tb tc ts g R w0 w' s' v l := by
 refine ⟨h.st.back h', ?_, h.nr, h.nw⟩
 obtain ⟨lvs, hr, _⟩ := h.st.rdr
 obtain ⟨nv, hb⟩ := hr.blk
 exact h.own.frR hb (by decide) (by decide) h'.fr
theorem StR.go (h : StR src tb tc ts g R w0 w s v l) (hk : PSOk ts (pGo s)) : StR src tb tc ts g R w0 (w.setCell ⟨g, 2, none⟩ (.int .i64 ((s.i : Int) + 1))) (pGo s) v l := h.to (h.here.go hk)
theorem StR.up (h : StR src tb tc ts g R w0 w s v l) (hd : 1 ≤ s.deep) : StR src tb tc ts g R w0 (w.setCell ⟨g, 4, none⟩ (.int .i64 ((s.deep : Int) - 1))) (pUp s) v l := h.to (h.here.up hd)
theorem St.row0 (h : St src tb tc ts g R w0 w s) (o : Obj) (A : Option Addr) : StR src tb tc ts g R w0 (w.alloc o) s (.slice A 0 0) [] := by
 have hb : ∀ k, blk (.slice A 0 0) ≠ some k := fun k hk => by cases A <;> simp [blk] at hk
 obtain ⟨lvs, hr, hnr⟩ := (h.alloc o).rdr
 refine ⟨⟨⟨lvs, hr, fun v hv k hk hR => ?_⟩, fun k hk => ?_, h.ok, h.toks, h.long, (h.alloc o).fr⟩, Own.empty _ _ _ _, fun k hk => absurd hk (hb k), fun k hk => absurd hk (hb k)⟩
 · rcases hR with hR | hR
   · exact hnr v hv k hk hR
   · exact hb k hR
 · rcases hk with hR | hR
   · exact (h.alloc o).res k hR
   · exact absurd hR (hb k)
theorem rows_lt : ∀ {ns : List NodeM} {vs : List Value}, Below2 w ns vs → ∀ v ∈ vs, ∀ k, blk v = some k → k < w.heap.size
 | [], [], _, _, hv, _, _ => by cases hv
 | [], _ :: _, h, _, _, _, _ => h.elim
 | _ :: _, [], h, _, _, _, _ => h.elim
 | _ :: ns, u :: vs, h, v, hv, k, hk => by
  rcases List.mem_cons.1 hv with rfl | hv
  · exact h.1.blk_lt hk
  · exact rows_lt h.2 v hv k hk
theorem St.row (h : St src tb tc ts g R w0 w s) {o : Obj} {v : Value} {l : List Nat} (hv : ∀ k, blk v = some k → k = w.heap.size) (ho : Own (w.alloc o) 3 1 v l.length (ints l)) : StR src tb tc ts g R w0 (w.alloc o) s v l := by
 obtain ⟨lvs0, hr0, hnr0⟩ := h.rdr
 obtain ⟨lvs, hr, hnr⟩ : ∃ lvs, Rdr src tb tc ts g lvs (w.alloc o) s ∧ ∀ v ∈ lvs, ∀ k, blk v = some k → ¬ R k ∧ k < w.heap.size :=
   ⟨lvs0, hr0.no ((Fr.refl nob w).alloc o), fun v hv k hk => ⟨hnr0 v hv k hk, rows_lt hr0.below v hv k hk⟩⟩
 refine ⟨⟨⟨lvs, hr, fun u hu k hk hR => ?_⟩, fun k hk => ?_, h.ok, h.toks, h.long, (h.alloc o).fr⟩, ho, fun k hk hR => ?_, fun k hk => ?_⟩
 · rcases hR with hR | hR
   · exact (hnr u hu k hk).1 hR
   · have := hv k hR; have := (hnr u hu k hk).2; omega
 · rcases hk with hR | hR
   · exact (h.alloc o).res k hR
   · exact ho.blk_lt hR
 · have := hv k hk; have := h.res k hR; omega
 · have := hv k hk; have := h.fr.size; omega
theorem St.row2 (h : St src tb tc ts g R w0 w s) (x y : Nat) {B : Nat} (hB : w.heap.size = B) : StR src tb tc ts g R w0 (w.alloc (.cells #[.int .i64 (x : Int), .int .i64 (y : Int)] 3)) s (.slice (some ⟨B, 0, none⟩) 2 2) [x, y] := by
 subst hB
 exact h.row (fun k hk => blk_row hk) ⟨rfl, _, 2, rfl, .inr ⟨w.heap.size, _, rfl, by decide, Blk.new w _ _, Nat.le_refl _, by decide, rfl, rfl⟩⟩
theorem own_snoc {e : TypeId} {x : Nat} (h : Own w e 1 v (l.length + 1) (ints l ++ [.int .i64 (x : Nat)])) : Own w e 1 v (l ++ [x]).length (ints (l ++ [x])) := by
 rw [List.length_append]
 unfold ints at h ⊢
 rw [List.map_append]
 exact h
theorem StR.app (h : StR src tb tc ts g R w0 w s v l) {o : Obj} {v' : Value} {l' : List Nat} (ho : Own w' 3 1 v' l'.length (ints l')) (hf : Fr (obl (blk v)) (w.alloc o) w') (hv : blk v' = blk v ∨ blk v' = some (w.alloc o).heap.size) : StR src tb tc ts g R w0 w' s v' l' := by
 have h1 := h.st.alloc o
 obtain ⟨lvs, hr, hnr⟩ := h1.rdr
 have hlt := rows_lt hr.below
 obtain ⟨nv, hb, hon⟩ := hr.cells
 obtain ⟨b0, ht⟩ := hr.toks
 have hown := h.own.alloc o
 have hrn : ∀ u ∈ lvs, ∀ k, blk u = some k → ¬ obl (blk v) k := fun u hu k hk hm => hnr u hu k hk (.inr hm)
 have hg : ¬ obl (blk v) g := fun hm => hown.blk_ne hb (by decide) hm
 have hbel : ∀ {ns : List NodeM} {vs : List Value}, Below2 (w.alloc o) ns vs → (∀ u ∈ vs, ∀ k, blk u = some k → ¬ obl (blk v) k) → Below2 w' ns vs := by
   intro ns
   induction ns with
   | nil => intro vs hb hn; cases vs with
     | nil => trivial
     | cons _ _ => exact hb.elim
   | cons n ns ih => intro vs hb hn; cases vs with
     | nil => exact hb.elim
     | cons u vs => exact ⟨hb.1.fr hf (fun k hk => hn u List.mem_cons_self k hk), ih hb.2 (fun u2 hu2 => hn u2 (List.mem_cons_of_mem _ hu2))⟩
 have hs := hf.size
 have hR' : ∀ k, RV R v' k → k < w'.heap.size := fun k hk => by
   rcases hk with hk | hk
   · have := h1.res k (.inl hk); omega
   · exact ho.blk_lt hk
 have hfr : FrR g w0 w' := by
   refine Fr.trans h1.fr hf (fun _ _ x => x) (fun k hk hm => ?_)
   have := h.nw k hm
   omega
 refine ⟨⟨⟨lvs, ⟨⟨nv, hb.fr hf hg, hon.fr hf (fun k hk hm => ?_)⟩, hbel hr.below hrn, hr.same, ⟨b0, ht.own.fr hf (fun k hk hm => ?_), ht.new⟩, fun nv2 h1 => hr.newer nv2 (by rw [← hf.cell (p := ⟨g, 3, none⟩) hb.lt hg]; exact h1)⟩, fun u hu k hk hm => ?_⟩, hR', h.st.ok, h.st.toks, h.st.long, hfr⟩, ho, fun k hk => ?_, fun k hk => ?_⟩
 · exact hon.blk_ne' hown (by decide) hm hk
 · exact ht.own.blk_ne' hown (by decide) hm hk
 · rcases hm with hm | hm
   · exact hnr u hu k hk (.inl hm)
   · rcases hv with e | e
     · exact hnr u hu k hk (.inr (by rw [← e]; exact hm))
     · have := hlt u hu k hk
       rw [e] at hm; injection hm with hm; omega
 · rcases hv with e | e
   · rw [e] at hk; exact h.nr k hk
   · rw [e] at hk; injection hk with hk
     intro hR
     have := h1.res k (.inl hR); omega
 · rcases hv with e | e
   · rw [e] at hk; exact h.nw k hk
   · rw [e] at hk; injection hk with hk
     have := h1.fr.size; omega
theorem StR.put (h : StR src tb tc ts g R w0 w s v l) (k line n : Nat) {kv nv : Int} (hkv : ((k : Nat) : Int) = kv) (hnv : ((n : Nat) : Int) = nv) {name : List UInt8} {X : ByteArray} (hX : bs name = X) (hn : s.nodes.length ≤ 1000000) :
  Calls Tryd.prog 48 #[.pointer (some ⟨g, 0, none⟩), .int .i64 kv, .int .i64 line, .int .i64 nv, .string X, v] w fun e w' => e = .returned (.int .i64 s.nodes.length) ∧ St src tb tc ts g R w0 w' (pPut k line n name l s).2 := by
 have h1 : St src tb tc ts g R w0 w s := by
  obtain ⟨lvs, hr, hnr⟩ := h.st.rdr
  exact ⟨⟨lvs, hr, fun u hu k hk hR => hnr u hu k hk (.inl hR)⟩, fun k hk => h.st.res k (.inl hk), h.st.ok, h.st.toks, h.st.long, h.st.fr⟩
 exact h1.put k line n hkv hnv hX h.own h.nr hn
end
section
variable {src : List UInt8} {ts : List Tok} {s : PS}
theorem deep_fail (k : Nat) (s : PS) : (pFail ts k s).deep = s.deep := by unfold pFail; split <;> rfl
theorem deep_must (x : List UInt8) (s : PS) : (pMust ts x s).deep = s.deep := by
 unfold pMust; split
 · rfl
 · exact deep_fail 20 s
theorem deep_named (s : PS) : (pNamed ts s).deep = s.deep := by
 unfold pNamed; split
 · rfl
 · exact deep_fail 20 s
theorem deep_down (s : PS) : (pDown ts s).deep = s.deep + 1 := by
 unfold pDown; simp only; split
 · rw [deep_fail]
 · rfl
theorem deep_go (s : PS) : (pGo s).deep = s.deep := rfl
theorem deep_up (s : PS) : (pUp s).deep = s.deep - 1 := rfl
theorem deep_put (k line n : Nat) (name : List UInt8) (l : List Nat) (s : PS) : (pPut k line n name l s).2.deep = s.deep := rfl
theorem run_deep : ∀ (n : Nat) (k : Task) (s : PS) (r : List Nat × PS), run src ts n k s = some r → r.2.deep = s.deep := by
 intro n
 induction n with
 | zero => intro k s r h; simp [run] at h
 | succ n ih =>
  intro k s r h
  cases k <;> simp only [run] at h <;>
   (repeat' split at h) <;>
   (try simp only [Option.map_eq_some_iff, Option.bind_eq_some_iff, Option.some.injEq] at h) <;>
   (try (obtain ⟨q1, h1, h⟩ := h)) <;>
   (repeat' split at h) <;>
   (try simp only [Option.map_eq_some_iff, Option.bind_eq_some_iff, Option.some.injEq] at h) <;>
   (try (obtain ⟨q2, h2, h⟩ := h)) <;>
   (repeat' split at h) <;>
   (try simp only [Option.map_eq_some_iff, Option.bind_eq_some_iff, Option.some.injEq] at h) <;>
   (try (obtain ⟨q3, h3, h⟩ := h)) <;>
   (try subst h) <;>
   (try subst h1) <;>
   (try replace h1 := ih _ _ _ h1) <;>
   (try replace h2 := ih _ _ _ h2) <;>
   (try replace h3 := ih _ _ _ h3) <;>
   (try replace h := ih _ _ _ h) <;>
   (try simp only [deep_fail, deep_must, deep_named, deep_down, deep_go, deep_up, deep_put] at h1) <;>
   (try simp only [deep_fail, deep_must, deep_named, deep_down, deep_go, deep_up, deep_put] at h2) <;>
   (try simp only [deep_fail, deep_must, deep_named, deep_down, deep_go, deep_up, deep_put] at h3) <;>
   (try simp only [deep_fail, deep_must, deep_named, deep_down, deep_go, deep_up, deep_put] at h) <;>
   (try simp only [deep_fail, deep_must, deep_named, deep_down, deep_go, deep_up, deep_put]) <;>
   (try omega)
def kOne : Task → Prop
 | .args _ => False | .stmts _ => False | _ => True
def oneOf (l : List Nat) : Nat := l.headD 0
theorem run_one : ∀ (n : Nat) (k : Task) (s : PS) (r : List Nat × PS), run src ts n k s = some r → kOne k → r.1 = [oneOf r.1] := by
 intro n
 induction n with
 | zero => intro k s r h; simp [run] at h
 | succ n ih =>
  intro k s r h ho
  cases k <;> simp only [kOne] at ho <;> simp only [run] at h <;>
   (repeat' split at h) <;>
   (try simp only [Option.map_eq_some_iff, Option.bind_eq_some_iff, Option.some.injEq] at h) <;>
   (try (obtain ⟨q1, h1, h⟩ := h)) <;>
   (repeat' split at h) <;>
   (try simp only [Option.map_eq_some_iff, Option.bind_eq_some_iff, Option.some.injEq] at h) <;>
   (try (obtain ⟨q2, h2, h⟩ := h)) <;>
   (repeat' split at h) <;>
   (try simp only [Option.map_eq_some_iff, Option.bind_eq_some_iff, Option.some.injEq] at h) <;>
   (try (obtain ⟨q3, h3, h⟩ := h)) <;>
   (try subst h) <;>
   (first | rfl | exact ih _ _ _ h trivial | (have h5 := ih _ _ _ h1 trivial; exact h5))
theorem nodes_le {s t : PS} (h : Ext s t) : s.nodes.length ≤ t.nodes.length := by
 obtain ⟨x, hx⟩ := h.nodes
 rw [hx, List.length_append]; omega
end
section
variable (src : ByteArray) (tb tc : Nat) (ts : List Tok) (g : Nat)
def Does (n : Nat) (k : Task) (F : FuncId) (args : Array Value) : Prop :=
 ∀ (R : Nat → Prop) (w0 w : World) (s : PS) (r : List Nat × PS), St src tb tc ts g R w0 w s → run src.data.toList ts n k s = some r → r.2.nodes.length ≤ 1000000 →
  Calls Tryd.prog F args w fun e w' => e = .returned (.int .i64 (oneOf r.1)) ∧ St src tb tc ts g R w0 w' r.2
structure Good (n : Nat) : Prop where
 atom : Does src tb tc ts g n .atom 71 #[.pointer (some ⟨g, 0, none⟩)]
 factor : Does src tb tc ts g n .factor 67 #[.pointer (some ⟨g, 0, none⟩)]
 chain : ∀ (lv : Nat) (z : Int), ((lv : Nat) : Int) = z → lv ≤ 5 → Does src tb tc ts g n (.chain lv) 65 #[.pointer (some ⟨g, 0, none⟩), .int .i64 z]
 expr : Does src tb tc ts g n (.chain 0) 55 #[.pointer (some ⟨g, 0, none⟩)]
 call : Does src tb tc ts g n .call 64 #[.pointer (some ⟨g, 0, none⟩)]
 right : Does src tb tc ts g n .right 54 #[.pointer (some ⟨g, 0, none⟩)]
 block : Does src tb tc ts g n .block 30 #[.pointer (some ⟨g, 0, none⟩)]
 named : ∀ line : Nat, Does src tb tc ts g n (.named line) 56 #[.pointer (some ⟨g, 0, none⟩), .int .i64 line]
 stmt : Does src tb tc ts g n .stmt 47 #[.pointer (some ⟨g, 0, none⟩)]
end
section
variable {src : ByteArray} {tb tc : Nat} {ts : List Tok} {g : Nat} {n : Nat}
theorem Does.zero (k : Task) (F : FuncId) (args : Array Value) : Does src tb tc ts g 0 k F args := by
 intro R w0 w s r h hr hn
 simp [run] at hr
theorem expr_good (h : ∀ (lv : Nat) (z : Int), ((lv : Nat) : Int) = z → lv ≤ 5 → Does src tb tc ts g n (.chain lv) 65 #[.pointer (some ⟨g, 0, none⟩), .int .i64 z]) : Does src tb tc ts g n (.chain 0) 55 #[.pointer (some ⟨g, 0, none⟩)] := by
 intro R w0 w s r h1 hr hn
 have HC := hid (h 0 0 rfl (by decide) R w0 w s r h1 hr hn)
 clear h h1 hr hn
 go_enter Tryd.func55, Tryd.ntmps55
 go_wp2_with fail
 refine HC.out.mono ?_
 rintro e w1 ⟨rfl, h1⟩
 have S1 := hid h1
 clear h1
 go_wp2_with fail
 go_ret
 exact ⟨rfl, S1.out⟩
set_option maxHeartbeats 1600000 in
set_option maxRecDepth 100000 in
theorem factor_good (ih : ∀ m, m < n → Good src tb tc ts g m) : Does src tb tc ts g n .factor 67 #[.pointer (some ⟨g, 0, none⟩)] := by
 cases n with
 | zero => exact Does.zero _ _ _
 | succ n =>
  intro R w0 w s r h hr hn
  have IH := hid (ih n (Nat.lt_succ_self n))
  have S0 := hid h
  simp only [run] at hr
  by_cases hm : pIs ts [45] s = true
  · rw [if_pos hm] at hr
    simp only [Option.map_eq_some_iff] at hr
    obtain ⟨q, hq, rfl⟩ := hr
    have hd := run_deep _ _ _ _ hq
    rw [show (pGo (pDown ts s)).deep = s.deep + 1 from deep_down s] at hd
    have hdl := h.ok.fine (pIs_kind hm).1
    have HDB := hid (show (1 : Int) ≤ (q.2.deep : Int) ∧ (q.2.deep : Int) ≤ 20 by omega)
    have HD := hid (show 1 ≤ q.2.deep by omega)
    have hq1 := run_one _ _ _ _ hq trivial
    have hn2 : q.2.nodes.length + 1 ≤ 1000000 := by simpa [pPut, pUp] using hn
    have HN := hid (show q.2.nodes.length ≤ 1000000 by omega)
    have HQ := hid hq
    have HM := hid hm
    have HO := hid (h.ok.goDown h.toks hm)
    have H0 := hid (pIs_kind hm).1
    rw [hq1]
    obtain ⟨b, hb⟩ : ∃ b, pIs ts [33] s = b := ⟨_, rfl⟩
    have HB := hid hb
    clear hb
    clear h ih hn hd hdl hn2 hq hm hq1
    go_enter Tryd.func67, Tryd.ntmps67
    go_wp2_with fail
    refine (S0.out.line rfl).mono ?_
    rintro e w1 ⟨rfl, h1⟩
    have S1 := hid h1
    clear h1
    go_wp2_with fail
    refine (S1.out.is ⟨#[45]⟩ (b := true) HM.out).mono ?_
    rintro e w2 ⟨rfl, h2⟩
    have S2 := hid h2
    clear h2
    go_wp2_with fail
    refine (S2.out.is ⟨#[33]⟩ (b := b) HB.out).mono ?_
    rintro e w3 ⟨rfl, h3⟩
    have S3 := hid h3
    clear h3
    go_wp2_with fail
    refine (S3.out.down H0.out).mono ?_
    rintro e w4 ⟨rfl, h4⟩
    have S4 := hid h4
    clear h4
    obtain ⟨hg4, c14, c24, c44, c54, f24, f44⟩ := S4.out.cells
    have hi4 := S4.out.i_le
    go_wp2_with fail
    have HZ5 := hid (show (w4.setCell ⟨g, 2, none⟩ (.int .i64 (((pDown ts (s)).i : Int) + 1))).heap.size = w4.heap.size by simp)
    have S5 := hid (S4.out.go HO.out)
    clear hg4 c14 c24 c44 c54 f24 f44 hi4
    generalize w4.setCell ⟨g, 2, none⟩ (.int .i64 (((pDown ts (s)).i : Int) + 1)) = w5 at *
    refine (IH.out.factor _ _ _ _ _ S5.out HQ.out HN.out).mono ?_
    rintro e w6 ⟨rfl, h6⟩
    have S6 := hid h6
    clear h6
    obtain ⟨hg6, c16, c26, c46, c56, f26, f46⟩ := S6.out.cells
    have hi6 := S6.out.i_le
    obtain ⟨hl6, hu6⟩ := HDB.out
    go_wp2_with fail
    have HZ7 := hid (show (w6.setCell ⟨g, 4, none⟩ (.int .i64 (((q.2).deep : Int) - 1))).heap.size = w6.heap.size by simp)
    have S7 := hid (S6.out.up HD.out)
    clear hg6 c16 c26 c46 c56 f26 f46 hi6 hl6 hu6
    generalize w6.setCell ⟨g, 4, none⟩ (.int .i64 (((q.2).deep : Int) - 1)) = w7 at *
    refine (S7.out.put1 (oneOf q.1) HZ7.out 7 _ 0 rfl rfl (name := []) rfl HN.out).mono ?_
    rintro e w8 ⟨rfl, h8⟩
    have S8 := hid h8
    clear h8
    go_wp2_with fail
    go_ret
    exact ⟨rfl, S8.out⟩
  · rw [if_neg hm] at hr
    have hb : pIs ts [45] s = false := by simpa using hm
    clear hm
    by_cases hm : pIs ts [33] s = true
    · rw [if_pos hm] at hr
      simp only [Option.map_eq_some_iff] at hr
      obtain ⟨q, hq, rfl⟩ := hr
      have hd := run_deep _ _ _ _ hq
      rw [show (pGo (pDown ts s)).deep = s.deep + 1 from deep_down s] at hd
      have hdl := h.ok.fine (pIs_kind hm).1
      have HDB := hid (show (1 : Int) ≤ (q.2.deep : Int) ∧ (q.2.deep : Int) ≤ 20 by omega)
      have HD := hid (show 1 ≤ q.2.deep by omega)
      have hq1 := run_one _ _ _ _ hq trivial
      have hn2 : q.2.nodes.length + 1 ≤ 1000000 := by simpa [pPut, pUp] using hn
      have HN := hid (show q.2.nodes.length ≤ 1000000 by omega)
      have HQ := hid hq
      have HM := hid hm
      have HO := hid (h.ok.goDown h.toks hm)
      have H0 := hid (pIs_kind hm).1
      rw [hq1]
      have HB := hid hb
      clear hb
      clear h ih hn hd hdl hn2 hq hm hq1
      go_enter Tryd.func67, Tryd.ntmps67
      go_wp2_with fail
      refine (S0.out.line rfl).mono ?_
      rintro e w1 ⟨rfl, h1⟩
      have S1 := hid h1
      clear h1
      go_wp2_with fail
      refine (S1.out.is ⟨#[45]⟩ (b := false) HB.out).mono ?_
      rintro e w2 ⟨rfl, h2⟩
      have S2 := hid h2
      clear h2
      go_wp2_with fail
      refine (S2.out.is ⟨#[33]⟩ (b := true) HM.out).mono ?_
      rintro e w3 ⟨rfl, h3⟩
      have S3 := hid h3
      clear h3
      go_wp2_with fail
      refine (S3.out.down H0.out).mono ?_
      rintro e w4 ⟨rfl, h4⟩
      have S4 := hid h4
      clear h4
      obtain ⟨hg4, c14, c24, c44, c54, f24, f44⟩ := S4.out.cells
      have hi4 := S4.out.i_le
      go_wp2_with fail
      have HZ5 := hid (show (w4.setCell ⟨g, 2, none⟩ (.int .i64 (((pDown ts (s)).i : Int) + 1))).heap.size = w4.heap.size by simp)
      have S5 := hid (S4.out.go HO.out)
      clear hg4 c14 c24 c44 c54 f24 f44 hi4
      generalize w4.setCell ⟨g, 2, none⟩ (.int .i64 (((pDown ts (s)).i : Int) + 1)) = w5 at *
      refine (IH.out.factor _ _ _ _ _ S5.out HQ.out HN.out).mono ?_
      rintro e w6 ⟨rfl, h6⟩
      have S6 := hid h6
      clear h6
      obtain ⟨hg6, c16, c26, c46, c56, f26, f46⟩ := S6.out.cells
      have hi6 := S6.out.i_le
      obtain ⟨hl6, hu6⟩ := HDB.out
      go_wp2_with fail
      have HZ7 := hid (show (w6.setCell ⟨g, 4, none⟩ (.int .i64 (((q.2).deep : Int) - 1))).heap.size = w6.heap.size by simp)
      have S7 := hid (S6.out.up HD.out)
      clear hg6 c16 c26 c46 c56 f26 f46 hi6 hl6 hu6
      generalize w6.setCell ⟨g, 4, none⟩ (.int .i64 (((q.2).deep : Int) - 1)) = w7 at *
      refine (S7.out.put1 (oneOf q.1) HZ7.out 8 _ 0 rfl rfl (name := []) rfl HN.out).mono ?_
      rintro e w8 ⟨rfl, h8⟩
      have S8 := hid h8
      clear h8
      go_wp2_with fail
      go_ret
      exact ⟨rfl, S8.out⟩
    · rw [if_neg hm] at hr
      have HB := hid hb
      have HB2 := hid (show pIs ts [33] s = false by simpa using hm)
      have HQ := hid hr
      have HN := hid hn
      clear h ih hn hm hb hr
      go_enter Tryd.func67, Tryd.ntmps67
      go_wp2_with fail
      refine (S0.out.line rfl).mono ?_
      rintro e w1 ⟨rfl, h1⟩
      have S1 := hid h1
      clear h1
      go_wp2_with fail
      refine (S1.out.is ⟨#[45]⟩ (b := false) HB.out).mono ?_
      rintro e w2 ⟨rfl, h2⟩
      have S2 := hid h2
      clear h2
      go_wp2_with fail
      refine (S2.out.is ⟨#[33]⟩ (b := false) HB2.out).mono ?_
      rintro e w3 ⟨rfl, h3⟩
      have S3 := hid h3
      clear h3
      go_wp2_with fail
      refine (IH.out.atom _ _ _ _ _ S3.out HQ.out HN.out).mono ?_
      rintro e w4 ⟨rfl, h4⟩
      have S4 := hid h4
      clear h4
      go_wp2_with fail
      go_ret
      exact ⟨rfl, S4.out⟩
end
section
variable {src : ByteArray} {tb tc : Nat} {ts : List Tok} {g : Nat} {n : Nat}
set_option maxHeartbeats 1600000 in
set_option maxRecDepth 100000 in
theorem right_good (ih : ∀ m, m < n → Good src tb tc ts g m) : Does src tb tc ts g n .right 54 #[.pointer (some ⟨g, 0, none⟩)] := by
 cases n with
 | zero => exact Does.zero _ _ _
 | succ n =>
  intro R w0 w s r h hr hn
  have IH := hid (ih n (Nat.lt_succ_self n))
  have S0 := hid h
  simp only [run] at hr
  by_cases hm : pIs ts [105, 110, 112, 117, 116] s = true
  · rw [if_pos hm] at hr
    simp only [Option.some.injEq] at hr
    subst hr
    have hn2 : s.nodes.length + 1 ≤ 1000000 := by simpa [pPut, pGo] using hn
    have HN := hid (show s.nodes.length ≤ 1000000 by omega)
    have HM := hid hm
    have HO := hid (h.ok.goIs h.toks hm)
    clear h ih hn hn2 hm
    go_enter Tryd.func54, Tryd.ntmps54
    go_wp2_with fail
    refine (S0.out.line rfl).mono ?_
    rintro e w1 ⟨rfl, h1⟩
    have S1 := hid h1
    clear h1
    go_wp2_with fail
    refine (S1.out.is ⟨#[105, 110, 112, 117, 116]⟩ (b := true) HM.out).mono ?_
    rintro e w2 ⟨rfl, h2⟩
    have S2 := hid h2
    clear h2
    obtain ⟨hg2, c12, c22, c42, c52, f22, f42⟩ := S2.out.cells
    have hi2 := S2.out.i_le
    go_wp2_with fail
    have HZ3 := hid (show (w2.setCell ⟨g, 2, none⟩ (.int .i64 (((s).i : Int) + 1))).heap.size = w2.heap.size by simp)
    have S3 := hid (S2.out.go HO.out)
    clear hg2 c12 c22 c42 c52 f22 f42 hi2
    generalize w2.setCell ⟨g, 2, none⟩ (.int .i64 (((s).i : Int) + 1)) = w3 at *
    refine (S3.out.put0 19 _ 0 rfl rfl (name := []) rfl HN.out).mono ?_
    rintro e w4 ⟨rfl, h4⟩
    have S4 := hid h4
    clear h4
    go_wp2_with fail
    go_ret
    exact ⟨rfl, S4.out⟩
  · rw [if_neg hm] at hr
    have HA := hid (show pIs ts [105, 110, 112, 117, 116] s = false by simpa using hm)
    clear hm
    by_cases hm : pIs ts [110, 101, 119] s = true
    · rw [if_pos hm] at hr
      simp only [Option.map_eq_some_iff] at hr
      obtain ⟨q, hq, rfl⟩ := hr
      have hq1 := run_one _ _ _ _ hq trivial
      have hn2 : (pMust ts [41] q.2).nodes.length + 1 ≤ 1000000 := by simpa [pPut] using hn
      have HN := hid (show (pMust ts [41] q.2).nodes.length ≤ 1000000 by omega)
      have HN1 := hid (Nat.le_trans (nodes_le ((Ext.refl q.2).must (ts := ts) [41])) HN.out)
      have HM := hid hm
      have HO := hid (h.ok.goIs h.toks hm)
      have HQ := hid hq
      rw [hq1]
      clear h ih hn hn2 hm hq hq1
      go_enter Tryd.func54, Tryd.ntmps54
      go_wp2_with fail
      refine (S0.out.line rfl).mono ?_
      rintro e w1 ⟨rfl, h1⟩
      have S1 := hid h1
      clear h1
      go_wp2_with fail
      refine (S1.out.is ⟨#[105, 110, 112, 117, 116]⟩ (b := false) HA.out).mono ?_
      rintro e w2 ⟨rfl, h2⟩
      have S2 := hid h2
      clear h2
      go_wp2_with fail
      refine (S2.out.is ⟨#[110, 101, 119]⟩ (b := true) HM.out).mono ?_
      rintro e w3 ⟨rfl, h3⟩
      have S3 := hid h3
      clear h3
      obtain ⟨hg3, c13, c23, c43, c53, f23, f43⟩ := S3.out.cells
      have hi3 := S3.out.i_le
      go_wp2_with fail
      have HZ4 := hid (show (w3.setCell ⟨g, 2, none⟩ (.int .i64 (((s).i : Int) + 1))).heap.size = w3.heap.size by simp)
      have S4 := hid (S3.out.go HO.out)
      clear hg3 c13 c23 c43 c53 f23 f43 hi3
      generalize w3.setCell ⟨g, 2, none⟩ (.int .i64 (((s).i : Int) + 1)) = w4 at *
      refine (S4.out.must ⟨#[40]⟩).mono ?_
      rintro e w5 ⟨rfl, h5⟩
      have S5 := hid h5
      clear h5
      go_wp2_with fail
      refine (IH.out.expr _ _ _ _ _ S5.out HQ.out HN1.out).mono ?_
      rintro e w6 ⟨rfl, h6⟩
      have S6 := hid h6
      clear h6
      go_wp2_with fail
      refine (S6.out.must ⟨#[41]⟩).mono ?_
      rintro e w7 ⟨rfl, h7⟩
      have S7 := hid h7
      clear h7
      go_wp2_with fail
      refine (S7.out.put1 (oneOf q.1) rfl 20 _ 0 rfl rfl (name := []) rfl HN.out).mono ?_
      rintro e w8 ⟨rfl, h8⟩
      have S8 := hid h8
      clear h8
      go_wp2_with fail
      go_ret
      exact ⟨rfl, S8.out⟩
    · rw [if_neg hm] at hr
      have HB := hid (show pIs ts [110, 101, 119] s = false by simpa using hm)
      clear hm
      have HN := hid hn
      by_cases hm : pCalls ts s = true
      · rw [if_pos hm] at hr
        have HM := hid hm
        have HQ := hid hr
        clear h ih hn hm hr
        go_enter Tryd.func54, Tryd.ntmps54
        go_wp2_with fail
        refine (S0.out.line rfl).mono ?_
        rintro e w1 ⟨rfl, h1⟩
        have S1 := hid h1
        clear h1
        go_wp2_with fail
        refine (S1.out.is ⟨#[105, 110, 112, 117, 116]⟩ (b := false) HA.out).mono ?_
        rintro e w2 ⟨rfl, h2⟩
        have S2 := hid h2
        clear h2
        go_wp2_with fail
        refine (S2.out.is ⟨#[110, 101, 119]⟩ (b := false) HB.out).mono ?_
        rintro e w3 ⟨rfl, h3⟩
        have S3 := hid h3
        clear h3
        go_wp2_with fail
        refine (S3.out.calls (b := true) HM.out).mono ?_
        rintro e w4 ⟨rfl, h4⟩
        have S4 := hid h4
        clear h4
        go_wp2_with fail
        refine (IH.out.call _ _ _ _ _ S4.out HQ.out HN.out).mono ?_
        rintro e w5 ⟨rfl, h5⟩
        have S5 := hid h5
        clear h5
        go_wp2_with fail
        go_ret
        exact ⟨rfl, S5.out⟩
      · rw [if_neg hm] at hr
        have HM := hid (show pCalls ts s = false by simpa using hm)
        have HQ := hid hr
        clear h ih hn hm hr
        go_enter Tryd.func54, Tryd.ntmps54
        go_wp2_with fail
        refine (S0.out.line rfl).mono ?_
        rintro e w1 ⟨rfl, h1⟩
        have S1 := hid h1
        clear h1
        go_wp2_with fail
        refine (S1.out.is ⟨#[105, 110, 112, 117, 116]⟩ (b := false) HA.out).mono ?_
        rintro e w2 ⟨rfl, h2⟩
        have S2 := hid h2
        clear h2
        go_wp2_with fail
        refine (S2.out.is ⟨#[110, 101, 119]⟩ (b := false) HB.out).mono ?_
        rintro e w3 ⟨rfl, h3⟩
        have S3 := hid h3
        clear h3
        go_wp2_with fail
        refine (S3.out.calls (b := false) HM.out).mono ?_
        rintro e w4 ⟨rfl, h4⟩
        have S4 := hid h4
        clear h4
        go_wp2_with fail
        refine (IH.out.expr _ _ _ _ _ S4.out HQ.out HN.out).mono ?_
        rintro e w5 ⟨rfl, h5⟩
        have S5 := hid h5
        clear h5
        go_wp2_with fail
        go_ret
        exact ⟨rfl, S5.out⟩
end
section
variable {src : ByteArray} {tb tc : Nat} {ts : List Tok} {g : Nat} {n : Nat}
set_option maxHeartbeats 1600000 in
set_option maxRecDepth 100000 in
theorem named_good (ih : ∀ m, m < n → Good src tb tc ts g m) (line : Nat) : Does src tb tc ts g n (.named line) 56 #[.pointer (some ⟨g, 0, none⟩), .int .i64 line] := by
 cases n with
 | zero => exact Does.zero _ _ _
 | succ n =>
  intro R w0 w s r h hr hn
  have IH := hid (ih n (Nat.lt_succ_self n))
  have S0 := hid h
  simp only [run] at hr
  by_cases hm : pCalls ts s = true
  · rw [if_pos hm] at hr
    simp only [Option.map_eq_some_iff] at hr
    obtain ⟨q, hq, rfl⟩ := hr
    have hq1 := run_one _ _ _ _ hq trivial
    have hn2 : (pMust ts [59] q.2).nodes.length + 1 ≤ 1000000 := by simpa [pPut] using hn
    have HN := hid (show (pMust ts [59] q.2).nodes.length ≤ 1000000 by omega)
    have HN1 := hid (Nat.le_trans (nodes_le ((Ext.refl q.2).must (ts := ts) [59])) HN.out)
    have HM := hid hm
    have HQ := hid hq
    rw [hq1]
    clear h ih hn hn2 hm hq hq1
    go_enter Tryd.func56, Tryd.ntmps56
    go_wp2_with fail
    refine (S0.out.calls (b := true) HM.out).mono ?_
    rintro e w1 ⟨rfl, h1⟩
    have S1 := hid h1
    clear h1
    go_wp2_with fail
    refine (IH.out.call _ _ _ _ _ S1.out HQ.out HN1.out).mono ?_
    rintro e w2 ⟨rfl, h2⟩
    have S2 := hid h2
    clear h2
    go_wp2_with fail
    refine (S2.out.must ⟨#[59]⟩).mono ?_
    rintro e w3 ⟨rfl, h3⟩
    have S3 := hid h3
    clear h3
    go_wp2_with fail
    refine (S3.out.put1 (oneOf q.1) rfl 13 _ 0 rfl rfl (name := []) rfl HN.out).mono ?_
    rintro e w4 ⟨rfl, h4⟩
    have S4 := hid h4
    clear h4
    go_wp2_with fail
    go_ret
    exact ⟨rfl, S4.out⟩
  · rw [if_neg hm] at hr
    have HM := hid (show pCalls ts s = false by simpa using hm)
    clear hm
    by_cases hm : pIs ts [91] (pNamed ts s) = true
    · rw [if_pos hm] at hr
      simp only [Option.map_eq_some_iff, Option.bind_eq_some_iff] at hr
      obtain ⟨q, hq, u, hu, rfl⟩ := hr
      have hq1 := run_one _ _ _ _ hq trivial
      have hu1 := run_one _ _ _ _ hu trivial
      have hd := run_deep _ _ _ _ hq
      rw [deep_must, deep_down, deep_named] at hd
      have hdl := (h.ok.named h.toks).fine (pIs_kind hm).1
      rw [deep_named] at hdl
      have HDB := hid (show (1 : Int) ≤ ((pMust ts [93] q.2).deep : Int) ∧ ((pMust ts [93] q.2).deep : Int) ≤ 20 by rw [deep_must]; omega)
      have HD := hid (show 1 ≤ (pMust ts [93] q.2).deep by rw [deep_must]; omega)
      have hn2 : (pMust ts [59] u.2).nodes.length + 1 ≤ 1000000 := by simpa [pPut] using hn
      have HN := hid (show (pMust ts [59] u.2).nodes.length ≤ 1000000 by omega)
      have HN1 := hid (Nat.le_trans (nodes_le ((Ext.refl u.2).must (ts := ts) [59])) HN.out)
      have HN2 := hid (Nat.le_trans (nodes_le (((((Ext.refl q.2).must (ts := ts) [93]).up).must (ts := ts) [61]).trans (run_ext _ _ _ _ hu))) HN1.out)
      have HB := hid hm
      have H0 := hid (pIs_kind hm).1
      have HQ := hid hq
      have HU := hid hu
      rw [hq1, hu1]
      clear h ih hn hn2 hm hq hq1 hu hu1 hd hdl
      rw [show [oneOf q.1] ++ [oneOf u.1] = [oneOf q.1, oneOf u.1] from rfl]
      go_enter Tryd.func56, Tryd.ntmps56
      go_wp2_with fail
      refine (S0.out.calls (b := false) HM.out).mono ?_
      rintro e w1 ⟨rfl, h1⟩
      have S1 := hid h1
      clear h1
      go_wp2_with fail
      refine (S1.out.name rfl).mono ?_
      rintro e w2 ⟨rfl, h2⟩
      have S2 := hid h2
      clear h2
      go_wp2_with fail
      refine (S2.out.is ⟨#[91]⟩ (b := true) HB.out).mono ?_
      rintro e w3 ⟨rfl, h3⟩
      have S3 := hid h3
      clear h3
      go_wp2_with fail
      refine (S3.out.down H0.out).mono ?_
      rintro e w4 ⟨rfl, h4⟩
      have S4 := hid h4
      clear h4
      go_wp2_with fail
      refine (S4.out.must ⟨#[91]⟩).mono ?_
      rintro e w5 ⟨rfl, h5⟩
      have S5 := hid h5
      clear h5
      go_wp2_with fail
      refine (IH.out.expr _ _ _ _ _ S5.out HQ.out HN2.out).mono ?_
      rintro e w6 ⟨rfl, h6⟩
      have S6 := hid h6
      clear h6
      go_wp2_with fail
      refine (S6.out.must ⟨#[93]⟩).mono ?_
      rintro e w7 ⟨rfl, h7⟩
      have S7 := hid h7
      clear h7
      obtain ⟨hg7, c17, c27, c47, c57, f27, f47⟩ := S7.out.cells
      have hi7 := S7.out.i_le
      obtain ⟨hl7, hu7⟩ := HDB.out
      go_wp2_with fail
      have HZ8 := hid (show (w7.setCell ⟨g, 4, none⟩ (.int .i64 (((pMust ts [93] (q.2)).deep : Int) - 1))).heap.size = w7.heap.size by simp)
      have S8 := hid (S7.out.up HD.out)
      clear hg7 c17 c27 c47 c57 f27 f47 hi7 hl7 hu7
      generalize w7.setCell ⟨g, 4, none⟩ (.int .i64 (((pMust ts [93] (q.2)).deep : Int) - 1)) = w8 at *
      refine (S8.out.must ⟨#[61]⟩).mono ?_
      rintro e w9 ⟨rfl, h9⟩
      have S9 := hid h9
      clear h9
      go_wp2_with fail
      refine (IH.out.expr _ _ _ _ _ S9.out HU.out HN1.out).mono ?_
      rintro e w10 ⟨rfl, h10⟩
      have S10 := hid h10
      clear h10
      go_wp2_with fail
      refine (S10.out.must ⟨#[59]⟩).mono ?_
      rintro e w11 ⟨rfl, h11⟩
      have S11 := hid h11
      clear h11
      go_wp2_with fail
      refine (S11.out.put2 (oneOf q.1) (oneOf u.1) rfl 12 _ 0 rfl rfl (name := (pName ts s)) rfl HN.out).mono ?_
      rintro e w12 ⟨rfl, h12⟩
      have S12 := hid h12
      clear h12
      go_wp2_with fail
      go_ret
      exact ⟨rfl, S12.out⟩
    · rw [if_neg hm] at hr
      simp only [Option.map_eq_some_iff] at hr
      obtain ⟨q, hq, rfl⟩ := hr
      have hq1 := run_one _ _ _ _ hq trivial
      have hn2 : (pMust ts [59] q.2).nodes.length + 1 ≤ 1000000 := by simpa [pPut] using hn
      have HN := hid (show (pMust ts [59] q.2).nodes.length ≤ 1000000 by omega)
      have HN1 := hid (Nat.le_trans (nodes_le ((Ext.refl q.2).must (ts := ts) [59])) HN.out)
      have HB := hid (show pIs ts [91] (pNamed ts s) = false by simpa using hm)
      have HQ := hid hq
      rw [hq1]
      clear h ih hn hn2 hm hq hq1
      go_enter Tryd.func56, Tryd.ntmps56
      go_wp2_with fail
      refine (S0.out.calls (b := false) HM.out).mono ?_
      rintro e w1 ⟨rfl, h1⟩
      have S1 := hid h1
      clear h1
      go_wp2_with fail
      refine (S1.out.name rfl).mono ?_
      rintro e w2 ⟨rfl, h2⟩
      have S2 := hid h2
      clear h2
      go_wp2_with fail
      refine (S2.out.is ⟨#[91]⟩ (b := false) HB.out).mono ?_
      rintro e w3 ⟨rfl, h3⟩
      have S3 := hid h3
      clear h3
      go_wp2_with fail
      refine (S3.out.must ⟨#[61]⟩).mono ?_
      rintro e w4 ⟨rfl, h4⟩
      have S4 := hid h4
      clear h4
      go_wp2_with fail
      refine (IH.out.right _ _ _ _ _ S4.out HQ.out HN1.out).mono ?_
      rintro e w5 ⟨rfl, h5⟩
      have S5 := hid h5
      clear h5
      go_wp2_with fail
      refine (S5.out.must ⟨#[59]⟩).mono ?_
      rintro e w6 ⟨rfl, h6⟩
      have S6 := hid h6
      clear h6
      go_wp2_with fail
      refine (S6.out.put1 (oneOf q.1) rfl 11 _ 0 rfl rfl (name := (pName ts s)) rfl HN.out).mono ?_
      rintro e w7 ⟨rfl, h7⟩
      have S7 := hid h7
      clear h7
      go_wp2_with fail
      go_ret
      exact ⟨rfl, S7.out⟩
end
section
variable {src : ByteArray} {tb tc : Nat} {ts : List Tok} {g : Nat} {n : Nat}
theorem stmt_puts {src : List UInt8} {n : Nat} {s : PS} {r : List Nat × PS} (h : run src ts n .stmt s = some r) : s.nodes.length + 1 ≤ r.2.nodes.length := by
 have key : ∀ {t : PS}, Ext s t → ∀ (k line m : Nat) (name : List UInt8) (l : List Nat), s.nodes.length + 1 ≤ (pPut k line m name l t).2.nodes.length := fun h k line m name l => by
  have := nodes_le h
  simp [pPut]; omega
 have named : ∀ {n line : Nat} {r : List Nat × PS}, run src ts n (.named line) s = some r → s.nodes.length + 1 ≤ r.2.nodes.length := by
  intro n line r h
  cases n with
  | zero => simp [run] at h
  | succ n =>
    simp only [run] at h
    (repeat' split at h) <;>
    (try simp only [Option.map_eq_some_iff, Option.bind_eq_some_iff] at h) <;>
    (try (obtain ⟨q1, h1, h⟩ := h)) <;>
    (try (obtain ⟨q2, h2, h⟩ := h)) <;>
    (try subst h) <;>
    (refine key ?_ _ _ _ _ _) <;>
    (repeat (first
      | exact Ext.refl _
      | apply Ext.up
      | apply Ext.must
      | (refine Ext.trans ?_ (run_ext _ _ _ _ (by assumption)))
      | apply Ext.named
      | apply Ext.go
      | apply Ext.down
      | dsimp only))
 cases n with
 | zero => simp [run] at h
 | succ n =>
  simp only [run] at h
  (repeat' split at h) <;>
    (try simp only [Option.map_eq_some_iff, Option.bind_eq_some_iff, Option.some.injEq] at h) <;>
    (first | exact named h | skip) <;>
    (try (obtain ⟨q1, h1, h⟩ := h)) <;>
    (try (obtain ⟨q2, h2, h⟩ := h)) <;>
    (repeat' split at h) <;>
    (try simp only [Option.map_eq_some_iff, Option.bind_eq_some_iff, Option.some.injEq] at h) <;>
    (try (obtain ⟨q3, h3, h⟩ := h)) <;>
    (try subst h) <;>
    (refine key ?_ _ _ _ _ _) <;>
    (repeat (first
      | exact Ext.refl _
      | apply Ext.up
      | apply Ext.must
      | (refine Ext.trans ?_ (run_ext _ _ _ _ (by assumption)))
      | apply Ext.named
      | apply Ext.go
      | apply Ext.down
      | dsimp only))
set_option maxHeartbeats 1600000 in
set_option maxRecDepth 100000 in
theorem let_good (ih : Good src tb tc ts g n) {R : Nat → Prop} {w0 w : World} {s : PS} {r : List Nat × PS} (h : St src tb tc ts g R w0 w s) (hw : pWord ts s = [108, 101, 116]) (hr : ((run src.data.toList ts n .right (pMust ts [61] (pNamed ts (pGo s)))).map fun r => pPut 10 (pLine src.data.toList ts s) 0 (pName ts (pGo s)) r.1 (pMust ts [59] r.2)) = some r) (hn : r.2.nodes.length ≤ 1000000) :
  Calls Tryd.prog 47 #[.pointer (some ⟨g, 0, none⟩)] w fun e w' => e = .returned (.int .i64 (oneOf r.1)) ∧ St src tb tc ts g R w0 w' r.2 := by
 have IH := hid ih
 have S0 := hid h
 have HW := hid (show bs (pWord ts s) = ⟨#[108, 101, 116]⟩ by rw [hw]; rfl)
 have HO := hid (h.ok.goWord h.toks hw (by decide))
 simp only [Option.map_eq_some_iff] at hr
 obtain ⟨q, hq, rfl⟩ := hr
 have hq1 := run_one _ _ _ _ hq trivial
 have hn2 : (pMust ts [59] q.2).nodes.length + 1 ≤ 1000000 := by simpa [pPut] using hn
 have HN := hid (show (pMust ts [59] q.2).nodes.length ≤ 1000000 by omega)
 have HN1 := hid (Nat.le_trans (nodes_le ((Ext.refl q.2).must (ts := ts) [59])) HN.out)
 have HQ := hid hq
 rw [hq1]
 clear h ih hn hn2 hq hq1 hw
 go_enter Tryd.func47, Tryd.ntmps47
 go_wp2_with fail
 refine (S0.out.line rfl).mono ?_
 rintro e w1 ⟨rfl, h1⟩
 have S1 := hid h1
 clear h1
 go_wp2_with fail
 refine (S1.out.word HW.out).mono ?_
 rintro e w2 ⟨rfl, h2⟩
 have S2 := hid h2
 clear h2
 obtain ⟨hg2, c12, c22, c42, c52, f22, f42⟩ := S2.out.cells
 have hi2 := S2.out.i_le
 go_wp2_with fail
 have HZ3 := hid (show (w2.setCell ⟨g, 2, none⟩ (.int .i64 (((s).i : Int) + 1))).heap.size = w2.heap.size by simp)
 have S3 := hid (S2.out.go HO.out)
 clear hg2 c12 c22 c42 c52 f22 f42 hi2
 generalize w2.setCell ⟨g, 2, none⟩ (.int .i64 (((s).i : Int) + 1)) = w3 at *
 refine (S3.out.name rfl).mono ?_
 rintro e w4 ⟨rfl, h4⟩
 have S4 := hid h4
 clear h4
 go_wp2_with fail
 refine (S4.out.must ⟨#[61]⟩).mono ?_
 rintro e w5 ⟨rfl, h5⟩
 have S5 := hid h5
 clear h5
 go_wp2_with fail
 refine (IH.out.right _ _ _ _ _ S5.out HQ.out HN1.out).mono ?_
 rintro e w6 ⟨rfl, h6⟩
 have S6 := hid h6
 clear h6
 go_wp2_with fail
 refine (S6.out.must ⟨#[59]⟩).mono ?_
 rintro e w7 ⟨rfl, h7⟩
 have S7 := hid h7
 clear h7
 go_wp2_with fail
 refine (S7.out.put1 (oneOf q.1) rfl 10 _ 0 rfl rfl (name := (pName ts (pGo s))) rfl HN.out).mono ?_
 rintro e w8 ⟨rfl, h8⟩
 have S8 := hid h8
 clear h8
 go_wp2_with fail
 go_ret
 exact ⟨rfl, S8.out⟩
set_option maxHeartbeats 1600000 in
set_option maxRecDepth 100000 in
theorem print_good (ih : Good src tb tc ts g n) {R : Nat → Prop} {w0 w : World} {s : PS} {r : List Nat × PS} (h : St src tb tc ts g R w0 w s) (hw : pWord ts s = [112, 114, 105, 110, 116]) (hr : ((run src.data.toList ts n (.chain 0) (pGo s)).map fun r => pPut 14 (pLine src.data.toList ts s) 0 [] r.1 (pMust ts [59] r.2)) = some r) (hn : r.2.nodes.length ≤ 1000000) :
  Calls Tryd.prog 47 #[.pointer (some ⟨g, 0, none⟩)] w fun e w' => e = .returned (.int .i64 (oneOf r.1)) ∧ St src tb tc ts g R w0 w' r.2 := by
 have IH := hid ih
 have S0 := hid h
 have HW := hid (show bs (pWord ts s) = ⟨#[112, 114, 105, 110, 116]⟩ by rw [hw]; rfl)
 have HO := hid (h.ok.goWord h.toks hw (by decide))
 simp only [Option.map_eq_some_iff] at hr
 obtain ⟨q, hq, rfl⟩ := hr
 have hq1 := run_one _ _ _ _ hq trivial
 have hn2 : (pMust ts [59] q.2).nodes.length + 1 ≤ 1000000 := by simpa [pPut] using hn
 have HN := hid (show (pMust ts [59] q.2).nodes.length ≤ 1000000 by omega)
 have HN1 := hid (Nat.le_trans (nodes_le ((Ext.refl q.2).must (ts := ts) [59])) HN.out)
 have HQ := hid hq
 rw [hq1]
 clear h ih hn hn2 hq hq1 hw
 go_enter Tryd.func47, Tryd.ntmps47
 go_wp2_with fail
 refine (S0.out.line rfl).mono ?_
 rintro e w1 ⟨rfl, h1⟩
 have S1 := hid h1
 clear h1
 go_wp2_with fail
 refine (S1.out.word HW.out).mono ?_
 rintro e w2 ⟨rfl, h2⟩
 have S2 := hid h2
 clear h2
 obtain ⟨hg2, c12, c22, c42, c52, f22, f42⟩ := S2.out.cells
 have hi2 := S2.out.i_le
 go_wp2_with fail
 have HZ3 := hid (show (w2.setCell ⟨g, 2, none⟩ (.int .i64 (((s).i : Int) + 1))).heap.size = w2.heap.size by simp)
 have S3 := hid (S2.out.go HO.out)
 clear hg2 c12 c22 c42 c52 f22 f42 hi2
 generalize w2.setCell ⟨g, 2, none⟩ (.int .i64 (((s).i : Int) + 1)) = w3 at *
 refine (IH.out.expr _ _ _ _ _ S3.out HQ.out HN1.out).mono ?_
 rintro e w4 ⟨rfl, h4⟩
 have S4 := hid h4
 clear h4
 go_wp2_with fail
 refine (S4.out.must ⟨#[59]⟩).mono ?_
 rintro e w5 ⟨rfl, h5⟩
 have S5 := hid h5
 clear h5
 go_wp2_with fail
 refine (S5.out.put1 (oneOf q.1) rfl 14 _ 0 rfl rfl (name := []) rfl HN.out).mono ?_
 rintro e w6 ⟨rfl, h6⟩
 have S6 := hid h6
 clear h6
 go_wp2_with fail
 go_ret
 exact ⟨rfl, S6.out⟩
set_option maxHeartbeats 1600000 in
set_option maxRecDepth 100000 in
theorem while_good (ih : Good src tb tc ts g n) {R : Nat → Prop} {w0 w : World} {s : PS} {r : List Nat × PS} (h : St src tb tc ts g R w0 w s) (hw : pWord ts s = [119, 104, 105, 108, 101]) (hr : ((run src.data.toList ts n (.chain 0) (pGo s)).bind fun r => (run src.data.toList ts n .block r.2).map fun b => pPut 16 (pLine src.data.toList ts s) 0 [] (r.1 ++ b.1) b.2) = some r) (hn : r.2.nodes.length ≤ 1000000) :
  Calls Tryd.prog 47 #[.pointer (some ⟨g, 0, none⟩)] w fun e w' => e = .returned (.int .i64 (oneOf r.1)) ∧ St src tb tc ts g R w0 w' r.2 := by
 have IH := hid ih
 have S0 := hid h
 have HW := hid (show bs (pWord ts s) = ⟨#[119, 104, 105, 108, 101]⟩ by rw [hw]; rfl)
 have HO := hid (h.ok.goWord h.toks hw (by decide))
 simp only [Option.map_eq_some_iff, Option.bind_eq_some_iff] at hr
 obtain ⟨q, hq, u, hu, rfl⟩ := hr
 have hq1 := run_one _ _ _ _ hq trivial
 have hu1 := run_one _ _ _ _ hu trivial
 have hn2 : u.2.nodes.length + 1 ≤ 1000000 := by simpa [pPut] using hn
 have HN := hid (show u.2.nodes.length ≤ 1000000 by omega)
 have HN1 := hid (Nat.le_trans (nodes_le (run_ext _ _ _ _ hu)) HN.out)
 have HQ := hid hq
 have HU := hid hu
 rw [hq1, hu1]
 clear h ih hn hn2 hq hq1 hu hu1 hw
 rw [show [oneOf q.1] ++ [oneOf u.1] = [oneOf q.1, oneOf u.1] from rfl]
 go_enter Tryd.func47, Tryd.ntmps47
 go_wp2_with fail
 refine (S0.out.line rfl).mono ?_
 rintro e w1 ⟨rfl, h1⟩
 have S1 := hid h1
 clear h1
 go_wp2_with fail
 refine (S1.out.word HW.out).mono ?_
 rintro e w2 ⟨rfl, h2⟩
 have S2 := hid h2
 clear h2
 obtain ⟨hg2, c12, c22, c42, c52, f22, f42⟩ := S2.out.cells
 have hi2 := S2.out.i_le
 go_wp2_with fail
 have HZ3 := hid (show (w2.setCell ⟨g, 2, none⟩ (.int .i64 (((s).i : Int) + 1))).heap.size = w2.heap.size by simp)
 have S3 := hid (S2.out.go HO.out)
 clear hg2 c12 c22 c42 c52 f22 f42 hi2
 generalize w2.setCell ⟨g, 2, none⟩ (.int .i64 (((s).i : Int) + 1)) = w3 at *
 refine (IH.out.expr _ _ _ _ _ S3.out HQ.out HN1.out).mono ?_
 rintro e w4 ⟨rfl, h4⟩
 have S4 := hid h4
 clear h4
 go_wp2_with fail
 refine (IH.out.block _ _ _ _ _ S4.out HU.out HN.out).mono ?_
 rintro e w5 ⟨rfl, h5⟩
 have S5 := hid h5
 clear h5
 go_wp2_with fail
 refine (S5.out.put2 (oneOf q.1) (oneOf u.1) rfl 16 _ 0 rfl rfl (name := []) rfl HN.out).mono ?_
 rintro e w6 ⟨rfl, h6⟩
 have S6 := hid h6
 clear h6
 go_wp2_with fail
 go_ret
 exact ⟨rfl, S6.out⟩
set_option maxHeartbeats 1600000 in
set_option maxRecDepth 100000 in
theorem if_good (ih : Good src tb tc ts g n) {R : Nat → Prop} {w0 w : World} {s : PS} {r : List Nat × PS} (h : St src tb tc ts g R w0 w s) (hw : pWord ts s = [105, 102]) (hr : ((run src.data.toList ts n (.chain 0) (pGo s)).bind fun r => (run src.data.toList ts n .block r.2).bind fun b =>
    if pIs ts [101, 108, 115, 101] b.2 then (run src.data.toList ts n .block (pGo b.2)).map fun c => pPut 15 (pLine src.data.toList ts s) 0 [] (r.1 ++ b.1 ++ c.1) c.2
    else some (pPut 15 (pLine src.data.toList ts s) 0 [] (r.1 ++ b.1) b.2)) = some r) (hn : r.2.nodes.length ≤ 1000000) :
   Calls Tryd.prog 47 #[.pointer (some ⟨g, 0, none⟩)] w fun e w' => e = .returned (.int .i64 (oneOf r.1)) ∧ St src tb tc ts g R w0 w' r.2 := by
 have IH := hid ih
 have S0 := hid h
 have HW := hid (show bs (pWord ts s) = ⟨#[105, 102]⟩ by rw [hw]; rfl)
 have HO := hid (h.ok.goWord h.toks hw (by decide))
 simp only [Option.bind_eq_some_iff] at hr
 obtain ⟨q, hq, u, hu, hr⟩ := hr
 have hq1 := run_one _ _ _ _ hq trivial
 have hu1 := run_one _ _ _ _ hu trivial
 have hgo := h.ok.goWord h.toks hw (by decide)
 have hok := run_ok h.toks _ _ _ _ hu (run_ok h.toks _ _ _ _ hq hgo)
 rw [hq1, hu1] at hr
 rw [show [oneOf q.1] ++ [oneOf u.1] = [oneOf q.1, oneOf u.1] from rfl] at hr
 split at hr
 · rename_i hm
   simp only [Option.map_eq_some_iff] at hr
   obtain ⟨c, hc, rfl⟩ := hr
   have hc1 := run_one _ _ _ _ hc trivial
   have hn2 : c.2.nodes.length + 1 ≤ 1000000 := by simpa [pPut] using hn
   have HN := hid (show c.2.nodes.length ≤ 1000000 by omega)
   have HN1 := hid (Nat.le_trans (nodes_le (((Ext.refl u.2).go).trans (run_ext _ _ _ _ hc))) HN.out)
   have HN2 := hid (Nat.le_trans (nodes_le (run_ext _ _ _ _ hu)) HN1.out)
   have HQ := hid hq
   have HU := hid hu
   have HC := hid hc
   have HM := hid hm
   have HP := hid (hok.goIs h.toks hm)
   rw [hc1]
   rw [show [oneOf q.1, oneOf u.1] ++ [oneOf c.1] = [oneOf q.1, oneOf u.1, oneOf c.1] from rfl]
   clear h ih hn hn2 hq hq1 hu hu1 hw hc hc1 hm hok hgo
   go_enter Tryd.func47, Tryd.ntmps47
   go_wp2_with fail
   refine (S0.out.line rfl).mono ?_
   rintro e w1 ⟨rfl, h1⟩
   have S1 := hid h1
   clear h1
   go_wp2_with fail
   refine (S1.out.word HW.out).mono ?_
   rintro e w2 ⟨rfl, h2⟩
   have S2 := hid h2
   clear h2
   obtain ⟨hg2, c12, c22, c42, c52, f22, f42⟩ := S2.out.cells
   have hi2 := S2.out.i_le
   go_wp2_with fail
   have HZ3 := hid (show (w2.setCell ⟨g, 2, none⟩ (.int .i64 (((s).i : Int) + 1))).heap.size = w2.heap.size by simp)
   have S3 := hid (S2.out.go HO.out)
   clear hg2 c12 c22 c42 c52 f22 f42 hi2
   generalize w2.setCell ⟨g, 2, none⟩ (.int .i64 (((s).i : Int) + 1)) = w3 at *
   refine (IH.out.expr _ _ _ _ _ S3.out HQ.out HN2.out).mono ?_
   rintro e w4 ⟨rfl, h4⟩
   have S4 := hid h4
   clear h4
   go_wp2_with fail
   refine (IH.out.block _ _ _ _ _ S4.out HU.out HN1.out).mono ?_
   rintro e w5 ⟨rfl, h5⟩
   have S5 := hid h5
   clear h5
   go_wp2_with fail
   have S6 := hid (S5.out.row2 (oneOf q.1) (oneOf u.1) rfl)
   refine (S6.out.step (S6.out.here.is ⟨#[101, 108, 115, 101]⟩ (b := true) HM.out)).mono ?_
   rintro e w7 ⟨rfl, h7⟩
   have S7 := hid h7
   clear h7
   obtain ⟨hg7, c17, c27, c47, c57, f27, f47⟩ := S7.out.st.cells
   have hi7 := S7.out.st.i_le
   go_wp2_with fail
   have HZ8 := hid (show (w7.setCell ⟨g, 2, none⟩ (.int .i64 (((u.2).i : Int) + 1))).heap.size = w7.heap.size by simp)
   have S8 := hid (S7.out.go HP.out)
   clear hg7 c17 c27 c47 c57 f27 f47 hi7
   generalize w7.setCell ⟨g, 2, none⟩ (.int .i64 (((u.2).i : Int) + 1)) = w8 at *
   refine (S8.out.step (IH.out.block _ _ _ _ _ S8.out.here HC.out HN.out)).mono ?_
   rintro e w9 ⟨rfl, h9⟩
   have S9 := hid h9
   clear h9
   go_wp2_with (at_builtin; go_loud (refine wpList_append (m := 1) (news := [.int .i64 (oneOf c.1 : Nat)]) rfl _ _ rfl TyInts rfl rfl (S9.out.own.alloc _) (Rd.ofBlk (n := 1) (cs := [.int .i64 (oneOf c.1 : Nat)]) (Blk.new _ _ _) rfl (by decide)) (by simp [Value.oneCell']) (by simp [maxLen]) (by simp [maxLen]) ?_); intro A10 c10 w10 ho10 hf10 hv10; have S10 := hid (S9.out.app (own_snoc ho10) hf10 hv10); clear ho10 hf10 hv10)
   refine (S10.out.put 15 _ 0 rfl rfl (name := []) rfl HN.out).mono ?_
   rintro e w11 ⟨rfl, h11⟩
   have S11 := hid h11
   clear h11
   go_wp2_with fail
   go_ret
   exact ⟨rfl, S11.out⟩
 · rename_i hm
   simp only [Option.some.injEq] at hr
   subst hr
   have hn2 : u.2.nodes.length + 1 ≤ 1000000 := by simpa [pPut] using hn
   have HN := hid (show u.2.nodes.length ≤ 1000000 by omega)
   have HN2 := hid (Nat.le_trans (nodes_le (run_ext _ _ _ _ hu)) HN.out)
   have HQ := hid hq
   have HU := hid hu
   have HM := hid (show pIs ts [101, 108, 115, 101] u.2 = false by simpa using hm)
   clear h ih hn hn2 hq hq1 hu hu1 hw hm hok hgo
   go_enter Tryd.func47, Tryd.ntmps47
   go_wp2_with fail
   refine (S0.out.line rfl).mono ?_
   rintro e w1 ⟨rfl, h1⟩
   have S1 := hid h1
   clear h1
   go_wp2_with fail
   refine (S1.out.word HW.out).mono ?_
   rintro e w2 ⟨rfl, h2⟩
   have S2 := hid h2
   clear h2
   obtain ⟨hg2, c12, c22, c42, c52, f22, f42⟩ := S2.out.cells
   have hi2 := S2.out.i_le
   go_wp2_with fail
   have HZ3 := hid (show (w2.setCell ⟨g, 2, none⟩ (.int .i64 (((s).i : Int) + 1))).heap.size = w2.heap.size by simp)
   have S3 := hid (S2.out.go HO.out)
   clear hg2 c12 c22 c42 c52 f22 f42 hi2
   generalize w2.setCell ⟨g, 2, none⟩ (.int .i64 (((s).i : Int) + 1)) = w3 at *
   refine (IH.out.expr _ _ _ _ _ S3.out HQ.out HN2.out).mono ?_
   rintro e w4 ⟨rfl, h4⟩
   have S4 := hid h4
   clear h4
   go_wp2_with fail
   refine (IH.out.block _ _ _ _ _ S4.out HU.out HN.out).mono ?_
   rintro e w5 ⟨rfl, h5⟩
   have S5 := hid h5
   clear h5
   go_wp2_with fail
   have S6 := hid (S5.out.row2 (oneOf q.1) (oneOf u.1) rfl)
   refine (S6.out.step (S6.out.here.is ⟨#[101, 108, 115, 101]⟩ (b := false) HM.out)).mono ?_
   rintro e w7 ⟨rfl, h7⟩
   have S7 := hid h7
   clear h7
   go_wp2_with fail
   refine (S7.out.put 15 _ 0 rfl rfl (name := []) rfl HN.out).mono ?_
   rintro e w8 ⟨rfl, h8⟩
   have S8 := hid h8
   clear h8
   go_wp2_with fail
   go_ret
   exact ⟨rfl, S8.out⟩
set_option maxHeartbeats 1600000 in
set_option maxRecDepth 100000 in
theorem return_good (ih : Good src tb tc ts g n) {R : Nat → Prop} {w0 w : World} {s : PS} {r : List Nat × PS} (h : St src tb tc ts g R w0 w s) (hw : pWord ts s = [114, 101, 116, 117, 114, 110]) (hr : (if pIs ts [59] (pGo s) then some (pPut 17 (pLine src.data.toList ts s) 0 [] [] (pMust ts [59] (pGo s)))
    else (run src.data.toList ts n (.chain 0) (pGo s)).map fun r => pPut 17 (pLine src.data.toList ts s) 0 [] r.1 (pMust ts [59] r.2)) = some r) (hn : r.2.nodes.length ≤ 1000000) :
   Calls Tryd.prog 47 #[.pointer (some ⟨g, 0, none⟩)] w fun e w' => e = .returned (.int .i64 (oneOf r.1)) ∧ St src tb tc ts g R w0 w' r.2 := by
 have IH := hid ih
 have S0 := hid h
 have HW := hid (show bs (pWord ts s) = ⟨#[114, 101, 116, 117, 114, 110]⟩ by rw [hw]; rfl)
 have HO := hid (h.ok.goWord h.toks hw (by decide))
 split at hr
 · rename_i hm
   simp only [Option.some.injEq] at hr
   subst hr
   have hn2 : (pMust ts [59] (pGo s)).nodes.length + 1 ≤ 1000000 := by simpa [pPut] using hn
   have HN := hid (show (pMust ts [59] (pGo s)).nodes.length ≤ 1000000 by omega)
   have HM := hid hm
   clear h ih hn hn2 hw hm
   go_enter Tryd.func47, Tryd.ntmps47
   go_wp2_with fail
   refine (S0.out.line rfl).mono ?_
   rintro e w1 ⟨rfl, h1⟩
   have S1 := hid h1
   clear h1
   go_wp2_with fail
   refine (S1.out.word HW.out).mono ?_
   rintro e w2 ⟨rfl, h2⟩
   have S2 := hid h2
   clear h2
   obtain ⟨hg2, c12, c22, c42, c52, f22, f42⟩ := S2.out.cells
   have hi2 := S2.out.i_le
   go_wp2_with fail
   have HZ3 := hid (show (w2.setCell ⟨g, 2, none⟩ (.int .i64 (((s).i : Int) + 1))).heap.size = w2.heap.size by simp)
   have S3 := hid (S2.out.go HO.out)
   clear hg2 c12 c22 c42 c52 f22 f42 hi2
   generalize w2.setCell ⟨g, 2, none⟩ (.int .i64 (((s).i : Int) + 1)) = w3 at *
   have S4 := hid (S3.out.row0 (.cells #[] 3) (some ⟨w2.heap.size, 0, none⟩))
   refine (S4.out.step (S4.out.here.is ⟨#[59]⟩ (b := true) HM.out)).mono ?_
   rintro e w5 ⟨rfl, h5⟩
   have S5 := hid h5
   clear h5
   go_wp2_with fail
   refine (S5.out.step (S5.out.here.must ⟨#[59]⟩)).mono ?_
   rintro e w6 ⟨rfl, h6⟩
   have S6 := hid h6
   clear h6
   go_wp2_with fail
   refine (S6.out.put 17 _ 0 rfl rfl (name := []) rfl HN.out).mono ?_
   rintro e w7 ⟨rfl, h7⟩
   have S7 := hid h7
   clear h7
   go_wp2_with fail
   go_ret
   exact ⟨rfl, S7.out⟩
 · rename_i hm
   simp only [Option.map_eq_some_iff] at hr
   obtain ⟨q, hq, rfl⟩ := hr
   have hq1 := run_one _ _ _ _ hq trivial
   have hn2 : (pMust ts [59] q.2).nodes.length + 1 ≤ 1000000 := by simpa [pPut] using hn
   have HN := hid (show (pMust ts [59] q.2).nodes.length ≤ 1000000 by omega)
   have HN1 := hid (Nat.le_trans (nodes_le ((Ext.refl q.2).must (ts := ts) [59])) HN.out)
   have HQ := hid hq
   have HM := hid (show pIs ts [59] (pGo s) = false by simpa using hm)
   rw [hq1]
   clear h ih hn hn2 hq hq1 hw hm
   go_enter Tryd.func47, Tryd.ntmps47
   go_wp2_with fail
   refine (S0.out.line rfl).mono ?_
   rintro e w1 ⟨rfl, h1⟩
   have S1 := hid h1
   clear h1
   go_wp2_with fail
   refine (S1.out.word HW.out).mono ?_
   rintro e w2 ⟨rfl, h2⟩
   have S2 := hid h2
   clear h2
   obtain ⟨hg2, c12, c22, c42, c52, f22, f42⟩ := S2.out.cells
   have hi2 := S2.out.i_le
   go_wp2_with fail
   have HZ3 := hid (show (w2.setCell ⟨g, 2, none⟩ (.int .i64 (((s).i : Int) + 1))).heap.size = w2.heap.size by simp)
   have S3 := hid (S2.out.go HO.out)
   clear hg2 c12 c22 c42 c52 f22 f42 hi2
   generalize w2.setCell ⟨g, 2, none⟩ (.int .i64 (((s).i : Int) + 1)) = w3 at *
   have S4 := hid (S3.out.row0 (.cells #[] 3) (some ⟨w2.heap.size, 0, none⟩))
   refine (S4.out.step (S4.out.here.is ⟨#[59]⟩ (b := false) HM.out)).mono ?_
   rintro e w5 ⟨rfl, h5⟩
   have S5 := hid h5
   clear h5
   go_wp2_with fail
   refine (S5.out.step (IH.out.expr _ _ _ _ _ S5.out.here HQ.out HN1.out)).mono ?_
   rintro e w6 ⟨rfl, h6⟩
   have S6 := hid h6
   clear h6
   go_wp2_with (at_builtin; go_loud (refine wpList_append (m := 1) (news := [.int .i64 (oneOf q.1 : Nat)]) rfl _ _ rfl TyInts rfl rfl (S6.out.own.alloc _) (Rd.ofBlk (n := 1) (cs := [.int .i64 (oneOf q.1 : Nat)]) (Blk.new _ _ _) rfl (by decide)) (by simp [Value.oneCell']) (by simp [maxLen]) (by simp [maxLen]) ?_); intro A7 c7 w7 ho7 hf7 hv7; have S7 := hid (S6.out.app (own_snoc ho7) hf7 hv7); clear ho7 hf7 hv7)
   refine (S7.out.step (S7.out.here.must ⟨#[59]⟩)).mono ?_
   rintro e w8 ⟨rfl, h8⟩
   have S8 := hid h8
   clear h8
   go_wp2_with fail
   refine (S8.out.put 17 _ 0 rfl rfl (name := []) rfl HN.out).mono ?_
   rintro e w9 ⟨rfl, h9⟩
   have S9 := hid h9
   clear h9
   go_wp2_with fail
   go_ret
   exact ⟨rfl, S9.out⟩
set_option maxHeartbeats 1600000 in
set_option maxRecDepth 100000 in
theorem stmt_good (ih : ∀ m, m < n → Good src tb tc ts g m) : Does src tb tc ts g n .stmt 47 #[.pointer (some ⟨g, 0, none⟩)] := by
 cases n with
 | zero => exact Does.zero _ _ _
 | succ n =>
  intro R w0 w s r h hr hn
  have ih0 := ih n (Nat.lt_succ_self n)
  have IH := hid (ih n (Nat.lt_succ_self n))
  have S0 := hid h
  simp only [run] at hr
  by_cases hwlet : pWord ts s = [108, 101, 116]
  · rw [if_pos hwlet] at hr; exact let_good ih0 h hwlet hr hn
  · rw [if_neg hwlet] at hr
    by_cases hwprint : pWord ts s = [112, 114, 105, 110, 116]
    · rw [if_pos hwprint] at hr; exact print_good ih0 h hwprint hr hn
    · rw [if_neg hwprint] at hr
      by_cases hwwhile : pWord ts s = [119, 104, 105, 108, 101]
      · rw [if_pos hwwhile] at hr; exact while_good ih0 h hwwhile hr hn
      · rw [if_neg hwwhile] at hr
        by_cases hwif : pWord ts s = [105, 102]
        · rw [if_pos hwif] at hr; exact if_good ih0 h hwif hr hn
        · rw [if_neg hwif] at hr
          by_cases hwreturn : pWord ts s = [114, 101, 116, 117, 114, 110]
          · rw [if_pos hwreturn] at hr; exact return_good ih0 h hwreturn hr hn
          · rw [if_neg hwreturn] at hr
            have HN := hid hn
            have HQ := hid hr
            have hX : (bs (pWord ts s)).toList = pWord ts s := by rw [ByteArray.toList_eq]; rfl
            have b0 : ((bs (pWord ts s)).toList == [108, 101, 116]) = false := by rw [hX]; exact beq_eq_false_iff_ne.2 hwlet
            have b1 : ((bs (pWord ts s)).toList == [112, 114, 105, 110, 116]) = false := by rw [hX]; exact beq_eq_false_iff_ne.2 hwprint
            have b2 : ((bs (pWord ts s)).toList == [119, 104, 105, 108, 101]) = false := by rw [hX]; exact beq_eq_false_iff_ne.2 hwwhile
            have b3 : ((bs (pWord ts s)).toList == [105, 102]) = false := by rw [hX]; exact beq_eq_false_iff_ne.2 hwif
            have b4 : ((bs (pWord ts s)).toList == [114, 101, 116, 117, 114, 110]) = false := by rw [hX]; exact beq_eq_false_iff_ne.2 hwreturn
            obtain ⟨X, hXX⟩ : ∃ X, bs (pWord ts s) = X := ⟨_, rfl⟩
            rw [hXX] at b0 b1 b2 b3 b4
            have HW := hid hXX
            clear h ih ih0 hn hr hX hXX hwlet hwprint hwwhile hwif hwreturn
            go_enter Tryd.func47, Tryd.ntmps47
            go_wp2_with fail
            refine (S0.out.line rfl).mono ?_
            rintro e w1 ⟨rfl, h1⟩
            have S1 := hid h1
            clear h1
            go_wp2_with fail
            refine (S1.out.word HW.out).mono ?_
            rintro e w2 ⟨rfl, h2⟩
            have S2 := hid h2
            clear h2
            go_wp2_with fail
            refine (IH.out.named _ _ _ _ _ _ S2.out HQ.out HN.out).mono ?_
            rintro e w3 ⟨rfl, h3⟩
            have S3 := hid h3
            clear h3
            go_wp2_with fail
            go_ret
            exact ⟨rfl, S3.out⟩
end
section
variable {src : ByteArray} {tb tc : Nat} {ts : List Tok} {g : Nat} {n : Nat}
set_option maxHeartbeats 1600000 in
set_option maxRecDepth 100000 in
theorem chain_good (ih : ∀ m, m < n → Good src tb tc ts g m) (lv : Nat) (z : Int) (hz : ((lv : Nat) : Int) = z) (hlv : lv ≤ 5) : Does src tb tc ts g n (.chain lv) 65 #[.pointer (some ⟨g, 0, none⟩), .int .i64 z] := by
 subst hz
 cases n with
 | zero => exact Does.zero _ _ _
 | succ n =>
  intro R w0 w s r h hr hn
  have IH := hid (ih n (Nat.lt_succ_self n))
  have S0 := hid h
  simp only [run] at hr
  by_cases h5 : lv = 5
  · subst h5
    rw [if_pos rfl] at hr
    have HQ := hid hr
    have HN := hid hn
    clear h ih hn hr
    go_enter Tryd.func65, Tryd.ntmps65
    go_wp2_with fail
    refine (IH.out.factor _ _ _ _ _ S0.out HQ.out HN.out).mono ?_
    rintro e w1 ⟨rfl, h1⟩
    have S1 := hid h1
    clear h1
    go_wp2_with fail
    go_ret
    exact ⟨rfl, S1.out⟩
  · rw [if_neg h5] at hr
    have lv4 : lv ≤ 4 := by omega
    have l0 : ((lv : Int) == 5) = false := beq_eq_false_iff_ne.2 (by omega)
    have l1 : (lv : Int) ≤ 4 := by omega
    simp only [Option.bind_eq_some_iff] at hr
    obtain ⟨q, hq, hm⟩ := hr
    have HN := hid hn
    have HN1 := hid (Nat.le_trans (nodes_le (run_ext _ _ _ _ hm)) hn)
    have HQ := hid hq
    have HM := hid hm
    have HL := hid lv4
    have HI := hid ih
    clear h ih hn hq hm hlv h5 lv4
    obtain ⟨line, hline⟩ : ∃ line, pLine src.data.toList ts s = line := ⟨_, rfl⟩
    rw [hline] at HM
    have HLN := hid hline
    clear hline
    go_enter Tryd.func65, Tryd.ntmps65
    go_wp2_with fail
    refine (S0.out.line HLN.out).mono ?_
    rintro e w1 ⟨rfl, h1⟩
    have S1 := hid h1
    clear h1
    go_wp2_with fail
    refine (IH.out.chain (lv + 1) _ rfl (by have := HL.out; omega) _ _ _ _ _ S1.out HQ.out HN1.out).mono ?_
    rintro e w2 ⟨rfl, h2⟩
    have S2 := hid h2
    clear h2
    go_wp2_with fail
    go_loopg [6] n (fun k x wr => ∃ (xv : Nat) (s' : PS), x = .int .i64 (xv : Nat) ∧ Hid (k ≤ n) ∧ Hid (St src tb tc ts g R w0 wr s') ∧ Hid (run src.data.toList ts k (.more lv line xv) s' = some r))
    case atStart => exact ⟨oneOf q.1, q.2, rfl, hid (Nat.le_refl n), S2, HM⟩
    case round =>
     obtain ⟨xv, s', rfl, HK, S3, HR⟩ := hrel
     clear S0 S1 S2 HQ HM HN1 IH
     have hr := HR.out
     cases gk with
     | zero => simp [run] at hr
     | succ k =>
      simp only [run] at hr
      have IH := hid (HI.out k (by have := HK.out; omega))
      obtain ⟨X, hX⟩ : ∃ X, bs (pNext ts lv s') = X := ⟨_, rfl⟩
      have HX := hid hX
      by_cases hp : pNext ts lv s' = []
      · rw [if_pos hp] at hr
        simp only [Option.some.injEq] at hr
        subst hr
        obtain rfl : X = ⟨#[]⟩ := by rw [← hX, hp]; rfl
        clear hX hp HR
        go_wp2_with fail
        refine (S3.out.next lv HL.out HX.out).mono ?_
        rintro e w4 ⟨rfl, h4⟩
        have S4 := hid h4
        clear h4
        go_wp2_with fail
        go_ret
        exact ⟨rfl, S4.out⟩
      · rw [if_neg hp] at hr
        simp only [Option.bind_eq_some_iff] at hr
        obtain ⟨u, hu, hr⟩ := hr
        have hu1 := run_one _ _ _ _ hu trivial
        have b1 : (X.toList == []) = false := by rw [← hX, ByteArray.toList_eq]; exact beq_eq_false_iff_ne.2 hp
        have b2 : X.toList.isEmpty = false := by rw [← hX, ByteArray.toList_eq]; exact List.isEmpty_eq_false_iff.2 hp
        have HO := hid (S3.out.ok.goNext S3.out.toks hp)
        have HU := hid hu
        clear hX hu HR hp
        by_cases h2 : lv = 2
        · subst h2
          rw [if_pos rfl] at hr
          simp only [Option.some.injEq] at hr
          subst hr
          have HN2 := hid (show u.2.nodes.length ≤ 1000000 by have : u.2.nodes.length + 1 ≤ 1000000 := by simpa [pPut] using HN.out
                                                              omega)
          clear hu1 l0 l1
          go_wp2_with fail
          refine (S3.out.next _ HL.out HX.out).mono ?_
          rintro e w4 ⟨rfl, h4⟩
          have S4 := hid h4
          clear h4
          obtain ⟨hg4, c14, c24, c44, c54, f24, f44⟩ := S4.out.cells
          have hi4 := S4.out.i_le
          go_wp2_with fail
          have HZ5 := hid (show (w4.setCell ⟨g, 2, none⟩ (.int .i64 (((s').i : Int) + 1))).heap.size = w4.heap.size by simp)
          have S5 := hid (S4.out.go HO.out)
          clear hg4 c14 c24 c44 c54 f24 f44 hi4
          generalize w4.setCell ⟨g, 2, none⟩ (.int .i64 (((s').i : Int) + 1)) = w5 at *
          refine (IH.out.chain 3 _ rfl (by decide) _ _ _ _ _ S5.out HU.out HN2.out).mono ?_
          rintro e w6 ⟨rfl, h6⟩
          have S6 := hid h6
          clear h6
          go_wp2_with fail
          refine (S6.out.put2 xv (oneOf u.1) rfl 9 _ 0 rfl rfl (name := (pNext ts 2 s')) HX.out HN2.out).mono ?_
          rintro e w7 ⟨rfl, h7⟩
          have S7 := hid h7
          clear h7
          go_wp2_with fail
          go_ret
          exact ⟨rfl, S7.out⟩
        · rw [if_neg h2] at hr
          have l2 : ((lv : Int) == 2) = false := beq_eq_false_iff_ne.2 (by omega)
          have hpe := run_ext _ _ _ _ hr
          have HN2 := hid (show u.2.nodes.length ≤ 1000000 by have h7 := nodes_le hpe
                                                              have h8 := HN.out
                                                              have : u.2.nodes.length + 1 ≤ r.2.nodes.length := by simpa [pPut] using h7
                                                              omega)
          have HR2 := hid hr
          clear hr hpe h2 hu1
          go_wp2_with fail
          refine (S3.out.next lv HL.out HX.out).mono ?_
          rintro e w4 ⟨rfl, h4⟩
          have S4 := hid h4
          clear h4
          obtain ⟨hg4, c14, c24, c44, c54, f24, f44⟩ := S4.out.cells
          have hi4 := S4.out.i_le
          go_wp2_with fail
          have HZ5 := hid (show (w4.setCell ⟨g, 2, none⟩ (.int .i64 (((s').i : Int) + 1))).heap.size = w4.heap.size by simp)
          have S5 := hid (S4.out.go HO.out)
          clear hg4 c14 c24 c44 c54 f24 f44 hi4
          generalize w4.setCell ⟨g, 2, none⟩ (.int .i64 (((s').i : Int) + 1)) = w5 at *
          refine (IH.out.chain (lv + 1) _ rfl (by have := HL.out; omega) _ _ _ _ _ S5.out HU.out HN2.out).mono ?_
          rintro e w6 ⟨rfl, h6⟩
          have S6 := hid h6
          clear h6
          go_wp2_with fail
          refine (S6.out.put2 xv (oneOf u.1) rfl 9 _ 0 rfl rfl (name := (pNext ts lv s')) HX.out HN2.out).mono ?_
          rintro e w7 ⟨rfl, h7⟩
          have S7 := hid h7
          clear h7
          go_wp2_with fail
          go_roundg k
          case measure => omega
          case rel => exact ⟨u.2.nodes.length, (pPut 9 line 0 (pNext ts lv s') [xv, oneOf u.1] u.2).2, rfl, hid (by have := HK.out; omega), S7, HR2⟩
end
section
variable {src : ByteArray} {tb tc : Nat} {ts : List Tok} {g : Nat} {n : Nat}
def ArgsAt (src : List UInt8) (ts : List Tok) (k : Nat) (l : List Nat) (s : PS) (q : List Nat × PS) : Bool → Prop
 | true => run src ts k (.args l) s = some q
 | false => q = (l, s)
set_option maxHeartbeats 1600000 in
set_option maxRecDepth 100000 in
theorem call_good (ih : ∀ m, m < n → Good src tb tc ts g m) : Does src tb tc ts g n .call 64 #[.pointer (some ⟨g, 0, none⟩)] := by
 cases n with
 | zero => exact Does.zero _ _ _
 | succ n =>
  intro R w0 w s r h hr hn
  have IH := hid (ih n (Nat.lt_succ_self n))
  have S0 := hid h
  simp only [run] at hr
  simp only [Option.map_eq_some_iff] at hr
  obtain ⟨q, hq, rfl⟩ := hr
  obtain ⟨s2, hs2⟩ : ∃ s2, pMust ts [40] (pNamed ts s) = s2 := ⟨_, rfl⟩
  rw [hs2] at hq
  have hn2 : (pMust ts [41] q.2).nodes.length + 1 ≤ 1000000 := by simpa [pPut] using hn
  have HN := hid (show (pMust ts [41] q.2).nodes.length ≤ 1000000 by omega)
  have HN1 := hid (Nat.le_trans (nodes_le ((Ext.refl q.2).must (ts := ts) [41])) HN.out)
  have HI := hid ih
  have HS2 := hid hs2
  obtain ⟨line, hline⟩ : ∃ line, pLine src.data.toList ts s = line := ⟨_, rfl⟩
  have HLN := hid hline
  obtain ⟨NM, hname⟩ : ∃ NM, bs (pName ts s) = NM := ⟨_, rfl⟩
  have HNM := hid hname
  rw [hline]
  clear h ih hn hn2 hs2 hline hname
  by_cases he1 : pIs ts [41] s2 = true
  · rw [if_neg (by rw [he1]; simp)] at hq
    simp only [Option.some.injEq] at hq
    have HA := hid (show ArgsAt src.data.toList ts n [] s2 q false from hq.symm)
    have HE := hid he1
    clear he1 hq
    go_enter Tryd.func64, Tryd.ntmps64
    go_wp2_with fail
    refine (S0.out.line HLN.out).mono ?_
    rintro e w1 ⟨rfl, h1⟩
    have S1 := hid h1
    clear h1
    go_wp2_with fail
    refine (S1.out.name HNM.out).mono ?_
    rintro e w2 ⟨rfl, h2⟩
    have S2 := hid h2
    clear h2
    go_wp2_with fail
    refine (S2.out.must ⟨#[40]⟩).mono ?_
    rintro e w3 ⟨rfl, h3⟩
    have S3 := hid h3
    clear h3
    have S4 := hid (show St src tb tc ts g R w0 w3 s2 by have h4 := S3.out; rw [← HS2.out]; exact h4)
    clear S3
    go_wp2_with fail
    have S5 := hid (S4.out.row0 (.cells #[] 3) (some ⟨w3.heap.size, 0, none⟩))
    refine (S5.out.step (S5.out.here.is ⟨#[41]⟩ (b := true) HE.out)).mono ?_
    rintro e w6 ⟨rfl, h6⟩
    have S6 := hid h6
    clear h6 S0 S1 S2 S4 S5
    obtain ⟨hg6, c16, c26, c46, c56, f26, f46⟩ := S6.out.st.cells
    go_wp2_with fail
    clear hg6 c16 c26 c46 c56 f26 f46
    go_loopg [5, 7] n (fun k v more wr => ∃ (l : List Nat) (s' : PS) (b : Bool), more = .bool b ∧ Hid (k ≤ n) ∧ Hid (StR src tb tc ts g R w0 wr s' v l) ∧ Hid (ArgsAt src.data.toList ts k l s' q b) ∧ Hid (b = true → l.length ≤ s'.i))
    case atStart => exact ⟨[], s2, _, rfl, hid (Nat.le_refl n), S6, HA, hid (fun _ => Nat.zero_le _)⟩
    case round =>
      obtain ⟨l, s', b, rfl, HK, S3, HR, HB⟩ := hrel
      clear S6 HA HE
      cases b with
      | false =>
       have hr : q = (l, s') := HR.out
       subst hr
       clear HR HB
       have S3 : Hid (StR src tb tc ts g R w0 wr s' _ l) := S3
       go_wp2_with fail
       refine (S3.out.step (S3.out.here.must ⟨#[41]⟩)).mono ?_
       rintro e w4 ⟨rfl, h4⟩
       have S4 := hid h4
       clear h4
       go_wp2_with fail
       refine (S4.out.put 21 _ 0 rfl rfl (name := (pName ts s)) HNM.out HN.out).mono ?_
       rintro e w5 ⟨rfl, h5⟩
       have S5 := hid h5
       clear h5
       go_wp2_with fail
       go_ret
       exact ⟨rfl, S5.out⟩
      | true =>
       have hr : run src.data.toList ts gk (.args l) s' = some q := HR.out
       cases gk with
       | zero => simp [run] at hr
       | succ k =>
        simp only [run, Option.bind_eq_some_iff] at hr
        obtain ⟨u, hu, hr⟩ := hr
        have IH := hid (HI.out k (by have := HK.out; omega))
        have hu1 := run_one _ _ _ _ hu trivial
        rw [hu1] at hr
        have hok := run_ok S3.out.st.toks _ _ _ _ hu S3.out.st.ok
        have hle := (run_ext _ _ _ _ hu).i
        have hb := HB.out rfl
        have hri := S3.out.st.i_le
        have HU := hid hu
        have HB2 := hid (show l.length ≤ 1000 by omega)
        have HLE := hid (show l.length ≤ u.2.i by omega)
        clear hu hu1 hle hb hri HB HR
        by_cases hm : pIs ts [44] u.2 = true
        · rw [if_pos hm] at hr
          have HN2 := hid (Nat.le_trans (nodes_le (((Ext.refl u.2).go).trans (run_ext _ _ _ _ hr))) HN1.out)
          have HM := hid hm
          have HO := hid (hok.goIs S3.out.st.toks hm)
          have HR2 := hid hr
          clear hr hm hok
          go_wp2_with fail
          refine (S3.out.step (IH.out.expr _ _ _ _ _ S3.out.here HU.out HN2.out)).mono ?_
          rintro e w4 ⟨rfl, h4⟩
          have S4 := hid h4
          clear h4
          go_wp2_with (at_builtin; go_loud (refine wpList_append (m := 1) (news := [.int .i64 (oneOf u.1 : Nat)]) rfl _ _ rfl TyInts rfl rfl (S4.out.own.alloc _) (Rd.ofBlk (n := 1) (cs := [.int .i64 (oneOf u.1 : Nat)]) (Blk.new _ _ _) rfl (by decide)) (by simp [Value.oneCell']) (by have h9 := HB2.out; first | omega | (unfold maxLen; omega)) (by have h9 := HB2.out; first | omega | (unfold maxLen; omega)) ?_); intro A5 c5 w5 ho5 hf5 hv5; have S5 := hid (S4.out.app (own_snoc ho5) hf5 hv5); clear ho5 hf5 hv5)
          refine (S5.out.step (S5.out.here.is ⟨#[44]⟩ (b := true) HM.out)).mono ?_
          rintro e w6 ⟨rfl, h6⟩
          have S6 := hid h6
          clear h6
          obtain ⟨hg6, c16, c26, c46, c56, f26, f46⟩ := S6.out.st.cells
          have hi6 := S6.out.st.i_le
          go_wp2_with fail
          have HZ7 := hid (show (w6.setCell ⟨g, 2, none⟩ (.int .i64 (((u.2).i : Int) + 1))).heap.size = w6.heap.size by simp)
          have S7 := hid (S6.out.go HO.out)
          clear hg6 c16 c26 c46 c56 f26 f46 hi6
          generalize w6.setCell ⟨g, 2, none⟩ (.int .i64 (((u.2).i : Int) + 1)) = w7 at *
          go_roundg k
          case measure => omega
          case rel => exact ⟨l ++ [oneOf u.1], pGo u.2, true, rfl, hid (by have := HK.out; omega), S7, HR2, hid (fun _ => by have h9 := HLE.out; rw [List.length_append]; show l.length + 1 ≤ u.2.i + 1; omega)⟩
        · rw [if_neg hm] at hr
          simp only [Option.some.injEq] at hr
          have HN2 := hid (show u.2.nodes.length ≤ 1000000 by rw [← hr] at HN1; exact HN1.out)
          have HM := hid (show pIs ts [44] u.2 = false by simpa using hm)
          have HR2 := hid hr.symm
          clear hr hm hok
          go_wp2_with fail
          refine (S3.out.step (IH.out.expr _ _ _ _ _ S3.out.here HU.out HN2.out)).mono ?_
          rintro e w4 ⟨rfl, h4⟩
          have S4 := hid h4
          clear h4
          go_wp2_with (at_builtin; go_loud (refine wpList_append (m := 1) (news := [.int .i64 (oneOf u.1 : Nat)]) rfl _ _ rfl TyInts rfl rfl (S4.out.own.alloc _) (Rd.ofBlk (n := 1) (cs := [.int .i64 (oneOf u.1 : Nat)]) (Blk.new _ _ _) rfl (by decide)) (by simp [Value.oneCell']) (by have h9 := HB2.out; first | omega | (unfold maxLen; omega)) (by have h9 := HB2.out; first | omega | (unfold maxLen; omega)) ?_); intro A5 c5 w5 ho5 hf5 hv5; have S5 := hid (S4.out.app (own_snoc ho5) hf5 hv5); clear ho5 hf5 hv5)
          refine (S5.out.step (S5.out.here.is ⟨#[44]⟩ (b := false) HM.out)).mono ?_
          rintro e w6 ⟨rfl, h6⟩
          have S6 := hid h6
          clear h6
          go_wp2_with fail
          go_roundg k
          case measure => omega
          case rel => exact ⟨l ++ [oneOf u.1], u.2, false, rfl, hid (by have := HK.out; omega), S6, HR2, hid (fun h => by cases h)⟩
  · have he2 : pIs ts [41] s2 = false := by simpa using he1
    have HE := hid he2
    by_cases h0 : s2.e = 0
    · rw [if_pos ⟨he2, h0⟩] at hq
      have HA := hid (show ArgsAt src.data.toList ts n [] s2 q true from hq)
      have he : ((s2.e : Int) == 0) = true := by rw [h0]; rfl
      clear he1 he2 h0 hq
      go_enter Tryd.func64, Tryd.ntmps64
      go_wp2_with fail
      refine (S0.out.line HLN.out).mono ?_
      rintro e w1 ⟨rfl, h1⟩
      have S1 := hid h1
      clear h1
      go_wp2_with fail
      refine (S1.out.name HNM.out).mono ?_
      rintro e w2 ⟨rfl, h2⟩
      have S2 := hid h2
      clear h2
      go_wp2_with fail
      refine (S2.out.must ⟨#[40]⟩).mono ?_
      rintro e w3 ⟨rfl, h3⟩
      have S3 := hid h3
      clear h3
      have S4 := hid (show St src tb tc ts g R w0 w3 s2 by have h4 := S3.out; rw [← HS2.out]; exact h4)
      clear S3
      go_wp2_with fail
      have S5 := hid (S4.out.row0 (.cells #[] 3) (some ⟨w3.heap.size, 0, none⟩))
      refine (S5.out.step (S5.out.here.is ⟨#[41]⟩ (b := false) HE.out)).mono ?_
      rintro e w6 ⟨rfl, h6⟩
      have S6 := hid h6
      clear h6 S0 S1 S2 S4 S5
      obtain ⟨hg6, c16, c26, c46, c56, f26, f46⟩ := S6.out.st.cells
      go_wp2_with fail
      clear hg6 c16 c26 c46 c56 f26 f46 he
      go_loopg [5, 7] n (fun k v more wr => ∃ (l : List Nat) (s' : PS) (b : Bool), more = .bool b ∧ Hid (k ≤ n) ∧ Hid (StR src tb tc ts g R w0 wr s' v l) ∧ Hid (ArgsAt src.data.toList ts k l s' q b) ∧ Hid (b = true → l.length ≤ s'.i))
      case atStart => exact ⟨[], s2, _, rfl, hid (Nat.le_refl n), S6, HA, hid (fun _ => Nat.zero_le _)⟩
      case round =>
       obtain ⟨l, s', b, rfl, HK, S3, HR, HB⟩ := hrel
       clear S6 HA HE
       cases b with
       | false =>
        have hr : q = (l, s') := HR.out
        subst hr
        clear HR HB
        have S3 : Hid (StR src tb tc ts g R w0 wr s' _ l) := S3
        go_wp2_with fail
        refine (S3.out.step (S3.out.here.must ⟨#[41]⟩)).mono ?_
        rintro e w4 ⟨rfl, h4⟩
        have S4 := hid h4
        clear h4
        go_wp2_with fail
        refine (S4.out.put 21 _ 0 rfl rfl (name := (pName ts s)) HNM.out HN.out).mono ?_
        rintro e w5 ⟨rfl, h5⟩
        have S5 := hid h5
        clear h5
        go_wp2_with fail
        go_ret
        exact ⟨rfl, S5.out⟩
       | true =>
        have hr : run src.data.toList ts gk (.args l) s' = some q := HR.out
        cases gk with
        | zero => simp [run] at hr
        | succ k =>
          simp only [run, Option.bind_eq_some_iff] at hr
          obtain ⟨u, hu, hr⟩ := hr
          have IH := hid (HI.out k (by have := HK.out; omega))
          have hu1 := run_one _ _ _ _ hu trivial
          rw [hu1] at hr
          have hok := run_ok S3.out.st.toks _ _ _ _ hu S3.out.st.ok
          have hle := (run_ext _ _ _ _ hu).i
          have hb := HB.out rfl
          have hri := S3.out.st.i_le
          have HU := hid hu
          have HB2 := hid (show l.length ≤ 1000 by omega)
          have HLE := hid (show l.length ≤ u.2.i by omega)
          clear hu hu1 hle hb hri HB HR
          by_cases hm : pIs ts [44] u.2 = true
          · rw [if_pos hm] at hr
            have HN2 := hid (Nat.le_trans (nodes_le (((Ext.refl u.2).go).trans (run_ext _ _ _ _ hr))) HN1.out)
            have HM := hid hm
            have HO := hid (hok.goIs S3.out.st.toks hm)
            have HR2 := hid hr
            clear hr hm hok
            go_wp2_with fail
            refine (S3.out.step (IH.out.expr _ _ _ _ _ S3.out.here HU.out HN2.out)).mono ?_
            rintro e w4 ⟨rfl, h4⟩
            have S4 := hid h4
            clear h4
            go_wp2_with (at_builtin; go_loud (refine wpList_append (m := 1) (news := [.int .i64 (oneOf u.1 : Nat)]) rfl _ _ rfl TyInts rfl rfl (S4.out.own.alloc _) (Rd.ofBlk (n := 1) (cs := [.int .i64 (oneOf u.1 : Nat)]) (Blk.new _ _ _) rfl (by decide)) (by simp [Value.oneCell']) (by have h9 := HB2.out; first | omega | (unfold maxLen; omega)) (by have h9 := HB2.out; first | omega | (unfold maxLen; omega)) ?_); intro A5 c5 w5 ho5 hf5 hv5; have S5 := hid (S4.out.app (own_snoc ho5) hf5 hv5); clear ho5 hf5 hv5)
            refine (S5.out.step (S5.out.here.is ⟨#[44]⟩ (b := true) HM.out)).mono ?_
            rintro e w6 ⟨rfl, h6⟩
            have S6 := hid h6
            clear h6
            obtain ⟨hg6, c16, c26, c46, c56, f26, f46⟩ := S6.out.st.cells
            have hi6 := S6.out.st.i_le
            go_wp2_with fail
            have HZ7 := hid (show (w6.setCell ⟨g, 2, none⟩ (.int .i64 (((u.2).i : Int) + 1))).heap.size = w6.heap.size by simp)
            have S7 := hid (S6.out.go HO.out)
            clear hg6 c16 c26 c46 c56 f26 f46 hi6
            generalize w6.setCell ⟨g, 2, none⟩ (.int .i64 (((u.2).i : Int) + 1)) = w7 at *
            go_roundg k
            case measure => omega
            case rel => exact ⟨l ++ [oneOf u.1], pGo u.2, true, rfl, hid (by have := HK.out; omega), S7, HR2, hid (fun _ => by have h9 := HLE.out; rw [List.length_append]; show l.length + 1 ≤ u.2.i + 1; omega)⟩
          · rw [if_neg hm] at hr
            simp only [Option.some.injEq] at hr
            have HN2 := hid (show u.2.nodes.length ≤ 1000000 by rw [← hr] at HN1; exact HN1.out)
            have HM := hid (show pIs ts [44] u.2 = false by simpa using hm)
            have HR2 := hid hr.symm
            clear hr hm hok
            go_wp2_with fail
            refine (S3.out.step (IH.out.expr _ _ _ _ _ S3.out.here HU.out HN2.out)).mono ?_
            rintro e w4 ⟨rfl, h4⟩
            have S4 := hid h4
            clear h4
            go_wp2_with (at_builtin; go_loud (refine wpList_append (m := 1) (news := [.int .i64 (oneOf u.1 : Nat)]) rfl _ _ rfl TyInts rfl rfl (S4.out.own.alloc _) (Rd.ofBlk (n := 1) (cs := [.int .i64 (oneOf u.1 : Nat)]) (Blk.new _ _ _) rfl (by decide)) (by simp [Value.oneCell']) (by have h9 := HB2.out; first | omega | (unfold maxLen; omega)) (by have h9 := HB2.out; first | omega | (unfold maxLen; omega)) ?_); intro A5 c5 w5 ho5 hf5 hv5; have S5 := hid (S4.out.app (own_snoc ho5) hf5 hv5); clear ho5 hf5 hv5)
            refine (S5.out.step (S5.out.here.is ⟨#[44]⟩ (b := false) HM.out)).mono ?_
            rintro e w6 ⟨rfl, h6⟩
            have S6 := hid h6
            clear h6
            go_wp2_with fail
            go_roundg k
            case measure => omega
            case rel => exact ⟨l ++ [oneOf u.1], u.2, false, rfl, hid (by have := HK.out; omega), S6, HR2, hid (fun h => by cases h)⟩
    · rw [if_neg (by rintro ⟨_, h⟩; exact h0 h)] at hq
      simp only [Option.some.injEq] at hq
      have HA := hid (show ArgsAt src.data.toList ts n [] s2 q false from hq.symm)
      have he : ((s2.e : Int) == 0) = false := beq_eq_false_iff_ne.2 (by omega)
      clear he1 he2 h0 hq
      go_enter Tryd.func64, Tryd.ntmps64
      go_wp2_with fail
      refine (S0.out.line HLN.out).mono ?_
      rintro e w1 ⟨rfl, h1⟩
      have S1 := hid h1
      clear h1
      go_wp2_with fail
      refine (S1.out.name HNM.out).mono ?_
      rintro e w2 ⟨rfl, h2⟩
      have S2 := hid h2
      clear h2
      go_wp2_with fail
      refine (S2.out.must ⟨#[40]⟩).mono ?_
      rintro e w3 ⟨rfl, h3⟩
      have S3 := hid h3
      clear h3
      have S4 := hid (show St src tb tc ts g R w0 w3 s2 by have h4 := S3.out; rw [← HS2.out]; exact h4)
      clear S3
      go_wp2_with fail
      have S5 := hid (S4.out.row0 (.cells #[] 3) (some ⟨w3.heap.size, 0, none⟩))
      refine (S5.out.step (S5.out.here.is ⟨#[41]⟩ (b := false) HE.out)).mono ?_
      rintro e w6 ⟨rfl, h6⟩
      have S6 := hid h6
      clear h6 S0 S1 S2 S4 S5
      obtain ⟨hg6, c16, c26, c46, c56, f26, f46⟩ := S6.out.st.cells
      go_wp2_with fail
      clear hg6 c16 c26 c46 c56 f26 f46 he
      go_loopg [5, 7] n (fun k v more wr => ∃ (l : List Nat) (s' : PS) (b : Bool), more = .bool b ∧ Hid (k ≤ n) ∧ Hid (StR src tb tc ts g R w0 wr s' v l) ∧ Hid (ArgsAt src.data.toList ts k l s' q b) ∧ Hid (b = true → l.length ≤ s'.i))
      case atStart => exact ⟨[], s2, _, rfl, hid (Nat.le_refl n), S6, HA, hid (fun _ => Nat.zero_le _)⟩
      case round =>
       obtain ⟨l, s', b, rfl, HK, S3, HR, HB⟩ := hrel
       clear S6 HA HE
       cases b with
       | false =>
        have hr : q = (l, s') := HR.out
        subst hr
        clear HR HB
        have S3 : Hid (StR src tb tc ts g R w0 wr s' _ l) := S3
        go_wp2_with fail
        refine (S3.out.step (S3.out.here.must ⟨#[41]⟩)).mono ?_
        rintro e w4 ⟨rfl, h4⟩
        have S4 := hid h4
        clear h4
        go_wp2_with fail
        refine (S4.out.put 21 _ 0 rfl rfl (name := (pName ts s)) HNM.out HN.out).mono ?_
        rintro e w5 ⟨rfl, h5⟩
        have S5 := hid h5
        clear h5
        go_wp2_with fail
        go_ret
        exact ⟨rfl, S5.out⟩
       | true =>
        have hr : run src.data.toList ts gk (.args l) s' = some q := HR.out
        cases gk with
        | zero => simp [run] at hr
        | succ k =>
          simp only [run, Option.bind_eq_some_iff] at hr
          obtain ⟨u, hu, hr⟩ := hr
          have IH := hid (HI.out k (by have := HK.out; omega))
          have hu1 := run_one _ _ _ _ hu trivial
          rw [hu1] at hr
          have hok := run_ok S3.out.st.toks _ _ _ _ hu S3.out.st.ok
          have hle := (run_ext _ _ _ _ hu).i
          have hb := HB.out rfl
          have hri := S3.out.st.i_le
          have HU := hid hu
          have HB2 := hid (show l.length ≤ 1000 by omega)
          have HLE := hid (show l.length ≤ u.2.i by omega)
          clear hu hu1 hle hb hri HB HR
          by_cases hm : pIs ts [44] u.2 = true
          · rw [if_pos hm] at hr
            have HN2 := hid (Nat.le_trans (nodes_le (((Ext.refl u.2).go).trans (run_ext _ _ _ _ hr))) HN1.out)
            have HM := hid hm
            have HO := hid (hok.goIs S3.out.st.toks hm)
            have HR2 := hid hr
            clear hr hm hok
            go_wp2_with fail
            refine (S3.out.step (IH.out.expr _ _ _ _ _ S3.out.here HU.out HN2.out)).mono ?_
            rintro e w4 ⟨rfl, h4⟩
            have S4 := hid h4
            clear h4
            go_wp2_with (at_builtin; go_loud (refine wpList_append (m := 1) (news := [.int .i64 (oneOf u.1 : Nat)]) rfl _ _ rfl TyInts rfl rfl (S4.out.own.alloc _) (Rd.ofBlk (n := 1) (cs := [.int .i64 (oneOf u.1 : Nat)]) (Blk.new _ _ _) rfl (by decide)) (by simp [Value.oneCell']) (by have h9 := HB2.out; first | omega | (unfold maxLen; omega)) (by have h9 := HB2.out; first | omega | (unfold maxLen; omega)) ?_); intro A5 c5 w5 ho5 hf5 hv5; have S5 := hid (S4.out.app (own_snoc ho5) hf5 hv5); clear ho5 hf5 hv5)
            refine (S5.out.step (S5.out.here.is ⟨#[44]⟩ (b := true) HM.out)).mono ?_
            rintro e w6 ⟨rfl, h6⟩
            have S6 := hid h6
            clear h6
            obtain ⟨hg6, c16, c26, c46, c56, f26, f46⟩ := S6.out.st.cells
            have hi6 := S6.out.st.i_le
            go_wp2_with fail
            have HZ7 := hid (show (w6.setCell ⟨g, 2, none⟩ (.int .i64 (((u.2).i : Int) + 1))).heap.size = w6.heap.size by simp)
            have S7 := hid (S6.out.go HO.out)
            clear hg6 c16 c26 c46 c56 f26 f46 hi6
            generalize w6.setCell ⟨g, 2, none⟩ (.int .i64 (((u.2).i : Int) + 1)) = w7 at *
            go_roundg k
            case measure => omega
            case rel => exact ⟨l ++ [oneOf u.1], pGo u.2, true, rfl, hid (by have := HK.out; omega), S7, HR2, hid (fun _ => by have h9 := HLE.out; rw [List.length_append]; show l.length + 1 ≤ u.2.i + 1; omega)⟩
          · rw [if_neg hm] at hr
            simp only [Option.some.injEq] at hr
            have HN2 := hid (show u.2.nodes.length ≤ 1000000 by rw [← hr] at HN1; exact HN1.out)
            have HM := hid (show pIs ts [44] u.2 = false by simpa using hm)
            have HR2 := hid hr.symm
            clear hr hm hok
            go_wp2_with fail
            refine (S3.out.step (IH.out.expr _ _ _ _ _ S3.out.here HU.out HN2.out)).mono ?_
            rintro e w4 ⟨rfl, h4⟩
            have S4 := hid h4
            clear h4
            go_wp2_with (at_builtin; go_loud (refine wpList_append (m := 1) (news := [.int .i64 (oneOf u.1 : Nat)]) rfl _ _ rfl TyInts rfl rfl (S4.out.own.alloc _) (Rd.ofBlk (n := 1) (cs := [.int .i64 (oneOf u.1 : Nat)]) (Blk.new _ _ _) rfl (by decide)) (by simp [Value.oneCell']) (by have h9 := HB2.out; first | omega | (unfold maxLen; omega)) (by have h9 := HB2.out; first | omega | (unfold maxLen; omega)) ?_); intro A5 c5 w5 ho5 hf5 hv5; have S5 := hid (S4.out.app (own_snoc ho5) hf5 hv5); clear ho5 hf5 hv5)
            refine (S5.out.step (S5.out.here.is ⟨#[44]⟩ (b := false) HM.out)).mono ?_
            rintro e w6 ⟨rfl, h6⟩
            have S6 := hid h6
            clear h6
            go_wp2_with fail
            go_roundg k
            case measure => omega
            case rel => exact ⟨l ++ [oneOf u.1], u.2, false, rfl, hid (by have := HK.out; omega), S6, HR2, hid (fun h => by cases h)⟩
set_option maxHeartbeats 1600000 in
set_option maxRecDepth 100000 in
theorem block_good (ih : ∀ m, m < n → Good src tb tc ts g m) : Does src tb tc ts g n .block 30 #[.pointer (some ⟨g, 0, none⟩)] := by
 cases n with
 | zero => exact Does.zero _ _ _
 | succ n =>
  intro R w0 w s r h hr hn
  have IH := hid (ih n (Nat.lt_succ_self n))
  have S0 := hid h
  simp only [run] at hr
  by_cases hm : pIs ts [123] s = true
  case neg =>
   rw [if_neg hm] at hr
   simp only [Option.some.injEq] at hr
   subst hr
   have HM := hid (show pIs ts [123] s = false by simpa using hm)
   clear h ih hn hm
   go_enter Tryd.func30, Tryd.ntmps30
   go_wp2_with fail
   refine (S0.out.line rfl).mono ?_
   rintro e w1 ⟨rfl, h1⟩
   have S1 := hid h1
   clear h1
   go_wp2_with fail
   refine (S1.out.is ⟨#[123]⟩ (b := false) HM.out).mono ?_
   rintro e w2 ⟨rfl, h2⟩
   have S2 := hid h2
   clear h2
   go_wp2_with fail
   refine (S2.out.fails 20 (by decide) (by decide)).mono ?_
   rintro e w3 ⟨rfl, h3⟩
   have S3 := hid h3
   clear h3
   go_wp2_with fail
   go_ret
   exact ⟨rfl, S3.out⟩
  case pos =>
   rw [if_pos hm] at hr
   simp only [Option.map_eq_some_iff] at hr
   obtain ⟨q, hq, rfl⟩ := hr
   obtain ⟨s2, hs2⟩ : ∃ s2, pMust ts [123] (pDown ts s) = s2 := ⟨_, rfl⟩
   rw [hs2] at hq
   have hd := run_deep _ _ _ _ hq
   rw [← hs2, deep_must, deep_down] at hd
   have hdl := h.ok.fine (pIs_kind hm).1
   have HDB := hid (show (1 : Int) ≤ ((pMust ts [125] q.2).deep : Int) ∧ ((pMust ts [125] q.2).deep : Int) ≤ 20 by rw [deep_must]; omega)
   have HD := hid (show 1 ≤ (pMust ts [125] q.2).deep by rw [deep_must]; omega)
   have hn2 : (pMust ts [125] q.2).nodes.length + 1 ≤ 1000000 := by simpa [pPut, pUp] using hn
   have HN := hid (show (pMust ts [125] q.2).nodes.length ≤ 1000000 by omega)
   have HN1 := hid (Nat.le_trans (nodes_le ((Ext.refl q.2).must (ts := ts) [125])) HN.out)
   have HI := hid ih
   have HS2 := hid hs2
   obtain ⟨line, hline⟩ : ∃ line, pLine src.data.toList ts s = line := ⟨_, rfl⟩
   have HLN := hid hline
   have HM := hid hm
   have H0 := hid (pIs_kind hm).1
   have HA := hid hq
   rw [hline]
   clear h ih hn hn2 hs2 hline hm hd hdl hq
   go_enter Tryd.func30, Tryd.ntmps30
   go_wp2_with fail
   refine (S0.out.line HLN.out).mono ?_
   rintro e w1 ⟨rfl, h1⟩
   have S1 := hid h1
   clear h1
   go_wp2_with fail
   refine (S1.out.is ⟨#[123]⟩ (b := true) HM.out).mono ?_
   rintro e w2 ⟨rfl, h2⟩
   have S2 := hid h2
   clear h2
   go_wp2_with fail
   refine (S2.out.down H0.out).mono ?_
   rintro e w3 ⟨rfl, h3⟩
   have S3 := hid h3
   clear h3
   go_wp2_with fail
   refine (S3.out.must ⟨#[123]⟩).mono ?_
   rintro e w4 ⟨rfl, h4⟩
   have S4 := hid h4
   clear h4
   have S5 := hid (show St src tb tc ts g R w0 w4 s2 by have h4 := S4.out; rw [← HS2.out]; exact h4)
   clear S0 S1 S2 S3 S4
   go_wp2_with fail
   have S6 := hid (S5.out.row0 (.cells #[] 3) (some ⟨w4.heap.size, 0, none⟩))
   go_loopg [5] n (fun k v wr => ∃ (l : List Nat) (s' : PS), Hid (k ≤ n) ∧ Hid (StR src tb tc ts g R w0 wr s' v l) ∧ Hid (run src.data.toList ts k (.stmts l) s' = some q) ∧ Hid (l.length ≤ s'.nodes.length))
   case atStart => exact ⟨[], s2, hid (Nat.le_refl n), S6, HA, hid (Nat.zero_le _)⟩
   case round =>
    obtain ⟨l, s', HK, S3, HR, HB⟩ := hrel
    clear S5 S6 HA
    have hr := HR.out
    cases gk with
    | zero => simp [run] at hr
    | succ k =>
     simp only [run] at hr
     by_cases h0 : s'.e = 0
     case neg =>
      rw [if_pos h0] at hr
      simp only [Option.some.injEq] at hr
      subst hr
      have he : ((s'.e : Int) == 0) = false := beq_eq_false_iff_ne.2 (by omega)
      clear h0 HR HB
      obtain ⟨hg3, c13, c23, c43, c53, f23, f43⟩ := S3.out.st.cells
      go_wp2_with fail
      clear hg3 c13 c23 c43 c53 f23 f43 he
      refine (S3.out.step (S3.out.here.must ⟨#[125]⟩)).mono ?_
      rintro e w4 ⟨rfl, h4⟩
      have S4 := hid h4
      clear h4
      obtain ⟨hg4, c14, c24, c44, c54, f24, f44⟩ := S4.out.st.cells
      have hi4 := S4.out.st.i_le
      obtain ⟨hl4, hu4⟩ := HDB.out
      go_wp2_with fail
      have HZ5 := hid (show (w4.setCell ⟨g, 4, none⟩ (.int .i64 (((pMust ts [125] (s')).deep : Int) - 1))).heap.size = w4.heap.size by simp)
      have S5 := hid (S4.out.up HD.out)
      clear hg4 c14 c24 c44 c54 f24 f44 hi4 hl4 hu4
      generalize w4.setCell ⟨g, 4, none⟩ (.int .i64 (((pMust ts [125] (s')).deep : Int) - 1)) = w5 at *
      refine (S5.out.put 18 _ 0 rfl rfl (name := []) rfl HN.out).mono ?_
      rintro e w6 ⟨rfl, h6⟩
      have S6 := hid h6
      clear h6
      go_wp2_with fail
      go_ret
      exact ⟨rfl, S6.out⟩
     case pos =>
      rw [if_neg (by omega)] at hr
      have he : ((s'.e : Int) == 0) = true := by rw [h0]; rfl
      obtain ⟨hg3, c13, c23, c43, c53, f23, f43⟩ := S3.out.st.cells
      by_cases hm : pIs ts [125] s' = true
      · rw [if_pos hm] at hr
        simp only [Option.some.injEq] at hr
        subst hr
        have HM2 := hid hm
        clear h0 HR HB hm
        go_wp2_with fail
        clear hg3 c13 c23 c43 c53 f23 f43 he
        refine (S3.out.step (S3.out.here.is ⟨#[125]⟩ (b := true) HM2.out)).mono ?_
        rintro e w4 ⟨rfl, h4⟩
        have S4 := hid h4
        clear h4
        go_wp2_with fail
        refine (S4.out.step (S4.out.here.must ⟨#[125]⟩)).mono ?_
        rintro e w5 ⟨rfl, h5⟩
        have S5 := hid h5
        clear h5
        obtain ⟨hg5, c15, c25, c45, c55, f25, f45⟩ := S5.out.st.cells
        have hi5 := S5.out.st.i_le
        obtain ⟨hl5, hu5⟩ := HDB.out
        go_wp2_with fail
        have HZ6 := hid (show (w5.setCell ⟨g, 4, none⟩ (.int .i64 (((pMust ts [125] (s')).deep : Int) - 1))).heap.size = w5.heap.size by simp)
        have S6 := hid (S5.out.up HD.out)
        clear hg5 c15 c25 c45 c55 f25 f45 hi5 hl5 hu5
        generalize w5.setCell ⟨g, 4, none⟩ (.int .i64 (((pMust ts [125] (s')).deep : Int) - 1)) = w6 at *
        refine (S6.out.put 18 _ 0 rfl rfl (name := []) rfl HN.out).mono ?_
        rintro e w7 ⟨rfl, h7⟩
        have S7 := hid h7
        clear h7
        go_wp2_with fail
        go_ret
        exact ⟨rfl, S7.out⟩
      · rw [if_neg hm] at hr
        simp only [Option.bind_eq_some_iff] at hr
        obtain ⟨u, hu, hr⟩ := hr
        have IH := hid (HI.out k (by have := HK.out; omega))
        have hu1 := run_one _ _ _ _ hu trivial
        have hp := stmt_puts hu
        rw [hu1] at hr
        have HN2 := hid (Nat.le_trans (nodes_le (run_ext _ _ _ _ hr)) HN1.out)
        have HB2 := hid (show l.length ≤ 1000000 by have := HB.out; have := HN2.out; omega)
        have HB3 := hid (show l.length + 1 ≤ u.2.nodes.length by have := HB.out; omega)
        have HU := hid hu
        have HR2 := hid hr
        have HM2 := hid (show pIs ts [125] s' = false by simpa using hm)
        clear h0 HR HB hm hu hu1 hp hr
        go_wp2_with fail
        clear hg3 c13 c23 c43 c53 f23 f43 he
        refine (S3.out.step (S3.out.here.is ⟨#[125]⟩ (b := false) HM2.out)).mono ?_
        rintro e w4 ⟨rfl, h4⟩
        have S4 := hid h4
        clear h4
        go_wp2_with fail
        refine (S4.out.step (IH.out.stmt _ _ _ _ _ S4.out.here HU.out HN2.out)).mono ?_
        rintro e w5 ⟨rfl, h5⟩
        have S5 := hid h5
        clear h5
        go_wp2_with (at_builtin; go_loud (refine wpList_append (m := 1) (news := [.int .i64 (oneOf u.1 : Nat)]) rfl _ _ rfl TyInts rfl rfl (S5.out.own.alloc _) (Rd.ofBlk (n := 1) (cs := [.int .i64 (oneOf u.1 : Nat)]) (Blk.new _ _ _) rfl (by decide)) (by simp [Value.oneCell']) (by have h9 := HB2.out; first | omega | (unfold maxLen; omega)) (by have h9 := HB2.out; first | omega | (unfold maxLen; omega)) ?_); intro A6 c6 w6 ho6 hf6 hv6; have S6 := hid (S5.out.app (own_snoc ho6) hf6 hv6); clear ho6 hf6 hv6)
        go_roundg k
        case measure => omega
        case rel => exact ⟨l ++ [oneOf u.1], u.2, hid (by have := HK.out; omega), S6, HR2, hid (by have h9 := HB3.out; rw [List.length_append]; exact h9)⟩
end
end Go.Proofs.YtlbjicjinnnboaaDoor
