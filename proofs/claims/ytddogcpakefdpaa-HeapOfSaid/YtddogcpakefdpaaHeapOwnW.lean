/- HeapOwn: the walk. -/
import Derived.Test.YtddogcpakefdpaaHeapAC
import Derived.Test.YtddogcpakefdpaaHeapPlaysW
namespace Go.Proofs.Ytddogcpakefdpaa
open Go.RowKit
set_option linter.unusedVariables false
set_option linter.unusedSimpArgs false

/-- A slice that is owned, of rows that came in. -/
structure OwnRd (base : Nat) (w : World) (v : Value) (us : List Value) (L : List (List Int)) : Prop where
  own : Own w 35 1 v L.length us
  new : ∀ g, blk v = some g → base ≤ g
  row : ∀ (k : Nat) (l : List Int) (u : Value), L[k]? = some l → us[k]? = some u → Rd w 1 u l.length (ivs l) ∧ ∀ A n c, u = .slice (some A) n c → 0 < n → A.block < base
theorem OwnRd.rd {base : Nat} {w : World} {v : Value} {us : List Value} {L : List (List Int)} (h : OwnRd base w v us L) : RdRows w v L :=
  ⟨us, h.own.rd, fun k l u hl hu => (h.row k l u hl hu).1⟩
theorem OwnRd.fr {M : Nat → Prop} {base : Nat} {w w' : World} {v : Value} {us : List Value} {L : List (List Int)} (h : OwnRd base w v us L) (f : Fr M w w') (hM : ∀ k, M k → base ≤ k) (hv : ∀ g, blk v = some g → ¬ M g) : OwnRd base w' v us L :=
  ⟨h.own.fr f hv, h.new, fun k l u hl hu => ⟨(h.row k l u hl hu).1.fr (by decide) f (fun A c e hn hm => by subst e; have := (h.row k l _ hl hu).2 A _ c rfl hn; have := hM _ hm; omega), (h.row k l u hl hu).2⟩⟩
theorem OwnRd.no {base : Nat} {w w' : World} {v : Value} {us : List Value} {L : List (List Int)} (h : OwnRd base w v us L) (f : Fr nob w w') : OwnRd base w' v us L := h.fr f (fun _ x => x.elim) (fun _ _ x => x)
theorem OwnRd.snoc {base : Nat} {W w' : World} {v v' u : Value} {us : List Value} {L : List (List Int)} {l : List Int} (h : OwnRd base W v us L) (hu : Rd W 1 u l.length (ivs l)) (hun : ∀ A n c, u = .slice (some A) n c → 0 < n → A.block < base)
    (ho : Own w' 35 1 v' (L.length + 1) (us ++ [u])) (hf : Fr (obl (blk v)) W w') (hv : blk v' = blk v ∨ blk v' = some W.heap.size) (hb : base ≤ W.heap.size) : OwnRd base w' v' (us ++ [u]) (L ++ [l]) := by
  have hlen : us.length = L.length := by have := h.own.len; omega
  have kept : ∀ {n : Nat} {y : Value} {xs : List Value}, Rd W 1 y n xs → (∀ A n c, y = .slice (some A) n c → 0 < n → A.block < base) → Rd w' 1 y n xs := fun hy hlow => hy.fr (by decide) hf (fun A c e hn hm => by
    subst e; have a := hlow A _ c rfl hn; have b := h.new _ hm; omega)
  refine ⟨by simpa using ho, fun g hg => ?_, fun k m x hm hx => ?_⟩
  · rcases hv with e | e
    · exact h.new g (e ▸ hg)
    · rw [hg] at e; injection e with e; omega
  · by_cases hk : k < L.length
    · rw [List.getElem?_append_left hk] at hm
      rw [List.getElem?_append_left (by omega)] at hx
      obtain ⟨h1, h2⟩ := h.row k m x hm hx
      exact ⟨kept h1 h2, h2⟩
    · rw [List.getElem?_append_right (by omega)] at hm
      rw [List.getElem?_append_right (by omega), hlen] at hx
      have hk0 : k - L.length = 0 := by
        have := (List.getElem?_eq_some_iff.1 hm).1; simp at this; omega
      rw [hk0] at hm hx
      simp at hm hx
      subst hm; subst hx
      exact ⟨kept hu hun, hun⟩
theorem RdRows.low {w : World} {A : Option Addr} {n c k : Nat} {L : List (List Int)} {l : List Int} {B : Addr} {c2 : Nat} (h : Rd w 1 (.slice (some B) l.length c2) l.length (ivs l)) (hn : 0 < l.length) : B.block < w.heap.size := h.blk_lt hn
theorem Rd.cut {w : World} {A : Option Addr} {l : List Int} {c : Nat} (h : Rd w 1 (.slice A l.length c) l.length (ivs l)) (hk : 20 ≤ l.length) : Rd w 1 (.slice A 20 c) 20 (ivs (l.take 20)) := by
  obtain ⟨hl, A', c', hv, h1, h2, h3⟩ := h
  injection hv with hA _ hc
  subst hA; subst hc
  obtain ⟨ad, rfl, hsp, hcell⟩ := h3 (by omega)
  refine ⟨by simp [ivs]; omega, _, c, rfl, by omega, h2, fun _ => ⟨ad, rfl, hsp, fun j u hu => hcell j u ?_⟩⟩
  rw [ivs_get, List.getElem?_take] at hu
  split at hu
  · rw [ivs_get]; exact hu
  · simp at hu

/-- The part that the statement looks at. -/
def part (L : List (List Int)) : List (List Int) := (L.take 20).map (·.take 20)
theorem part_le (L : List (List Int)) : (∀ l ∈ part L, l.length ≤ 1000000) ∧ (part L).length ≤ 1000000 := by
  constructor
  · intro l hl
    obtain ⟨m, _, rfl⟩ := List.mem_map.1 hl
    simp; omega
  · simp [part]; omega
def partN (L : List (List Int)) (k : Nat) : List (List Int) := (L.take k).map (·.take 20)
theorem partN_succ (L : List (List Int)) (k : Nat) (h : k < L.length) : partN L (k + 1) = partN L k ++ [L[k].take 20] := by
  unfold partN; rw [List.take_succ_eq_append_getElem h, List.map_append]; rfl
theorem partN_len (L : List (List Int)) (k : Nat) (h : k ≤ L.length) : (partN L k).length = k := by simp [partN]; omega
theorem part_eq (L : List (List Int)) (k : Nat) (h : k ≤ L.length) (h2 : k = 20 ∨ k = L.length) (h3 : k ≤ 20) : partN L k = part L := by
  unfold partN part
  rcases h2 with rfl | rfl
  · rfl
  · rw [List.take_length, List.take_of_length_le h3]

theorem pof_no (v : Value) (L : List (List Int)) (w : World) (h : RdRows w v L) (hL : (∀ l ∈ L, l.length ≤ 1000000) ∧ L.length ≤ 1000000) (hok : ¬ okL L) :
    Calls Try.prog 21 #[v] w fun e w' => e = .returned (.tuple #[.pointer none, .bool false]) ∧ Fr nob w w' := by
  refine (pof_any v L w h hL.1 hL.2).mono ?_
  rintro e w' ⟨hf, ⟨_, rfl⟩ | ⟨h1, _⟩⟩
  · exact ⟨rfl, hf⟩
  · exact absurd h1 hok
theorem pof_yes (v : Value) (L : List (List Int)) (w : World) (h : RdRows w v L) (hL : (∀ l ∈ L, l.length ≤ 1000000) ∧ L.length ≤ 1000000) (hok : okL L) :
    Calls Try.prog 21 #[v] w fun e w' => ∃ hb cv ev, e = .returned (.tuple #[.pointer (some ⟨hb, 0, none⟩), .bool true]) ∧ HeapP w' hb cv ev L ∧ (∀ k, footP hb cv ev k → w.heap.size ≤ k) ∧ Fr nob w w' := by
  refine (pof_any v L w h hL.1 hL.2).mono ?_
  rintro e w' ⟨hf, ⟨h1, _⟩ | ⟨_, hb, cv, ev, rfl, h1, h2⟩⟩
  · exact absurd hok h1
  · exact ⟨hb, cv, ev, rfl, h1, h2, hf⟩
theorem rof_no (v : Value) (L : List (List Int)) (w : World) (h : RdRows w v L) (hL : (∀ l ∈ L, l.length ≤ 1000000) ∧ L.length ≤ 1000000) (hok : ¬ okL L) :
    Calls Try.prog 22 #[v] w fun e w' => (∃ g, e = .returned (.tuple #[.pointer (some ⟨g, 0, none⟩), .bool false])) ∧ Fr nob w w' := by
  refine (rof_any v L w h hL.1 hL.2).mono ?_
  rintro e w' ⟨hf, ⟨_, g, rfl⟩ | ⟨h1, _⟩⟩
  · exact ⟨⟨g, rfl⟩, hf⟩
  · exact absurd h1 hok
theorem rof_yes (v : Value) (L : List (List Int)) (w : World) (h : RdRows w v L) (hL : (∀ l ∈ L, l.length ≤ 1000000) ∧ L.length ≤ 1000000) (hok : okL L) :
    Calls Try.prog 22 #[v] w fun e w' => ∃ yb lv us, e = .returned (.tuple #[.pointer (some ⟨yb, 0, none⟩), .bool true]) ∧ HeapR w' yb lv us L ∧ (∀ k, footR yb lv us k → w.heap.size ≤ k) ∧ Fr nob w w' := by
  refine (rof_any v L w h hL.1 hL.2).mono ?_
  rintro e w' ⟨hf, ⟨h1, _⟩ | ⟨_, hb, cv, ev, rfl, h1, h2⟩⟩
  · exact absurd hok h1
  · exact ⟨hb, cv, ev, rfl, h1, h2, hf⟩

/-- What stays: the rows that came in, and the place. -/
structure Env (w0 : World) (B : Nat) (w : World) (vo : Value) (us : List Value) (K : List (List Int)) (p q : Int) : Prop where
  ow : OwnRd w0.heap.size w vo us K
  olt : ∀ g, blk vo = some g → g < B
  bx : Blk w w0.heap.size 45 #[.int .i64 p, .int .i64 q]
  hB : w0.heap.size < B
  le : B ≤ w.heap.size
  fr : Fr nob w0 w
theorem Env.step {M : Nat → Prop} {w0 w w' : World} {B : Nat} {vo : Value} {us : List Value} {K : List (List Int)} {p q : Int} (h : Env w0 B w vo us K p q) (f : Fr M w w') (hM : ∀ k, M k → B ≤ k) : Env w0 B w' vo us K p q :=
  have hb := h.hB
  ⟨h.ow.fr f (fun k hk => by have := hM k hk; omega) (fun g hg hm => by have := h.olt g hg; have := hM g hm; omega), h.olt, h.bx.fr f (fun hm => by have := hM _ hm; omega), h.hB, Nat.le_trans h.le f.size,
    h.fr.trans f (fun _ _ x => x) (fun k hk hm => by have := hM k hm; omega)⟩
theorem Env.no {w0 w w' : World} {B : Nat} {vo : Value} {us : List Value} {K : List (List Int)} {p q : Int} (h : Env w0 B w vo us K p q) (f : Fr nob w w') : Env w0 B w' vo us K p q := h.step f (fun _ x => x.elim)

/-- Two of the program's heaps, apart. -/
structure Pair (B : Nat) (w : World) (hb : Nat) (cv ev : Value) (L : List (List Int)) (nb : Nat) (nv mv : Value) (M : List (List Int)) : Prop where
  p : HeapP w hb cv ev L
  n : HeapP w nb nv mv M
  dis : ∀ k, footP hb cv ev k → ¬ footP nb nv mv k
  bp : ∀ k, footP hb cv ev k → B ≤ k
  bn : ∀ k, footP nb nv mv k → B ≤ k
section
variable {B : Nat} {w w' : World} {hb : Nat} {cv ev : Value} {L L' : List (List Int)} {nb : Nat} {nv mv : Value} {M M' : List (List Int)}
theorem Pair.no (h : Pair B w hb cv ev L nb nv mv M) (f : Fr nob w w') : Pair B w' hb cv ev L nb nv mv M :=
  ⟨h.p.fr f (fun _ _ x => x), h.n.fr f (fun _ _ x => x), h.dis, h.bp, h.bn⟩
theorem Pair.swap (h : Pair B w hb cv ev L nb nv mv M) : Pair B w nb nv mv M hb cv ev L := ⟨h.n, h.p, fun k h1 h2 => h.dis k h2 h1, h.bn, h.bp⟩
theorem Pair.step' (h : Pair B w hb cv ev L nb nv mv M) (hB : B ≤ w.heap.size) (n : NextP (footP hb cv ev) w hb L' w') : ∃ cv' ev', Pair B w' hb cv' ev' L' nb nv mv M ∧ ∀ k, footP hb cv' ev' k → footP hb cv ev k ∨ w.heap.size ≤ k := by
  obtain ⟨cv', ev', h1, h2, h3⟩ := n
  refine ⟨cv', ev', ⟨h1, h.n.fr h3 (fun k hk hp => h.dis k hp hk), fun k hk hr => ?_, fun k hk => ?_, h.bn⟩, h2⟩
  · rcases h2 k hk with e | e
    · exact h.dis k e hr
    · have := h.n.foot_lt k hr; omega
  · rcases h2 k hk with e | e
    · exact h.bp k e
    · omega
theorem Pair.step (h : Pair B w hb cv ev L nb nv mv M) (hB : B ≤ w.heap.size) (n : NextP (footP hb cv ev) w hb L' w') : ∃ cv' ev', Pair B w' hb cv' ev' L' nb nv mv M := by
  obtain ⟨cv', ev', h1, h2, h3⟩ := n
  refine ⟨cv', ev', h1, h.n.fr h3 (fun k hk hp => h.dis k hp hk), fun k hk hr => ?_, fun k hk => ?_, h.bn⟩
  · rcases h2 k hk with e | e
    · exact h.dis k e hr
    · have := h.n.foot_lt k hr; omega
  · rcases h2 k hk with e | e
    · exact h.bp k e
    · omega
theorem NextP.fr (n : NextP (footP hb cv ev) w hb L' w') : Fr (footP hb cv ev) w w' := by
  obtain ⟨_, _, _, _, h⟩ := n; exact h
end
end Go.Proofs.Ytddogcpakefdpaa
