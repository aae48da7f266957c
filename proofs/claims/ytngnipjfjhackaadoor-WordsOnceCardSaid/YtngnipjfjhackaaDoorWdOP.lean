/- Words: two that are asked for have one line just if they are the same: the plain law. -/
import Derived.Test.YtngnipjfjhackaaDoorWdXP
import Derived.Test.YtngnipjfjhackaaDoorWdSh
namespace Go.Proofs.YtngnipjfjhackaaDoor
open Go.RowKit Go.MapKept
set_option linter.unusedVariables false
set_option linter.unusedSimpArgs false
theorem goes_takes {c : CmdM} : ∀ {ks : List Wk} {o o' : CmdM}, goesL c ks o = some o' → takes ks (ks.map fun k => (putK k c).1) o = some o'
  | [], o, o', h => h
  | k :: ks, o, o', h => by
    unfold goesL at h
    split at h
    · rw [List.map_cons, takes_cons]
      cases h1 : takeK k o (putK k c).1 with
      | none => rw [h1] at h; cases h
      | some o1 => rw [h1] at h; exact goes_takes (ks := ks) h
    · cases h
theorem plain_no32 {l : List UInt8} (h : plainB l = true) : (32 : UInt8) ∉ l := fun hm => by
  have := List.all_eq_true.1 h 32 hm
  revert this; decide
theorem put_no32 {k : Wk} {c : CmdM} (h : (putK k c).2 = true) : (32 : UInt8) ∉ (putK k c).1.data.toList := by
  cases k
  · exact fine_no32 h
  · exact fine_no32 h
  · show (32 : UInt8) ∉ (⟨(Lib.itoa c.n).toArray⟩ : ByteArray).data.toList
    simpa using itoa_no c.n 32 (by decide) (by decide)
  · have hm : mayW c.t c.vn c.vs = true := h
    show (32 : UInt8) ∉ (⟨(quotedL c.t c.vn c.vs).toArray⟩ : ByteArray).data.toList
    rw [show (⟨(quotedL c.t c.vn c.vs).toArray⟩ : ByteArray).data.toList = quotedL c.t c.vn c.vs by simp]
    unfold mayW at hm
    simp only [Bool.and_eq_true] at hm
    have hp := plain_no32 hm.1.2
    unfold quotedL wordL Lib.formatBool
    (repeat' split)
    · rw [List.mem_cons, List.mem_append]
      rintro (h | h | h)
      · exact absurd h (by decide)
      · exact hp h
      · simp at h
    · exact itoa_no c.vn 32 (by decide) (by decide)
    · decide
    · decide
    · decide
    · decide
theorem goes_no32 {c : CmdM} : ∀ {ks : List Wk} {o o' : CmdM}, goesL c ks o = some o' → ∀ x ∈ ks.map (fun k => (putK k c).1), (32 : UInt8) ∉ x.data.toList
  | [], o, o', h, x, hx => by cases hx
  | k :: ks, o, o', h, x, hx => by
    unfold goesL at h
    split at h
    · rename_i hp
      cases h1 : takeK k o (putK k c).1 with
      | none => rw [h1] at h; cases h
      | some o1 =>
        rw [h1] at h
        rcases List.mem_cons.1 hx with rfl | hx
        · exact put_no32 hp
        · exact goes_no32 (ks := ks) h x hx
    · cases h
theorem split_join : ∀ (x : List UInt8) (l : List (List UInt8)), (∀ y ∈ x :: l, (32 : UInt8) ∉ y) → splitL (Lib.join (x :: l) [32]) = x :: l
  | x, [], h => by
    rw [show Lib.join [x] [32] = x by simp [Lib.join]]
    exact split_one (h x List.mem_cons_self)
  | x, y :: l, h => by
    rw [show Lib.join (x :: y :: l) [32] = x ++ 32 :: Lib.join (y :: l) [32] by simp [Lib.join], split_cons (h x List.mem_cons_self), split_join y l (fun z hz => h z (List.mem_cons_of_mem _ hz))]
theorem parts_of_join (x : ByteArray) (l : List ByteArray) (h : ∀ y ∈ x :: l, (32 : UInt8) ∉ y.data.toList) : partsB (joinB (x :: l)) = x :: l := by
  rw [parts_B]
  unfold joinB
  rw [show (⟨(Lib.join ((x :: l).map (·.data.toList)) [32]).toArray⟩ : ByteArray).data.toList = Lib.join ((x :: l).map (·.data.toList)) [32] by simp, List.map_cons, split_join _ _ (fun y hy => by
    rw [← List.map_cons (f := fun z : ByteArray => z.data.toList)] at hy
    obtain ⟨z, hz, rfl⟩ := List.mem_map.1 hy
    exact h z hz), ← List.map_cons (f := fun z : ByteArray => z.data.toList), List.map_map]
  have : (bsW ∘ fun z : ByteArray => z.data.toList) = id := by funext z; exact bsW_data z
  rw [this, List.map_id]
theorem verb_no32 {v : ByteArray} {ks : List Wk} (h : findS v shapesL = some ks) : (32 : UInt8) ∉ v.data.toList := by
  have : ∀ l : List (ByteArray × List Wk), (∀ p ∈ l, (32 : UInt8) ∉ p.1.data.toList) → ∀ ks, findS v l = some ks → (32 : UInt8) ∉ v.data.toList := by
    intro l
    induction l with
    | nil => intro _ ks h; cases h
    | cons p l ih =>
      intro hl ks h
      unfold findS at h
      split at h
      · rename_i e; rw [← e]; exact hl p List.mem_cons_self
      · exact ih (fun q hq => hl q (List.mem_cons_of_mem _ hq)) ks h
  refine this shapesL (fun p hp => ?_) ks h
  simp only [shapesL, List.mem_cons, List.not_mem_nil, or_false] at hp
  rcases hp with rfl | rfl | rfl | rfl | rfl | rfl | rfl | rfl | rfl | rfl | rfl | rfl | rfl | rfl | rfl | rfl | rfl <;> decide
/-- What a line says that was made. -/
theorem line_says {c : CmdM} {a : ByteArray} (h : lineM c = some a) : ∃ ks, findS c.verb shapesL = some ks ∧ partsB a = c.verb :: ks.map (fun k => (putK k c).1) ∧ takes ks (ks.map fun k => (putK k c).1) (zeroC c.verb) = some c := by
  cases hk : findS c.verb shapesL with
  | none =>
    unfold lineM at h
    rw [hk] at h
    cases h
  | some ks =>
    rw [lineM_eq hk] at h
    cases hg : goesL c ks (zeroC c.verb) with
    | none => rw [hg] at h; cases h
    | some o =>
      rw [hg] at h
      dsimp only at h
      split at h
      · rename_i hc
        obtain ⟨rfl, _⟩ := hc
        cases h
        refine ⟨ks, rfl, ?_, goes_takes hg⟩
        exact parts_of_join _ _ (fun y hy => by
          rcases List.mem_cons.1 hy with rfl | hy
          · exact verb_no32 hk
          · exact goes_no32 hg y hy)
      · cases h
theorem line_inj {c d : CmdM} {a : ByteArray} (hc : lineM c = some a) (hd : lineM d = some a) : c = d := by
  obtain ⟨ks, k1, p1, t1⟩ := line_says hc
  obtain ⟨js, k2, p2, t2⟩ := line_says hd
  rw [p1] at p2
  injection p2 with hv hp
  rw [← hv] at k2 t2
  rw [k1] at k2
  cases k2
  rw [hp, t2] at t1
  exact (Option.some.inj t1).symm
theorem once_law (c d : CmdM) : ((lineR c).2 = 0 → (lineR d).2 = 0 → decide ((lineR c).1 = (lineR d).1) = decide (c = d)) ∧ ((lineR c).2 ≠ 0 → lineR c = (⟨#[]⟩, 1)) := by
  refine ⟨fun h1 h2 => ?_, fun h => ?_⟩
  · cases hc : lineM c with
    | none => rw [lineR_none hc] at h1; exact absurd h1 (by decide)
    | some a =>
      cases hd : lineM d with
      | none => rw [lineR_none hd] at h2; exact absurd h2 (by decide)
      | some b =>
        rw [lineR_some hc, lineR_some hd]
        apply decide_eq_decide.2
        constructor
        · intro e
          have e : a = b := e
          subst e
          exact line_inj hc hd
        · intro e
          subst e
          rw [hc] at hd
          exact Option.some.inj hd
  · cases hc : lineM c with
    | none => exact lineR_none hc
    | some a => rw [lineR_some hc] at h; exact absurd rfl h
theorem lineR_01 (c : CmdM) : (lineR c).2 = 0 ∨ (lineR c).2 = 1 := by
  unfold lineR; split
  · exact .inl rfl
  · exact .inr rfl
end Go.Proofs.YtngnipjfjhackaaDoor
