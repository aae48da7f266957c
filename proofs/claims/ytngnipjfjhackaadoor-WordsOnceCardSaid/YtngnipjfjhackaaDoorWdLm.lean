/- Words: what Line's model keeps. -/
import Derived.Test.YtngnipjfjhackaaDoorWdEq
namespace Go.Proofs.YtngnipjfjhackaaDoor
open Go.RowKit Go.MapKept
set_option linter.unusedVariables false
set_option linter.unusedSimpArgs false
theorem wf_i64 {n : Int} (h0 : -9223372036854775808 ≤ n) (h1 : n ≤ 9223372036854775807) : (Lit.int .i64 n).wf = true := by
  simp [Lit.wf, IntKind.min, IntKind.max, IntKind.signed, IntKind.bits]
  omega
theorem numM_rng {l : List UInt8} {n : Int} (h : numM l = some n) : (Lit.int .i64 n).wf = true := by
  unfold numM at h
  split at h
  · rename_i m hm
    split at h
    · cases h
      have := atoi_rng (bsW l) n (by simpa [bsW] using hm)
      exact wf_i64 this.1 this.2
    · cases h
  · cases h
theorem fine_size {s : ByteArray} (h : fineB s = true) : s.size ≤ 20 := by
  unfold fineB at h
  simp at h
  omega
theorem takeK_fit {k : Wk} {o o' : CmdM} {s : ByteArray} (h : takeK k o s = some o') (ho : FitC o) : FitC o' := by
  obtain ⟨h1, h2, h3, h4, h5, h6, h7⟩ := ho
  cases k
  · unfold takeK at h
    dsimp only at h
    split at h
    · rename_i hf; cases h; have := fine_size hf; exact ⟨h1, by show s.size ≤ 2000; omega, h3, h4, h5, h6, h7⟩
    · cases h
  · unfold takeK at h
    dsimp only at h
    split at h
    · rename_i hf; cases h; have := fine_size hf; exact ⟨h1, h2, by show s.size ≤ 2000; omega, h4, h5, h6, h7⟩
    · cases h
  · unfold takeK at h
    dsimp only at h
    simp only [Option.map_eq_some_iff] at h
    obtain ⟨n, hn, rfl⟩ := h
    exact ⟨h1, h2, h3, h4, numM_rng hn, h6, h7⟩
  · unfold takeK at h
    dsimp only at h
    simp only [Option.map_eq_some_iff] at h
    obtain ⟨⟨t, n, x⟩, hy, rfl⟩ := h
    unfold readS at hy
    split at hy
    · cases hy; exact ⟨h1, h2, h3, by show (⟨#[]⟩ : ByteArray).size ≤ 2000; decide, h5, by show (Lit.int .i64 2).wf = true; decide, by show (Lit.int .i64 1).wf = true; decide⟩
    · split at hy
      · cases hy; exact ⟨h1, h2, h3, by show (⟨#[]⟩ : ByteArray).size ≤ 2000; decide, h5, by show (Lit.int .i64 2).wf = true; decide, by show (Lit.int .i64 0).wf = true; decide⟩
      · split at hy
        · split at hy
          · rename_i hm
            cases hy
            refine ⟨h1, h2, h3, ?_, h5, by show (Lit.int .i64 3).wf = true; decide, by show (Lit.int .i64 0).wf = true; decide⟩
            unfold mayW mayV at hm
            simp at hm
            show (s.extract 1 (s.size - 1)).size ≤ 2000
            rw [ByteArray.size_extract]
            omega
          · cases hy
        · simp only [Option.map_eq_some_iff] at hy
          obtain ⟨m, hm, hy⟩ := hy
          cases hy
          exact ⟨h1, h2, h3, by show (⟨#[]⟩ : ByteArray).size ≤ 2000; decide, h5, by show (Lit.int .i64 1).wf = true; decide, numM_rng hm⟩
theorem goes_fit {c : CmdM} : ∀ {ks : List Wk} {o o' : CmdM}, goesL c ks o = some o' → FitC o → FitC o'
  | [], o, o', h, ho => by unfold goesL at h; cases h; exact ho
  | k :: ks, o, o', h, ho => by
    unfold goesL at h
    split at h
    · cases h1 : takeK k o (putK k c).1 with
      | none => rw [h1] at h; cases h
      | some o1 => rw [h1] at h; exact goes_fit h (takeK_fit h1 ho)
    · cases h
theorem zero_fit {v : ByteArray} (h : v.size ≤ 2000) : FitC (zeroC v) :=
  ⟨h, by show (⟨#[]⟩ : ByteArray).size ≤ 2000; decide, by show (⟨#[]⟩ : ByteArray).size ≤ 2000; decide, by show (⟨#[]⟩ : ByteArray).size ≤ 2000; decide, by show (Lit.int .i64 0).wf = true; decide, by show (Lit.int .i64 0).wf = true; decide, by show (Lit.int .i64 0).wf = true; decide⟩
theorem join_len (sep : List UInt8) (m : Nat) : ∀ (l : List (List UInt8)), (∀ x ∈ l, x.length ≤ m) → (Lib.join l sep).length ≤ l.length * (m + sep.length)
  | [], _ => by simp [Lib.join]
  | [x], h => by
    have := h x List.mem_cons_self
    simp [Lib.join]; omega
  | x :: y :: l, h => by
    have h1 := h x List.mem_cons_self
    have ih := join_len sep m (y :: l) (fun z hz => h z (List.mem_cons_of_mem _ hz))
    have e : (Lib.join (x :: y :: l) sep).length = x.length + sep.length + (Lib.join (y :: l) sep).length := by
      simp [Lib.join]; omega
    rw [e, List.length_cons, Nat.add_mul]
    omega
theorem goes_cons (c : CmdM) (k : Wk) (ks : List Wk) (o : CmdM) : goesL c (k :: ks) o = if (putK k c).2 = true then (takeK k o (putK k c).1).bind (goesL c ks) else none := rfl
/-- How far Line has come. -/
def SpecL (c : CmdM) (ks : List Wk) (ok : Bool) (j : Nat) (o : CmdM) : Prop := (ok = true → goesL c ks (zeroC c.verb) = goesL c (ks.drop j) o) ∧ (ok = false → goesL c ks (zeroC c.verb) = none)
theorem SpecL.no {c : CmdM} {ks : List Wk} {j j' : Nat} {o o' : CmdM} (h : SpecL c ks false j o) : SpecL c ks false j' o' := ⟨fun e => (by cases e), h.2⟩
theorem SpecL.step {c : CmdM} {ks : List Wk} {j : Nat} {o : CmdM} {k : Wk} (h : SpecL c ks true j o) (hk : ks.drop j = k :: ks.drop (j + 1)) : goesL c ks (zeroC c.verb) = if (putK k c).2 = true then (takeK k o (putK k c).1).bind (goesL c (ks.drop (j + 1))) else none := by
  rw [h.1 rfl, hk]; rfl
theorem parts_snoc (c : CmdM) {ks : List Wk} {j : Nat} {k : Wk} (hk : ks[j]? = some k) : partsL c (ks.take (j + 1)) = partsL c (ks.take j) ++ [(putK k c).1] := by
  unfold partsL
  rw [List.take_add_one, hk, List.map_append]
  rfl
theorem lineR_none {c : CmdM} (h : lineM c = none) : lineR c = (⟨#[]⟩, 1) := by unfold lineR; rw [h]
theorem lineR_some {c : CmdM} {l : ByteArray} (h : lineM c = some l) : lineR c = (l, 0) := by unfold lineR; rw [h]
theorem lineM_eq {c : CmdM} {ks : List Wk} (hk : findS c.verb shapesL = some ks) : lineM c = match goesL c ks (zeroC c.verb) with
    | none => none
    | some o => if o = c ∧ (joinB (partsL c ks)).size ≤ 80 then some (joinB (partsL c ks)) else none := by
  unfold lineM
  rw [hk]
  rfl
end Go.Proofs.YtngnipjfjhackaaDoor
