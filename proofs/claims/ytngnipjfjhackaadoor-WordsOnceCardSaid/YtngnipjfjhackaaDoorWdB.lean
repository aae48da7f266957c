/- Words: numbers. -/
import Derived.Test.YtngnipjfjhackaaDoorWdA
import Derived.Lib.LaidTab
namespace Go.Proofs.YtngnipjfjhackaaDoor
open Go.RowKit
set_option linter.unusedVariables false
set_option linter.unusedSimpArgs false
theorem Fr.grew (w : World) (k : Nat) (os : Array Obj) : Fr nob w (Go.Sort.grow (w.drewN k) os) := by
  refine ⟨rfl, rfl, rfl, ?_, fun j hj _ => ?_⟩
  · show w.heap.size ≤ (w.heap ++ os).size; rw [Array.size_append]; omega
  · show (w.heap ++ os)[j]? = w.heap[j]?
    rw [Array.getElem?_append_left hj]
theorem Fr.bytes {w w' : World} (e : TypeId) (h : w' = w ∨ ∃ t, w' = Lib.bytesWorld w e t) : Fr nob w w' := by
  rcases h with rfl | ⟨t, rfl⟩
  · exact Fr.refl _ _
  · have hb := Lib.bytesWorld_below w e t
    exact ⟨hb.os, hb.tape, hb.output, hb.size, fun k hk _ => hb.block k hk⟩
/-- The variables that the library reads. -/
structure Vars (w : World) : Prop where
  tab : ∃ k, Tryd.prog.globalNamed "internal/strconv.uint64pow10" = some k ∧ k < w.heap.size ∧ Lib.TabIs Tryd.prog w "internal/strconv.uint64pow10" .u64 Lib.pow10Tab
  syn : ∃ k tp p, Tryd.prog.globalNamed "strconv.ErrSyntax" = some k ∧ k < w.heap.size ∧ w.var? Tryd.prog "strconv.ErrSyntax" = some #[.iface tp p]
  rng : ∃ k tp p, Tryd.prog.globalNamed "strconv.ErrRange" = some k ∧ k < w.heap.size ∧ w.var? Tryd.prog "strconv.ErrRange" = some #[.iface tp p]
theorem var_fr {w w' : World} {name : String} {k : Nat} (hk : Tryd.prog.globalNamed name = some k) (hlt : k < w.heap.size) (f : Fr nob w w') : w'.var? Tryd.prog name = w.var? Tryd.prog name := by
  unfold World.var?
  rw [hk]
  simp only [Option.bind_some]
  rw [f.block k hlt (fun x => x)]
theorem Vars.fr {w w' : World} (h : Vars w) (f : Fr nob w w') : Vars w' := by
  obtain ⟨⟨k, hk, hlt, ht⟩, ⟨k2, tp, p, hk2, hlt2, h2⟩, ⟨k3, tp3, p3, hk3, hlt3, h3⟩⟩ := h
  have hs := f.size
  refine ⟨⟨k, hk, by omega, ?_⟩, ⟨k2, tp, p, hk2, by omega, by rw [var_fr hk2 hlt2 f]; exact h2⟩, ⟨k3, tp3, p3, hk3, by omega, by rw [var_fr hk3 hlt3 f]; exact h3⟩⟩
  unfold Lib.TabIs at *
  rw [var_fr hk hlt f]; exact ht
theorem atoi_rng (s : ByteArray) (v : Int) (h : Lib.atoiAll s.data.toList = .ok v) : -9223372036854775808 ≤ v ∧ v ≤ 9223372036854775807 := by
  unfold Lib.atoiAll at h
  split at h
  · cases h
  · dsimp only at h
    split at h
    · cases h
    · cases h
    · split at h
      · cases h
      · split at h
        · cases h
        · injection h with h
          subst h
          split <;> omega
def numV (l : List UInt8) (n : Int) : Prop := ∀ v, numM l = some v → n = v
set_option maxHeartbeats 1000000 in
set_option maxRecDepth 100000 in
theorem digits_any (s : ByteArray) (hs : s.size ≤ 281474976710656) (w : World) (hv : Vars w) : Calls Tryd.prog 33 #[.string s] w fun e w' => (∃ n, e = .returned (.tuple #[.int .i64 n, .bool (numM s.data.toList).isSome]) ∧ numV s.data.toList n) ∧ Fr nob w w' := by
  by_cases hok : ∃ v, Lib.atoiAll s.data.toList = .ok v
  · obtain ⟨v, hok⟩ := hok
    have HA := hid (Tryd.strconv_Atoi_ok s (by omega) v hok w)
    have hr := atoi_rng s v hok
    have HV := hid hv
    have HI := hid (fun (wx : World) (h : Vars wx) => by
      obtain ⟨k, hk, hlt, ht⟩ := h.tab
      exact Tryd.strconv_Itoa v hr.1 hr.2 wx ht)
    obtain ⟨b, hb⟩ : ∃ b, decide (Lib.itoa v = s.data.toList) = b := ⟨_, rfl⟩
    have hnum : numM s.data.toList = if b then some v else none := by
      unfold numM
      rw [hok]
      dsimp only
      rw [← hb]; simp
    have heq : ((⟨(Lib.itoa v).toArray⟩ : ByteArray).toList == s.toList) = b := by
      rw [ByteArray.toList_eq, ByteArray.toList_eq, ← hb]
      by_cases he : Lib.itoa v = s.data.toList
      · rw [decide_eq_true he]; simp [he]
      · rw [decide_eq_false he]; simp [he]
    have HD := hid (show decide (Lib.itoa v = s.toList) = b by rw [ByteArray.toList_eq]; exact hb)
    have HN := hid hnum
    clear hok hnum hv hb hr
    go_enter Tryd.func33, Tryd.ntmps33
    go_wp2_with fail
    refine HA.out.mono ?_
    rintro e w1 ⟨rfl, hw⟩
    have F1 := hid (Fr.bytes _ hw)
    clear hw
    go_wp2_with fail
    refine (HI.out _ (HV.out.fr F1.out)).mono ?_
    rintro e w2 ⟨rfl, k, os, hw⟩
    have F2 := hid (show Fr nob w1 w2 from by rw [hw]; exact Fr.grew _ _ _)
    clear hw
    go_wp2_with fail
    go_ret2
    refine ⟨⟨v, ?_, ?_⟩, F1.out.tr F2.out⟩
    · rw [HN.out]
      cases b
      · have := of_decide_eq_false HD.out; simp; first | done | exact this
      · have := of_decide_eq_true HD.out; simp; first | done | exact this
    · intro v' h'
      rw [HN.out] at h'
      cases b
      · cases h'
      · exact Option.some.inj h'
  · have hno : ∀ v, Lib.atoiAll s.data.toList ≠ .ok v := fun v h => hok ⟨v, h⟩
    obtain ⟨k2, tp, p, _, _, h2⟩ := hv.syn
    obtain ⟨k3, tp3, p3, _, _, h3⟩ := hv.rng
    have HA := hid (atoi_bad s hs hno tp p tp3 p3 w h2 h3)
    have hnum : numM s.data.toList = none := by
      unfold numM
      split
      · rename_i v hh; exact absurd hh (hno v)
      · rfl
    have HN := hid hnum
    clear hok hno h2 h3 hnum hv
    go_enter Tryd.func33, Tryd.ntmps33
    go_wp2_with fail
    refine HA.out.mono ?_
    rintro e w1 ⟨n, t, v, rfl, hf⟩
    have F1 := hid hf
    clear hf
    go_wp2_with fail
    go_ret2
    refine ⟨⟨n, by rw [HN.out]; rfl, fun v' h' => ?_⟩, F1.out⟩
    rw [HN.out] at h'; cases h'
end Go.Proofs.YtngnipjfjhackaaDoor
