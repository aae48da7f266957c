/- copy into a part of an owned row. -/
import Derived.Test.YtddogcpakefdpaaMem
import Derived.Laws.CopyOwn
namespace Go.Proofs.Ytddogcpakefdpaa
open Go.RowKit
set_option linter.unusedVariables false
set_option linter.unusedSimpArgs false

section
variable {P : Program} {w : World} {t e bytes N m : Nat} {z v : Value} {xs cs : List Value}
theorem wpList_copy {ops : Array Oper} {rest : List Oper} {o : Oper} {a : Act} {Q : Exit → Act → World → Prop} (hgd : o.guard = none) (d s : Operand)
    (ho : o.op = .call { callee := .builtin .copy, args := #[d, s], argTypes := #[t, t] }) (T : SlTy P t e 1 bytes z) (dp sp : Option Addr) (dc sc : Nat) (hd : a.eval d = .slice dp m dc) (hs : a.eval s = .slice sp m sc)
    (hown : Own w e 1 v N xs) (off : Nat) (hoff : off + m ≤ N) (hdp : 0 < m → ∃ g, blk v = some g ∧ dp = some ⟨g, off, none⟩) (hsrc : Rd w 1 (.slice sp m sc) m cs) (h1 : ∀ u ∈ cs, u.oneCell' = true)
    (h : ∀ w', Own w' e 1 v N (xs.take off ++ (cs ++ xs.drop (off + m))) → Fr (obl (blk v)) w w' → wpList P ops Q rest (a.put o.dst (.int .i64 m)) w') : wpList P ops Q (o :: rest) a w := by
  obtain ⟨i, hi, hz0, hz1, hz2⟩ := T.hi
  have hsz : (P.info? e).map (·.size) = some 1 := by rw [hi]; simp [hz1]
  have hcl : cs.length = m := by have := hsrc.1; omega
  rcases Nat.eq_zero_or_pos m with rfl | hm
  · have hcs : cs = [] := List.eq_nil_of_length_eq_zero hcl
    subst hcs
    refine wpList_copy_nothing hgd d s t t ho e T.ht hsz dp sp 0 dc 0 sc hd hs (by simp) ?_
    refine h w ?_ (Fr.refl _ _)
    simpa using hown
  · obtain ⟨g, hg, rfl⟩ := hdp hm
    obtain ⟨_, A', c', hv, _, _, h3⟩ := hsrc
    injection hv with hA hn hc
    subst hA
    obtain ⟨ad, rfl, hsp, hcell⟩ := h3 hm
    obtain ⟨hl, A, c, rfl, ⟨_, rfl⟩ | ⟨g', cur, rfl, h0, hb, hnc, hcm, hcur, ht⟩⟩ := hown
    · omega
    · have : g' = g := by simp [blk] at hg; omega
      subst this
      refine wpList_copy_own hgd d s t t ho e T.ht hsz g' off m dc ad m sc hd hs cur e hb cs (by simp [hcl]) (fun j u hu => by rw [add_of ad hsp]; exact hcell j u hu) (by omega) h1 ?_
      rw [hcl]
      refine h _ ⟨by simp; omega, _, c, rfl, .inr ⟨g', _, rfl, h0, setRow_heap w g' cur _ e _ hb, hnc, hcm, ?_, ?_⟩⟩ ⟨rfl, rfl, rfl, by simp, fun k _ hk => setRow_other w g' k _ (fun e => hk (by simp only [obl, hg]; rw [e]))⟩
      · simp only [List.size_toArray, List.length_append, List.length_take, List.length_drop, Array.length_toList]; omega
      · have hsize : cur.toList.length = c := by simp; omega
        rw [← ht, Nat.mul_one]
        generalize cur.toList = C at *
        have l1 : (C.take off).length = off := by rw [List.length_take]; omega
        rw [List.take_append, l1, List.take_of_length_le (by rw [l1]; omega), List.take_append, hcl, List.take_of_length_le (l := cs) (by omega), List.take_take, Nat.min_eq_left (by omega)]
        congr 2
        rw [List.drop_take]
        congr 1
        omega
end
end Go.Proofs.Ytddogcpakefdpaa
