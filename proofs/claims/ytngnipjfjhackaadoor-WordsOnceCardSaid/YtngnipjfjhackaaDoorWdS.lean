/- Words: Read, of a verb that is one. -/
import Derived.Test.YtngnipjfjhackaaDoorWdR
namespace Go.Proofs.YtngnipjfjhackaaDoor
open Go.RowKit Go.MapKept
set_option linter.unusedVariables false
set_option linter.unusedSimpArgs false
theorem find_len {v : ByteArray} {ks : List Wk} (h : findS v shapesL = some ks) : ks.length ≤ 3 := by
  have : ∀ (l : List (ByteArray × List Wk)), (∀ p ∈ l, p.2.length ≤ 3) → ∀ ks, findS v l = some ks → ks.length ≤ 3 := by
    intro l
    induction l with
    | nil => intro _ ks h; cases h
    | cons p l ih =>
      intro hl ks h
      unfold findS at h
      split at h
      · cases h; exact hl p List.mem_cons_self
      · exact ih (fun q hq => hl q (List.mem_cons_of_mem _ hq)) ks h
  exact this _ (by decide) _ h
theorem Own.at0 {w : World} {e size n : Nat} {v : Value} {xs : List Value} (h : Own w e size v n xs) (hn : 0 < n) : ∃ (sb c : Nat), v = .slice (some ⟨sb, 0, none⟩) n c ∧ ∀ (i : Nat) (u : Value), xs[i]? = some u → w.cell? ⟨sb, i, none⟩ = some u := by
  obtain ⟨hl, A, c, rfl, ⟨_, h0⟩ | ⟨g, cur, rfl, h0, hb, hnc, hcm, hsz, ht⟩⟩ := h
  · omega
  · refine ⟨g, c, rfl, fun j u hu => ?_⟩
    rw [hb.cell]
    rw [← ht, List.getElem?_take] at hu
    split at hu
    · simpa using hu
    · cases hu
theorem splitB_small (sep : ByteArray) : ∀ (k : Nat) (s : ByteArray), ∀ x ∈ Lib.splitB sep 0 k s, x.size ≤ s.size
  | 0, s, x, hx => by rw [Lib.splitB_zero] at hx; rw [List.mem_singleton.1 hx]; exact Nat.le_refl _
  | k + 1, s, x, hx => by
    unfold Lib.splitB at hx
    split at hx
    · rw [List.mem_singleton.1 hx]; exact Nat.le_refl _
    · rcases List.mem_cons.1 hx with rfl | hx
      · simp [ByteArray.size_extract]; omega
      · have := splitB_small sep k _ x hx
        simp [ByteArray.size_extract] at this
        omega
theorem parts_small {line v : ByteArray} {ps : List ByteArray} (hp : partsB line = v :: ps) {j : Nat} {s : ByteArray} (hs : ps[j]? = some s) : s.size ≤ line.size :=
  splitB_small _ _ _ s (by have := List.mem_of_getElem? hs; show s ∈ partsB line; rw [hp]; exact List.mem_cons_of_mem _ this)
theorem takes_cons (k : Wk) (ks : List Wk) (s : ByteArray) (ss : List ByteArray) (c : CmdM) : takes (k :: ks) (s :: ss) c = (takeK k c s).bind (takes ks ss) := rfl
theorem readR_none {line v : ByteArray} {ps : List ByteArray} {ks : List Wk} (hp : partsB line = v :: ps) (hk : findS v shapesL = some ks) (hl : ps.length = ks.length) (hs : line.size ≤ 80) (ht : takes ks ps (zeroC v) = none) : readR line = (zeroC ⟨#[]⟩, 80) := by
  have e : readM line = none := by
    unfold readM
    rw [hp]
    dsimp only
    rw [hk]
    dsimp only
    rw [if_pos ⟨hl, hs⟩]
    exact ht
  unfold readR
  rw [e]
theorem readR_some {line v : ByteArray} {ps : List ByteArray} {ks : List Wk} {c : CmdM} (hp : partsB line = v :: ps) (hk : findS v shapesL = some ks) (hl : ps.length = ks.length) (hs : line.size ≤ 80) (ht : takes ks ps (zeroC v) = some c) : readR line = (c, 0) := by
  have e : readM line = some c := by
    unfold readM
    rw [hp]
    dsimp only
    rw [hk]
    dsimp only
    rw [if_pos ⟨hl, hs⟩]
    exact ht
  unfold readR
  rw [e]
set_option maxHeartbeats 4000000 in
set_option maxRecDepth 100000 in
theorem read_found (line v : ByteArray) (ps : List ByteArray) (ks : List Wk) (hl : line.size ≤ 1000) (hp : partsB line = v :: ps) (hk : findS v shapesL = some ks) (w : World) (hv : VarsM w) :
    Calls Tryd.prog 8 #[.string line] w fun e w' => e = .returned (.tuple #[cmdV (readR line).1, .int .i64 (readR line).2]) ∧ Fr nob w w' := by
  obtain ⟨RC, RN, hR⟩ : ∃ RC RN, readR line = (RC, RN) := ⟨_, _, rfl⟩
  rw [hR]
  dsimp only
  have HR := hid hR
  have hk3 := find_len hk
  clear hR
  have HV := hid hv
  obtain ⟨W1, hW1⟩ : ∃ W1, W1 = w.alloc (.cells (cmdC (zeroC ⟨#[]⟩)) 28) := ⟨_, rfl⟩
  have B1 := hid (show Blk W1 w.heap.size 28 (cmdC (zeroC ⟨#[]⟩)) from by rw [hW1]; exact Blk.new w _ _)
  have F1 := hid (show Fr nob w W1 from by rw [hW1]; exact (Fr.refl nob w).alloc _)
  have HS := hid (split_line line hl W1 (hv.fr F1.out))
  rw [hp] at HS
  have HSH := hid (fun wx => shapes_any wx)
  have HK := hid hk
  unfold cmdC zeroC at hW1
  dsimp only at hW1
  have HP := hid hp
  clear hv hk hp
  obtain ⟨n, hn⟩ : ∃ n, n = ps.length := ⟨_, rfl⟩
  rw [show (v :: ps).length = n + 1 from by rw [hn]; rfl] at HS
  have HN := hid hn
  clear hn
  go_enter Tryd.func8, Tryd.ntmps8
  go_wp2_with fail
  rw [← hW1]
  clear hW1
  refine HS.out.mono ?_
  rintro e w2 ⟨rfl, rfl⟩
  have SP := hid (Blk.new W1 9 ((v :: ps).map Value.string).toArray)
  have F2 := hid (F1.out.alloc (.cells ((v :: ps).map Value.string).toArray 9))
  have B2 := hid (B1.out.alloc (.cells ((v :: ps).map Value.string).toArray 9))
  generalize hK : W1.heap.size = K at *
  clear hK HS
  generalize W1.alloc _ = w2 at *
  go_wp2_with fail
  have CK := hid (show ∀ wx : World, Fr nob w2 wx → wx.cell? ⟨K, 0, none⟩ = some (.string v) from fun wx f => by simpa using (SP.out.fr f (fun x => x)).cell 0)
  have k0 := CK.out _ (Fr.refl _ _)
  go_region_held3 (fun wx => wx.cell? ⟨K, 0, none⟩ = some (.string v)) (first | exact KN.out | go_keep)
    (first
      | (go_at_call 12; go_loud (refine (HSH.out _).mono ?_); go_loud (rintro e w3 ⟨b1, b2, b3, b4, r, E, rfl, hS⟩); go_loud (have F3 := hid ((Fr.refl nob w2).drew.tr hS.fr)); go_loud (have KN := hid (CK.out _ F3.out)); obtain ⟨sv, LK, hsv⟩ := (lookup_any hS v).2 ks HK.out; obtain ⟨SA, sc, rfl, _, _⟩ := hsv.cap; have SV := hid hsv; have G3 := hid hS.fr; have EV := hid hS.env; clear hS hsv))
  have B3 := hid (B2.out.fr ((Fr.refl nob w2).drew.tr G3.out) (fun x => x))
  have SP3 := hid (SP.out.fr ((Fr.refl nob w2).drew.tr G3.out) (fun x => x))
  have F4 := hid (F2.out.tr F3.out)
  have V4 := hid (HV.out.fr F4.out)
  clear LK k0 CK KN G3 F3 SP B2 F2 B1 F1 HSH
  obtain ⟨r0, r1, r2, r3, r4, r5, r6⟩ := CmdAt.froz (c := zeroC ⟨#[]⟩) B3.out
  obtain ⟨c0, c1, c2, c3, c4, c5, c6⟩ := CmdAt.cells (c := zeroC ⟨#[]⟩) B3.out
  dsimp only [zeroC] at c0 c1 c2 c3 c4 c5 c6
  have k1 : (ks.length : Int) + 1 ≤ 9223372036854775807 := by omega
  generalize hm : ks.length = m at *
  have HM := hid hm
  clear hm
  by_cases hlen : n = m
  · subst hlen
    by_cases hsz : line.size ≤ 80
    · have hsz2 : ¬ (80 : Int) < (line.size : Int) := by omega
      have HK3 := hid hk3
      have v0 : w3.cell? ⟨K, 0, none⟩ = some (.string v) := by simpa using SP3.out.cell 0
      clear c0 c1 c2 c3 c4 c5 c6 r0 r1 r2 r3 r4 r5 r6
      have C0 := hid (Blk.new w3 28 (cmdC (zeroC v)))
      have A0 := hid (show Fr nob w3 (w3.alloc (.cells (cmdC (zeroC v)) 28)) from (Fr.refl nob w3).alloc _)
      unfold cmdC zeroC at A0
      dsimp only at A0
      go_wp2_with fail
      obtain ⟨ao, af, bo, bf⟩ := E
      have S0 := hid (show RS w (w3.alloc (.cells (cmdC (zeroC v)) 28)) w.heap.size K w3.heap.size (v :: ps) (.slice SA n sc) ks ⟨ao, af, bo, bf⟩ (zeroC v) from
        ⟨F4.out.tr ((Fr.refl nob w3).alloc _), V4.out.fr ((Fr.refl nob w3).alloc _), B3.out.alloc _, SP3.out.alloc _, by rw [HM.out]; exact SV.out.alloc _, EV.out.fr ((Fr.refl nob w3).alloc _) (fun _ _ _ _ _ x => x), C0.out, fun e => by have := Blk.lt B3.out; omega, F4.out.size⟩)
      unfold cmdC zeroC at S0
      dsimp only at S0
      clear C0 A0 B3 SP3 SV EV V4 v0 F4
      generalize hg : w3.heap.size = g at *
      clear hg
      generalize w3.alloc _ = w5 at *
      have hn63 : (n : Int) ≤ 3 := by omega
      go_loopw [42] (fun i wr => ∃ (j : Nat) (c : CmdM), j ≤ n ∧ i = .int .i64 j ∧ Hid (RS w wr w.heap.size K g (v :: ps) (.slice SA n sc) ks ⟨ao, af, bo, bf⟩ c) ∧ Hid (takes ks ps (zeroC v) = takes (ks.drop j) (ps.drop j) c)) (fun i _ => n - (intOf i).toNat)
      case atStart => exact ⟨0, zeroC v, Nat.zero_le _, rfl, S0, hid rfl⟩
      case round =>
        clear S0
        obtain ⟨j, c, hj, rfl, S, T⟩ := hrel
        by_cases hlt : j < n
        · have hlt2 : (j : Int) < (n : Int) := by omega
          have hj6 : (j : Int) + 1 ≤ 9223372036854775807 := by omega
          have hlk : j < ks.length := by rw [HM.out]; exact hlt
          have hlp : j < ps.length := by rw [← HN.out]; exact hlt
          obtain ⟨k, hkj⟩ : ∃ k, ks[j]? = some k := ⟨_, List.getElem?_eq_getElem hlk⟩
          obtain ⟨s, hsj⟩ : ∃ s, ps[j]? = some s := ⟨_, List.getElem?_eq_getElem hlp⟩
          have hdk : ks.drop j = k :: ks.drop (j + 1) := by rw [List.drop_eq_getElem_cons hlk]; congr 1; exact Option.some.inj ((List.getElem?_eq_getElem hlk).symm.trans hkj)
          have hds : ps.drop j = s :: ps.drop (j + 1) := by rw [List.drop_eq_getElem_cons hlp]; congr 1; exact Option.some.inj ((List.getElem?_eq_getElem hlp).symm.trans hsj)
          have hT := T.out
          rw [hdk, hds] at hT
          rw [takes_cons] at hT
          have HT := hid hT
          obtain ⟨sb, sc2, hSA, hcell⟩ := S.out.shape.at0 (by omega)
          injection hSA with hSA e2 e3
          clear e2 e3
          subst hSA
          obtain ⟨g1, g2⟩ := cellsOf_get ⟨ao, af, bo, bf⟩ ks j k hkj
          have x0 := hcell _ _ g1
          have x1 := hcell _ _ g2
          have nsb : ¬ sb = wr.heap.size := by have := World.block_lt_of_cell? _ _ x0; intro e; subst e; exact absurd this (by show ¬ wr.heap.size < wr.heap.size; omega)
          have hss := parts_small HP.out hsj
          have HSS := hid (show s.size ≤ 281474976710656 by omega)
          have QS := hid (show ∀ wx : World, Fr nob wr wx → wx.cell? ⟨K, j + 1, none⟩ = some (.string s) from fun wx f => by
            have := (S.out.spb.fr f (fun x => x)).cell (j + 1)
            rw [this]; simp [hsj])
          clear hcell g1 g2 hkj hsj hdk hds hT hss hlk hlp T
          cases k with
          | a =>
            simp only [Env.put, Env.take, nameP, nameT, numP, numT, valP, valT] at x0 x1
            have XB := hid (Blk.new wr 47 #[.func (.func 28) #[] #[.pointer (some ⟨ao, 0, none⟩), .pointer (some ⟨af, 0, none⟩)], .func (.func 29) #[] #[.pointer (some ⟨ao, 0, none⟩), .pointer (some ⟨af, 0, none⟩)]])
            have S6 := hid (S.out.no (w' := wr.alloc (.cells #[.func (.func 28) #[] #[.pointer (some ⟨ao, 0, none⟩), .pointer (some ⟨af, 0, none⟩)], .func (.func 29) #[] #[.pointer (some ⟨ao, 0, none⟩), .pointer (some ⟨af, 0, none⟩)]] 47)) ((Fr.refl nob wr).alloc _))
            have q1 := QS.out (wr.alloc (.cells #[.func (.func 28) #[] #[.pointer (some ⟨ao, 0, none⟩), .pointer (some ⟨af, 0, none⟩)], .func (.func 29) #[] #[.pointer (some ⟨ao, 0, none⟩), .pointer (some ⟨af, 0, none⟩)]] 47)) ((Fr.refl nob wr).alloc _)
            have y1 : (wr.alloc (.cells #[.func (.func 28) #[] #[.pointer (some ⟨ao, 0, none⟩), .pointer (some ⟨af, 0, none⟩)], .func (.func 29) #[] #[.pointer (some ⟨ao, 0, none⟩), .pointer (some ⟨af, 0, none⟩)]] 47)).cell? ⟨wr.heap.size, 1, none⟩ = some (.func (.func 29) #[] #[.pointer (some ⟨ao, 0, none⟩), .pointer (some ⟨af, 0, none⟩)]) := by have e := XB.out.cell 1; rw [e]; rfl
            have HQ1 := hid q1
            have HY1 := hid y1
            have XG := hid (show wr.heap.size ≠ g from fun e => by have := Blk.lt S.out.cmd; omega)
            clear q1 y1 QS XB S
            go_wp2_with fail
            clear x0 x1 nsb
            generalize hX : wr.heap.size = X at *
            clear hX
            generalize wr.alloc _ = w6 at *
            have S7 := hid (S6.out.no (Fr.refl nob w6).drew)
            have LW := hid (takeAP (E := ⟨ao, af, bo, bf⟩) (s := s) S7.out.cmd S7.out.env)
            have y1 := HY1.out
            have q1 := HQ1.out
            clear HY1 HQ1
            unfold TakeP at LW
            have ix1 : (j : Int) + 1 < (n : Int) + 1 := by omega
            have ixw : IntKind.i64.wrap ((j : Int) + 1) = (j : Int) + 1 := IntWalk.i64_in _ (by omega)
            have ix2 : ((j : Int) + 1).toNat = j + 1 := by omega
            have ix3 : ¬ ((j : Int) + 1 < 0) := by omega
            have ix4 : (0 : Int) ≤ (j : Int) + 1 := by omega
            obtain ⟨ok, hok⟩ : ∃ ok, (takeK .a c s).isSome = ok := ⟨_, rfl⟩
            rw [hok] at LW
            have HOK := hid hok
            clear hok
            cases ok with
            | false =>
              go_region_held3 (fun wx => wx.cell? ⟨X, 1, none⟩ = some (.func (.func 29) #[] #[.pointer (some ⟨ao, 0, none⟩), .pointer (some ⟨af, 0, none⟩)]) ∧ wx.cell? ⟨K, j + 1, none⟩ = some (.string s)) (first | exact KN.out | go_keep)
                (first
                  | (go_at_call 29; go_loud (refine LW.out.mono ?_); go_loud (rintro e w8 ⟨rfl, ⟨c', hc', hC⟩, hf⟩); go_loud (have HC := hid hc'); go_loud (have S8 := hid (S7.out.take HV.out hf hC)); have KN := hid (And.intro (show w8.cell? ⟨X, 1, none⟩ = some (.func (.func 29) #[] #[.pointer (some ⟨ao, 0, none⟩), .pointer (some ⟨af, 0, none⟩)]) from by rw [hf.cell (p := ⟨X, 1, none⟩) (World.block_lt_of_cell? _ _ (show w6.drew.cell? ⟨X, 1, none⟩ = _ from y1)) (fun e => XG.out e)]; exact y1) (show w8.cell? ⟨K, j + 1, none⟩ = some (.string s) from by rw [hf.cell (p := ⟨K, j + 1, none⟩) (World.block_lt_of_cell? _ _ (show w6.drew.cell? ⟨K, j + 1, none⟩ = _ from q1)) (fun e => S7.out.spb.ne S7.out.cmd (by decide) e)]; exact q1)); clear hc' hC hf))
              clear y1 q1 KN LW S7 S6 ix1 ix2 ix3 ix4 ixw XG
              obtain ⟨r0, r1, r2, r3, r4, r5, r6⟩ := CmdAt.froz (c := zeroC ⟨#[]⟩) S8.out.resb
              obtain ⟨c0, c1, c2, c3, c4, c5, c6⟩ := CmdAt.cells (c := zeroC ⟨#[]⟩) S8.out.resb
              dsimp only [zeroC] at c0 c1 c2 c3 c4 c5 c6
              go_wp2_with fail
              have BF := hid (set_cmd (c := zeroC ⟨#[]⟩) S8.out.resb ⟨#[]⟩ ⟨#[]⟩ ⟨#[]⟩ 0 0 0 ⟨#[]⟩)
              have FF := hid (set_cmd_fr S8.out.fr (Nat.le_refl _) ⟨#[]⟩ ⟨#[]⟩ ⟨#[]⟩ 0 0 0 ⟨#[]⟩)
              clear c0 c1 c2 c3 c4 c5 c6 r0 r1 r2 r3 r4 r5 r6
              generalize ((((((w8.setCell _ _).setCell _ _).setCell _ _).setCell _ _).setCell _ _).setCell _ _).setCell _ _ = wf at *
              obtain ⟨c0, c1, c2, c3, c4, c5, c6⟩ := BF.out.cells
              dsimp only at c0 c1 c2 c3 c4 c5 c6
              refine bodyPost_ret (v := .tuple #[cmdV (zeroC ⟨#[]⟩), .int .i64 80]) (by simp [results, Tryd.results8, go_sem, cmdV, cmdC, zeroC, c0, c1, c2, c3, c4, c5, c6]; try rfl) rfl ⟨?_, FF.out⟩
              have hno : takeK .a c s = none := by
                have := HOK.out
                cases hh : takeK .a c s with
                | none => rfl
                | some y => rw [hh] at this; cases this
              have e := HR.out
              rw [readR_none HP.out HK.out (by rw [← HN.out, HM.out]) hsz (by rw [HT.out, hno]; rfl)] at e
              cases e
              rfl
            | true =>
              go_region_held3 (fun wx => wx.cell? ⟨X, 1, none⟩ = some (.func (.func 29) #[] #[.pointer (some ⟨ao, 0, none⟩), .pointer (some ⟨af, 0, none⟩)]) ∧ wx.cell? ⟨K, j + 1, none⟩ = some (.string s)) (first | exact KN.out | go_keep)
                (first
                  | (go_at_call 29; go_loud (refine LW.out.mono ?_); go_loud (rintro e w8 ⟨rfl, ⟨c', hc', hC⟩, hf⟩); go_loud (have HC := hid hc'); go_loud (have S8 := hid (S7.out.take HV.out hf hC)); have KN := hid (And.intro (show w8.cell? ⟨X, 1, none⟩ = some (.func (.func 29) #[] #[.pointer (some ⟨ao, 0, none⟩), .pointer (some ⟨af, 0, none⟩)]) from by rw [hf.cell (p := ⟨X, 1, none⟩) (World.block_lt_of_cell? _ _ (show w6.drew.cell? ⟨X, 1, none⟩ = _ from y1)) (fun e => XG.out e)]; exact y1) (show w8.cell? ⟨K, j + 1, none⟩ = some (.string s) from by rw [hf.cell (p := ⟨K, j + 1, none⟩) (World.block_lt_of_cell? _ _ (show w6.drew.cell? ⟨K, j + 1, none⟩ = _ from q1)) (fun e => S7.out.spb.ne S7.out.cmd (by decide) e)]; exact q1)); clear hc' hC hf))
              clear y1 q1 KN LW S7 S6 ix1 ix2 ix3 ix4 ixw XG
              have hyes : takeK .a c s = some c' := by
                have := HOK.out
                cases hh : takeK .a c s with
                | none => rw [hh] at this; cases this
                | some y => rw [HC.out y hh]
              have HT2 := hid (show takes ks ps (zeroC v) = takes (ks.drop (j + 1)) (ps.drop (j + 1)) c' by rw [HT.out, hyes]; rfl)
              clear hyes
              go_wp2_with fail
              go_roundw
              case rel => exact ⟨j + 1, c', by omega, by go_num, S8, HT2⟩
              case measure => simp [intOf]; omega
          | b =>
            simp only [Env.put, Env.take, nameP, nameT, numP, numT, valP, valT] at x0 x1
            have XB := hid (Blk.new wr 47 #[.func (.func 28) #[] #[.pointer (some ⟨bo, 0, none⟩), .pointer (some ⟨bf, 0, none⟩)], .func (.func 29) #[] #[.pointer (some ⟨bo, 0, none⟩), .pointer (some ⟨bf, 0, none⟩)]])
            have S6 := hid (S.out.no (w' := wr.alloc (.cells #[.func (.func 28) #[] #[.pointer (some ⟨bo, 0, none⟩), .pointer (some ⟨bf, 0, none⟩)], .func (.func 29) #[] #[.pointer (some ⟨bo, 0, none⟩), .pointer (some ⟨bf, 0, none⟩)]] 47)) ((Fr.refl nob wr).alloc _))
            have q1 := QS.out (wr.alloc (.cells #[.func (.func 28) #[] #[.pointer (some ⟨bo, 0, none⟩), .pointer (some ⟨bf, 0, none⟩)], .func (.func 29) #[] #[.pointer (some ⟨bo, 0, none⟩), .pointer (some ⟨bf, 0, none⟩)]] 47)) ((Fr.refl nob wr).alloc _)
            have y1 : (wr.alloc (.cells #[.func (.func 28) #[] #[.pointer (some ⟨bo, 0, none⟩), .pointer (some ⟨bf, 0, none⟩)], .func (.func 29) #[] #[.pointer (some ⟨bo, 0, none⟩), .pointer (some ⟨bf, 0, none⟩)]] 47)).cell? ⟨wr.heap.size, 1, none⟩ = some (.func (.func 29) #[] #[.pointer (some ⟨bo, 0, none⟩), .pointer (some ⟨bf, 0, none⟩)]) := by have e := XB.out.cell 1; rw [e]; rfl
            have HQ1 := hid q1
            have HY1 := hid y1
            have XG := hid (show wr.heap.size ≠ g from fun e => by have := Blk.lt S.out.cmd; omega)
            clear q1 y1 QS XB S
            go_wp2_with fail
            clear x0 x1 nsb
            generalize hX : wr.heap.size = X at *
            clear hX
            generalize wr.alloc _ = w6 at *
            have S7 := hid (S6.out.no (Fr.refl nob w6).drew)
            have LW := hid (takeBP (E := ⟨ao, af, bo, bf⟩) (s := s) S7.out.cmd S7.out.env)
            have y1 := HY1.out
            have q1 := HQ1.out
            clear HY1 HQ1
            unfold TakeP at LW
            have ix1 : (j : Int) + 1 < (n : Int) + 1 := by omega
            have ixw : IntKind.i64.wrap ((j : Int) + 1) = (j : Int) + 1 := IntWalk.i64_in _ (by omega)
            have ix2 : ((j : Int) + 1).toNat = j + 1 := by omega
            have ix3 : ¬ ((j : Int) + 1 < 0) := by omega
            have ix4 : (0 : Int) ≤ (j : Int) + 1 := by omega
            obtain ⟨ok, hok⟩ : ∃ ok, (takeK .b c s).isSome = ok := ⟨_, rfl⟩
            rw [hok] at LW
            have HOK := hid hok
            clear hok
            cases ok with
            | false =>
              go_region_held3 (fun wx => wx.cell? ⟨X, 1, none⟩ = some (.func (.func 29) #[] #[.pointer (some ⟨bo, 0, none⟩), .pointer (some ⟨bf, 0, none⟩)]) ∧ wx.cell? ⟨K, j + 1, none⟩ = some (.string s)) (first | exact KN.out | go_keep)
                (first
                  | (go_at_call 29; go_loud (refine LW.out.mono ?_); go_loud (rintro e w8 ⟨rfl, ⟨c', hc', hC⟩, hf⟩); go_loud (have HC := hid hc'); go_loud (have S8 := hid (S7.out.take HV.out hf hC)); have KN := hid (And.intro (show w8.cell? ⟨X, 1, none⟩ = some (.func (.func 29) #[] #[.pointer (some ⟨bo, 0, none⟩), .pointer (some ⟨bf, 0, none⟩)]) from by rw [hf.cell (p := ⟨X, 1, none⟩) (World.block_lt_of_cell? _ _ (show w6.drew.cell? ⟨X, 1, none⟩ = _ from y1)) (fun e => XG.out e)]; exact y1) (show w8.cell? ⟨K, j + 1, none⟩ = some (.string s) from by rw [hf.cell (p := ⟨K, j + 1, none⟩) (World.block_lt_of_cell? _ _ (show w6.drew.cell? ⟨K, j + 1, none⟩ = _ from q1)) (fun e => S7.out.spb.ne S7.out.cmd (by decide) e)]; exact q1)); clear hc' hC hf))
              clear y1 q1 KN LW S7 S6 ix1 ix2 ix3 ix4 ixw XG
              obtain ⟨r0, r1, r2, r3, r4, r5, r6⟩ := CmdAt.froz (c := zeroC ⟨#[]⟩) S8.out.resb
              obtain ⟨c0, c1, c2, c3, c4, c5, c6⟩ := CmdAt.cells (c := zeroC ⟨#[]⟩) S8.out.resb
              dsimp only [zeroC] at c0 c1 c2 c3 c4 c5 c6
              go_wp2_with fail
              have BF := hid (set_cmd (c := zeroC ⟨#[]⟩) S8.out.resb ⟨#[]⟩ ⟨#[]⟩ ⟨#[]⟩ 0 0 0 ⟨#[]⟩)
              have FF := hid (set_cmd_fr S8.out.fr (Nat.le_refl _) ⟨#[]⟩ ⟨#[]⟩ ⟨#[]⟩ 0 0 0 ⟨#[]⟩)
              clear c0 c1 c2 c3 c4 c5 c6 r0 r1 r2 r3 r4 r5 r6
              generalize ((((((w8.setCell _ _).setCell _ _).setCell _ _).setCell _ _).setCell _ _).setCell _ _).setCell _ _ = wf at *
              obtain ⟨c0, c1, c2, c3, c4, c5, c6⟩ := BF.out.cells
              dsimp only at c0 c1 c2 c3 c4 c5 c6
              refine bodyPost_ret (v := .tuple #[cmdV (zeroC ⟨#[]⟩), .int .i64 80]) (by simp [results, Tryd.results8, go_sem, cmdV, cmdC, zeroC, c0, c1, c2, c3, c4, c5, c6]; try rfl) rfl ⟨?_, FF.out⟩
              have hno : takeK .b c s = none := by
                have := HOK.out
                cases hh : takeK .b c s with
                | none => rfl
                | some y => rw [hh] at this; cases this
              have e := HR.out
              rw [readR_none HP.out HK.out (by rw [← HN.out, HM.out]) hsz (by rw [HT.out, hno]; rfl)] at e
              cases e
              rfl
            | true =>
              go_region_held3 (fun wx => wx.cell? ⟨X, 1, none⟩ = some (.func (.func 29) #[] #[.pointer (some ⟨bo, 0, none⟩), .pointer (some ⟨bf, 0, none⟩)]) ∧ wx.cell? ⟨K, j + 1, none⟩ = some (.string s)) (first | exact KN.out | go_keep)
                (first
                  | (go_at_call 29; go_loud (refine LW.out.mono ?_); go_loud (rintro e w8 ⟨rfl, ⟨c', hc', hC⟩, hf⟩); go_loud (have HC := hid hc'); go_loud (have S8 := hid (S7.out.take HV.out hf hC)); have KN := hid (And.intro (show w8.cell? ⟨X, 1, none⟩ = some (.func (.func 29) #[] #[.pointer (some ⟨bo, 0, none⟩), .pointer (some ⟨bf, 0, none⟩)]) from by rw [hf.cell (p := ⟨X, 1, none⟩) (World.block_lt_of_cell? _ _ (show w6.drew.cell? ⟨X, 1, none⟩ = _ from y1)) (fun e => XG.out e)]; exact y1) (show w8.cell? ⟨K, j + 1, none⟩ = some (.string s) from by rw [hf.cell (p := ⟨K, j + 1, none⟩) (World.block_lt_of_cell? _ _ (show w6.drew.cell? ⟨K, j + 1, none⟩ = _ from q1)) (fun e => S7.out.spb.ne S7.out.cmd (by decide) e)]; exact q1)); clear hc' hC hf))
              clear y1 q1 KN LW S7 S6 ix1 ix2 ix3 ix4 ixw XG
              have hyes : takeK .b c s = some c' := by
                have := HOK.out
                cases hh : takeK .b c s with
                | none => rw [hh] at this; cases this
                | some y => rw [HC.out y hh]
              have HT2 := hid (show takes ks ps (zeroC v) = takes (ks.drop (j + 1)) (ps.drop (j + 1)) c' by rw [HT.out, hyes]; rfl)
              clear hyes
              go_wp2_with fail
              go_roundw
              case rel => exact ⟨j + 1, c', by omega, by go_num, S8, HT2⟩
              case measure => simp [intOf]; omega
          | n =>
            simp only [Env.put, Env.take, nameP, nameT, numP, numT, valP, valT] at x0 x1
            have XB := hid (Blk.new wr 47 #[.func (.func 30) #[] #[], .func (.func 32) #[] #[]])
            have S6 := hid (S.out.no (w' := wr.alloc (.cells #[.func (.func 30) #[] #[], .func (.func 32) #[] #[]] 47)) ((Fr.refl nob wr).alloc _))
            have q1 := QS.out (wr.alloc (.cells #[.func (.func 30) #[] #[], .func (.func 32) #[] #[]] 47)) ((Fr.refl nob wr).alloc _)
            have y1 : (wr.alloc (.cells #[.func (.func 30) #[] #[], .func (.func 32) #[] #[]] 47)).cell? ⟨wr.heap.size, 1, none⟩ = some (.func (.func 32) #[] #[]) := by have e := XB.out.cell 1; rw [e]; rfl
            have HQ1 := hid q1
            have HY1 := hid y1
            have XG := hid (show wr.heap.size ≠ g from fun e => by have := Blk.lt S.out.cmd; omega)
            clear q1 y1 QS XB S
            go_wp2_with fail
            clear x0 x1 nsb
            generalize hX : wr.heap.size = X at *
            clear hX
            generalize wr.alloc _ = w6 at *
            have S7 := hid (S6.out.no (Fr.refl nob w6).drew)
            have LW := hid (takeNP (s := s) S7.out.cmd HSS.out S7.out.vars.v)
            have y1 := HY1.out
            have q1 := HQ1.out
            clear HY1 HQ1
            unfold TakeP at LW
            have ix1 : (j : Int) + 1 < (n : Int) + 1 := by omega
            have ixw : IntKind.i64.wrap ((j : Int) + 1) = (j : Int) + 1 := IntWalk.i64_in _ (by omega)
            have ix2 : ((j : Int) + 1).toNat = j + 1 := by omega
            have ix3 : ¬ ((j : Int) + 1 < 0) := by omega
            have ix4 : (0 : Int) ≤ (j : Int) + 1 := by omega
            obtain ⟨ok, hok⟩ : ∃ ok, (takeK .n c s).isSome = ok := ⟨_, rfl⟩
            rw [hok] at LW
            have HOK := hid hok
            clear hok
            cases ok with
            | false =>
              go_region_held3 (fun wx => wx.cell? ⟨X, 1, none⟩ = some (.func (.func 32) #[] #[]) ∧ wx.cell? ⟨K, j + 1, none⟩ = some (.string s)) (first | exact KN.out | go_keep)
                (first
                  | (go_at_call 32; go_loud (refine LW.out.mono ?_); go_loud (rintro e w8 ⟨rfl, ⟨c', hc', hC⟩, hf⟩); go_loud (have HC := hid hc'); go_loud (have S8 := hid (S7.out.take HV.out hf hC)); have KN := hid (And.intro (show w8.cell? ⟨X, 1, none⟩ = some (.func (.func 32) #[] #[]) from by rw [hf.cell (p := ⟨X, 1, none⟩) (World.block_lt_of_cell? _ _ (show w6.drew.cell? ⟨X, 1, none⟩ = _ from y1)) (fun e => XG.out e)]; exact y1) (show w8.cell? ⟨K, j + 1, none⟩ = some (.string s) from by rw [hf.cell (p := ⟨K, j + 1, none⟩) (World.block_lt_of_cell? _ _ (show w6.drew.cell? ⟨K, j + 1, none⟩ = _ from q1)) (fun e => S7.out.spb.ne S7.out.cmd (by decide) e)]; exact q1)); clear hc' hC hf))
              clear y1 q1 KN LW S7 S6 ix1 ix2 ix3 ix4 ixw XG
              obtain ⟨r0, r1, r2, r3, r4, r5, r6⟩ := CmdAt.froz (c := zeroC ⟨#[]⟩) S8.out.resb
              obtain ⟨c0, c1, c2, c3, c4, c5, c6⟩ := CmdAt.cells (c := zeroC ⟨#[]⟩) S8.out.resb
              dsimp only [zeroC] at c0 c1 c2 c3 c4 c5 c6
              go_wp2_with fail
              have BF := hid (set_cmd (c := zeroC ⟨#[]⟩) S8.out.resb ⟨#[]⟩ ⟨#[]⟩ ⟨#[]⟩ 0 0 0 ⟨#[]⟩)
              have FF := hid (set_cmd_fr S8.out.fr (Nat.le_refl _) ⟨#[]⟩ ⟨#[]⟩ ⟨#[]⟩ 0 0 0 ⟨#[]⟩)
              clear c0 c1 c2 c3 c4 c5 c6 r0 r1 r2 r3 r4 r5 r6
              generalize ((((((w8.setCell _ _).setCell _ _).setCell _ _).setCell _ _).setCell _ _).setCell _ _).setCell _ _ = wf at *
              obtain ⟨c0, c1, c2, c3, c4, c5, c6⟩ := BF.out.cells
              dsimp only at c0 c1 c2 c3 c4 c5 c6
              refine bodyPost_ret (v := .tuple #[cmdV (zeroC ⟨#[]⟩), .int .i64 80]) (by simp [results, Tryd.results8, go_sem, cmdV, cmdC, zeroC, c0, c1, c2, c3, c4, c5, c6]; try rfl) rfl ⟨?_, FF.out⟩
              have hno : takeK .n c s = none := by
                have := HOK.out
                cases hh : takeK .n c s with
                | none => rfl
                | some y => rw [hh] at this; cases this
              have e := HR.out
              rw [readR_none HP.out HK.out (by rw [← HN.out, HM.out]) hsz (by rw [HT.out, hno]; rfl)] at e
              cases e
              rfl
            | true =>
              go_region_held3 (fun wx => wx.cell? ⟨X, 1, none⟩ = some (.func (.func 32) #[] #[]) ∧ wx.cell? ⟨K, j + 1, none⟩ = some (.string s)) (first | exact KN.out | go_keep)
                (first
                  | (go_at_call 32; go_loud (refine LW.out.mono ?_); go_loud (rintro e w8 ⟨rfl, ⟨c', hc', hC⟩, hf⟩); go_loud (have HC := hid hc'); go_loud (have S8 := hid (S7.out.take HV.out hf hC)); have KN := hid (And.intro (show w8.cell? ⟨X, 1, none⟩ = some (.func (.func 32) #[] #[]) from by rw [hf.cell (p := ⟨X, 1, none⟩) (World.block_lt_of_cell? _ _ (show w6.drew.cell? ⟨X, 1, none⟩ = _ from y1)) (fun e => XG.out e)]; exact y1) (show w8.cell? ⟨K, j + 1, none⟩ = some (.string s) from by rw [hf.cell (p := ⟨K, j + 1, none⟩) (World.block_lt_of_cell? _ _ (show w6.drew.cell? ⟨K, j + 1, none⟩ = _ from q1)) (fun e => S7.out.spb.ne S7.out.cmd (by decide) e)]; exact q1)); clear hc' hC hf))
              clear y1 q1 KN LW S7 S6 ix1 ix2 ix3 ix4 ixw XG
              have hyes : takeK .n c s = some c' := by
                have := HOK.out
                cases hh : takeK .n c s with
                | none => rw [hh] at this; cases this
                | some y => rw [HC.out y hh]
              have HT2 := hid (show takes ks ps (zeroC v) = takes (ks.drop (j + 1)) (ps.drop (j + 1)) c' by rw [HT.out, hyes]; rfl)
              clear hyes
              go_wp2_with fail
              go_roundw
              case rel => exact ⟨j + 1, c', by omega, by go_num, S8, HT2⟩
              case measure => simp [intOf]; omega
          | v =>
            simp only [Env.put, Env.take, nameP, nameT, numP, numT, valP, valT] at x0 x1
            have XB := hid (Blk.new wr 47 #[.func (.func 34) #[] #[], .func (.func 37) #[] #[]])
            have S6 := hid (S.out.no (w' := wr.alloc (.cells #[.func (.func 34) #[] #[], .func (.func 37) #[] #[]] 47)) ((Fr.refl nob wr).alloc _))
            have q1 := QS.out (wr.alloc (.cells #[.func (.func 34) #[] #[], .func (.func 37) #[] #[]] 47)) ((Fr.refl nob wr).alloc _)
            have y1 : (wr.alloc (.cells #[.func (.func 34) #[] #[], .func (.func 37) #[] #[]] 47)).cell? ⟨wr.heap.size, 1, none⟩ = some (.func (.func 37) #[] #[]) := by have e := XB.out.cell 1; rw [e]; rfl
            have HQ1 := hid q1
            have HY1 := hid y1
            have XG := hid (show wr.heap.size ≠ g from fun e => by have := Blk.lt S.out.cmd; omega)
            clear q1 y1 QS XB S
            go_wp2_with fail
            clear x0 x1 nsb
            generalize hX : wr.heap.size = X at *
            clear hX
            generalize wr.alloc _ = w6 at *
            have S7 := hid (S6.out.no (Fr.refl nob w6).drew)
            have LW := hid (takeVP (s := s) S7.out.cmd HSS.out S7.out.vars.v)
            have y1 := HY1.out
            have q1 := HQ1.out
            clear HY1 HQ1
            unfold TakeP at LW
            have ix1 : (j : Int) + 1 < (n : Int) + 1 := by omega
            have ixw : IntKind.i64.wrap ((j : Int) + 1) = (j : Int) + 1 := IntWalk.i64_in _ (by omega)
            have ix2 : ((j : Int) + 1).toNat = j + 1 := by omega
            have ix3 : ¬ ((j : Int) + 1 < 0) := by omega
            have ix4 : (0 : Int) ≤ (j : Int) + 1 := by omega
            obtain ⟨ok, hok⟩ : ∃ ok, (takeK .v c s).isSome = ok := ⟨_, rfl⟩
            rw [hok] at LW
            have HOK := hid hok
            clear hok
            cases ok with
            | false =>
              go_region_held3 (fun wx => wx.cell? ⟨X, 1, none⟩ = some (.func (.func 37) #[] #[]) ∧ wx.cell? ⟨K, j + 1, none⟩ = some (.string s)) (first | exact KN.out | go_keep)
                (first
                  | (go_at_call 37; go_loud (refine LW.out.mono ?_); go_loud (rintro e w8 ⟨rfl, ⟨c', hc', hC⟩, hf⟩); go_loud (have HC := hid hc'); go_loud (have S8 := hid (S7.out.take HV.out hf hC)); have KN := hid (And.intro (show w8.cell? ⟨X, 1, none⟩ = some (.func (.func 37) #[] #[]) from by rw [hf.cell (p := ⟨X, 1, none⟩) (World.block_lt_of_cell? _ _ (show w6.drew.cell? ⟨X, 1, none⟩ = _ from y1)) (fun e => XG.out e)]; exact y1) (show w8.cell? ⟨K, j + 1, none⟩ = some (.string s) from by rw [hf.cell (p := ⟨K, j + 1, none⟩) (World.block_lt_of_cell? _ _ (show w6.drew.cell? ⟨K, j + 1, none⟩ = _ from q1)) (fun e => S7.out.spb.ne S7.out.cmd (by decide) e)]; exact q1)); clear hc' hC hf))
              clear y1 q1 KN LW S7 S6 ix1 ix2 ix3 ix4 ixw XG
              obtain ⟨r0, r1, r2, r3, r4, r5, r6⟩ := CmdAt.froz (c := zeroC ⟨#[]⟩) S8.out.resb
              obtain ⟨c0, c1, c2, c3, c4, c5, c6⟩ := CmdAt.cells (c := zeroC ⟨#[]⟩) S8.out.resb
              dsimp only [zeroC] at c0 c1 c2 c3 c4 c5 c6
              go_wp2_with fail
              have BF := hid (set_cmd (c := zeroC ⟨#[]⟩) S8.out.resb ⟨#[]⟩ ⟨#[]⟩ ⟨#[]⟩ 0 0 0 ⟨#[]⟩)
              have FF := hid (set_cmd_fr S8.out.fr (Nat.le_refl _) ⟨#[]⟩ ⟨#[]⟩ ⟨#[]⟩ 0 0 0 ⟨#[]⟩)
              clear c0 c1 c2 c3 c4 c5 c6 r0 r1 r2 r3 r4 r5 r6
              generalize ((((((w8.setCell _ _).setCell _ _).setCell _ _).setCell _ _).setCell _ _).setCell _ _).setCell _ _ = wf at *
              obtain ⟨c0, c1, c2, c3, c4, c5, c6⟩ := BF.out.cells
              dsimp only at c0 c1 c2 c3 c4 c5 c6
              refine bodyPost_ret (v := .tuple #[cmdV (zeroC ⟨#[]⟩), .int .i64 80]) (by simp [results, Tryd.results8, go_sem, cmdV, cmdC, zeroC, c0, c1, c2, c3, c4, c5, c6]; try rfl) rfl ⟨?_, FF.out⟩
              have hno : takeK .v c s = none := by
                have := HOK.out
                cases hh : takeK .v c s with
                | none => rfl
                | some y => rw [hh] at this; cases this
              have e := HR.out
              rw [readR_none HP.out HK.out (by rw [← HN.out, HM.out]) hsz (by rw [HT.out, hno]; rfl)] at e
              cases e
              rfl
            | true =>
              go_region_held3 (fun wx => wx.cell? ⟨X, 1, none⟩ = some (.func (.func 37) #[] #[]) ∧ wx.cell? ⟨K, j + 1, none⟩ = some (.string s)) (first | exact KN.out | go_keep)
                (first
                  | (go_at_call 37; go_loud (refine LW.out.mono ?_); go_loud (rintro e w8 ⟨rfl, ⟨c', hc', hC⟩, hf⟩); go_loud (have HC := hid hc'); go_loud (have S8 := hid (S7.out.take HV.out hf hC)); have KN := hid (And.intro (show w8.cell? ⟨X, 1, none⟩ = some (.func (.func 37) #[] #[]) from by rw [hf.cell (p := ⟨X, 1, none⟩) (World.block_lt_of_cell? _ _ (show w6.drew.cell? ⟨X, 1, none⟩ = _ from y1)) (fun e => XG.out e)]; exact y1) (show w8.cell? ⟨K, j + 1, none⟩ = some (.string s) from by rw [hf.cell (p := ⟨K, j + 1, none⟩) (World.block_lt_of_cell? _ _ (show w6.drew.cell? ⟨K, j + 1, none⟩ = _ from q1)) (fun e => S7.out.spb.ne S7.out.cmd (by decide) e)]; exact q1)); clear hc' hC hf))
              clear y1 q1 KN LW S7 S6 ix1 ix2 ix3 ix4 ixw XG
              have hyes : takeK .v c s = some c' := by
                have := HOK.out
                cases hh : takeK .v c s with
                | none => rw [hh] at this; cases this
                | some y => rw [HC.out y hh]
              have HT2 := hid (show takes ks ps (zeroC v) = takes (ks.drop (j + 1)) (ps.drop (j + 1)) c' by rw [HT.out, hyes]; rfl)
              clear hyes
              go_wp2_with fail
              go_roundw
              case rel => exact ⟨j + 1, c', by omega, by go_num, S8, HT2⟩
              case measure => simp [intOf]; omega
        · have hlt2 : ¬ (j : Int) < (n : Int) := by omega
          have hjn : j = n := by omega
          subst hjn
          obtain ⟨r0, r1, r2, r3, r4, r5, r6⟩ := CmdAt.froz (c := zeroC ⟨#[]⟩) S.out.resb
          obtain ⟨c0, c1, c2, c3, c4, c5, c6⟩ := CmdAt.cells (c := zeroC ⟨#[]⟩) S.out.resb
          dsimp only [zeroC] at c0 c1 c2 c3 c4 c5 c6
          obtain ⟨d0, d1, d2, d3, d4, d5, d6⟩ := S.out.cmd.cells
          have HT := hid (show takes ks ps (zeroC v) = some c by
            have e1 := T.out
            rw [List.drop_eq_nil_of_le (by rw [HM.out]; exact Nat.le_refl _)] at e1
            rw [e1]; rfl)
          clear hlt T
          go_wp2_with fail
          have BF := hid (set_cmd (c := zeroC ⟨#[]⟩) S.out.resb c.verb c.a c.b c.n c.t c.vn c.vs)
          have FF := hid (set_cmd_fr S.out.fr (Nat.le_refl _) c.verb c.a c.b c.n c.t c.vn c.vs)
          clear c0 c1 c2 c3 c4 c5 c6 r0 r1 r2 r3 r4 r5 r6 d0 d1 d2 d3 d4 d5 d6
          generalize ((((((wr.setCell _ _).setCell _ _).setCell _ _).setCell _ _).setCell _ _).setCell _ _).setCell _ _ = wf at *
          obtain ⟨c0, c1, c2, c3, c4, c5, c6⟩ := BF.out.cells
          dsimp only at c0 c1 c2 c3 c4 c5 c6
          refine bodyPost_ret (v := .tuple #[cmdV c, .int .i64 0]) (by simp [results, Tryd.results8, go_sem, cmdV, cmdC, c0, c1, c2, c3, c4, c5, c6]; try rfl) rfl ⟨?_, FF.out⟩
          have e := HR.out
          rw [readR_some HP.out HK.out (by rw [← HN.out, HM.out]) hsz HT.out] at e
          cases e
          rfl
    · have hsz2 : (80 : Int) < (line.size : Int) := by omega
      go_wp2_with fail
      have BF := hid (set_cmd (c := zeroC ⟨#[]⟩) B3.out ⟨#[]⟩ ⟨#[]⟩ ⟨#[]⟩ 0 0 0 ⟨#[]⟩)
      have FF := hid (set_cmd_fr F4.out (Nat.le_refl _) ⟨#[]⟩ ⟨#[]⟩ ⟨#[]⟩ 0 0 0 ⟨#[]⟩)
      clear c0 c1 c2 c3 c4 c5 c6 r0 r1 r2 r3 r4 r5 r6
      generalize ((((((w3.setCell _ _).setCell _ _).setCell _ _).setCell _ _).setCell _ _).setCell _ _).setCell _ _ = wf at *
      obtain ⟨c0, c1, c2, c3, c4, c5, c6⟩ := BF.out.cells
      dsimp only at c0 c1 c2 c3 c4 c5 c6
      refine bodyPost_ret (v := .tuple #[cmdV (zeroC ⟨#[]⟩), .int .i64 80]) (by simp [results, Tryd.results8, go_sem, cmdV, cmdC, zeroC, c0, c1, c2, c3, c4, c5, c6]; try rfl) rfl ⟨?_, FF.out⟩
      have e := HR.out
      unfold readR readM at e
      rw [HP.out] at e
      dsimp only at e
      rw [HK.out] at e
      dsimp only at e
      rw [if_neg (by rw [← HN.out, HM.out]; omega)] at e
      cases e
      rfl
  · have hlen2 : ¬ (n : Int) = (m : Int) := by omega
    go_wp2_with fail
    have BF := hid (set_cmd (c := zeroC ⟨#[]⟩) B3.out ⟨#[]⟩ ⟨#[]⟩ ⟨#[]⟩ 0 0 0 ⟨#[]⟩)
    have FF := hid (set_cmd_fr F4.out (Nat.le_refl _) ⟨#[]⟩ ⟨#[]⟩ ⟨#[]⟩ 0 0 0 ⟨#[]⟩)
    clear c0 c1 c2 c3 c4 c5 c6 r0 r1 r2 r3 r4 r5 r6
    generalize ((((((w3.setCell _ _).setCell _ _).setCell _ _).setCell _ _).setCell _ _).setCell _ _).setCell _ _ = wf at *
    obtain ⟨c0, c1, c2, c3, c4, c5, c6⟩ := BF.out.cells
    dsimp only at c0 c1 c2 c3 c4 c5 c6
    refine bodyPost_ret (v := .tuple #[cmdV (zeroC ⟨#[]⟩), .int .i64 80]) (by simp [results, Tryd.results8, go_sem, cmdV, cmdC, zeroC, c0, c1, c2, c3, c4, c5, c6]; try rfl) rfl ⟨?_, FF.out⟩
    have e := HR.out
    unfold readR readM at e
    rw [HP.out] at e
    dsimp only at e
    rw [HK.out] at e
    dsimp only at e
    rw [if_neg (by rw [← HN.out, HM.out]; omega)] at e
    cases e
    rfl
end Go.Proofs.YtngnipjfjhackaaDoor
