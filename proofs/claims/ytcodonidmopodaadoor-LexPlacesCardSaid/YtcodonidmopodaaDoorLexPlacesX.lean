/- LexPlaces: the walk. -/
import Derived.Test.YtcodonidmopodaaDoorLexPlacesW
import Derived.Test.YtcodonidmopodaaDoorLexTakes
namespace Go.Proofs.YtcodonidmopodaaDoor
open Go.RowKit
set_option linter.unusedVariables false
set_option linter.unusedSimpArgs false

/-- The place of what is refused. -/
theorem lex_bad_le : ∀ (n : Nat) (l : List UInt8) (p : Nat), l.length ≤ n → ∀ i e, lexFrom l p = .bad i e → i ≤ p + l.length := by
  intro n
  induction n with
  | zero =>
    intro l p h i e hb
    have : l = [] := List.eq_nil_of_length_eq_zero (by omega)
    subst this
    rw [lex_nil] at hb; cases hb
  | succ n ih =>
    intro l p h i e
    refine lex_step (Mo := fun l p => l.length ≤ n + 1 → lexFrom l p = .bad i e → i ≤ p + l.length) l p ?_ ?_ ?_ ?_ ?_ h
    · intro _ _ hl; rw [lex_nil] at hl; cases hl
    · intro h0 hb h hl
      rw [lex_blank h0 hb] at hl
      have := ih _ _ (by rw [List.length_drop]; omega) _ _ hl
      rw [List.length_drop] at this; omega
    · intro h0 hb hr h1 h hl
      have hle := runN_le lineI l
      rw [lex_remark h0 hb hr] at hl
      have := ih _ _ (by rw [List.length_drop]; omega) _ _ hl
      rw [List.length_drop] at this; omega
    · intro e' h0 hb hr hf h hl
      rw [lex_err h0 hb hr hf] at hl
      injection hl with h1 h2
      omega
    · intro k o m n' h0 hb hr hf h hl
      obtain ⟨hn1, hn2, hom⟩ := firstM_ok h0 hf
      rw [lex_ok h0 hb hr hf] at hl
      cases hx : lexFrom (l.drop n') (p + n') with
      | good K => rw [hx] at hl; cases hl
      | bad i' e' =>
        rw [hx] at hl
        injection hl with e1 e2
        subst e1
        have := ih _ _ (by rw [List.length_drop]; omega) _ _ hx
        rw [List.length_drop] at this; omega
theorem lexM_bad_le {l : List UInt8} {i e : Nat} (h : lexM l = .bad i e) : i ≤ l.length := by
  unfold lexM at h
  split at h
  · injection h with h _; omega
  · have := lex_bad_le _ _ _ (Nat.le_refl _) _ _ h; omega
theorem till_from (t : Tok) : t.till = if t.kind = 2 then t.from + t.text.length + 1 else t.from + t.text.length := by
  unfold Tok.till Tok.from
  split <;> omega
theorem ext_bs (s : ByteArray) (a m : Nat) (tx : List UInt8) (h : (s.data.toList.drop a).take m = tx) : s.extract a (a + m) = bs tx := by
  rw [← bs_data (s.extract a (a + m)), Lib.extract_data, show a + m - a = m by omega, h]

theorem byteAt_take' (l : List UInt8) {n k : Nat} (h : k < n) : byteAt (l.take n) k = byteAt l k := by
  unfold byteAt
  rw [List.getD, List.getD, List.getElem?_take, if_pos h]

set_option maxHeartbeats 16000000 in
set_option maxRecDepth 100000 in
theorem places_walk (s : ByteArray) (hs : s.size ≤ 281474976710656) (w : World) (hv : Vars w) :
    Calls Tryd.prog 3 #[.string s] w fun e w' => e = .returned (.bool true) ∧ Fr nob w w' := by
  have V := hid hv
  clear hv
  have hsh := fun w' => short_any s hs w'
  have hts : (cutS s 700).size ≤ 700 := (cutS_size s 700).1
  generalize cutS s 700 = t at *
  have HSH := hid hsh
  have htl : t.data.toList.length = t.size := by simp
  have HTL := hid htl
  obtain ⟨r, hr⟩ : ∃ r, lexM t.data.toList = r := ⟨_, rfl⟩
  have hA := fun w' hv' => all_any t w' (by omega) hv'
  rw [hr] at hA
  have R := hid hr
  have HA := hid hA
  clear hr hsh hA htl
  cases r with
  | bad p e =>
    have he : 1 ≤ e := lexM_bad R.out
    have he2 : ((e : Int) != 0) = true := by simp; omega
    have hp := lexM_bad_le R.out
    rw [HTL.out] at hp
    have hp2 : (p : Int) ≤ (t.size : Int) := by omega
    have hp3 : (0 : Int) ≤ (p : Int) := by omega
    clear he hp
    go_enter Tryd.func3, Tryd.ntmps3
    go_wp2_with (first | (go_at_call 11; go_must (refine (shown_any _ V.out).mono ?_; rintro e w1 ⟨rfl, hf⟩; have F1 := hid hf; clear hf)) | (go_at_call 12; go_must (refine (HSH.out _).mono ?_; rintro e w3 ⟨rfl, rfl⟩)) | (go_at_call 13; go_must (refine (HA.out _ (V.out.fr F1.out)).mono ?_; rintro e w2 ⟨rfl, hf2⟩; have F2 := hid hf2; clear hf2)))
    go_ret
    exact ⟨rfl, F1.out.tr F2.out⟩
  | good K =>
    have TK := hid trivial
    obtain ⟨h6, hP⟩ := lex_placed R.out
    rw [HTL.out] at h6
    have P := hid hP
    clear hP
    obtain ⟨hK0, hKe⟩ := P.out.end_
    rw [HTL.out] at hKe
    have HK := hid hK0
    have KE := hid hKe
    clear hK0 hKe
    go_enter Tryd.func3, Tryd.ntmps3
    go_upto_region 6 with (first | (go_at_call 11; go_must (refine (shown_any _ V.out).mono ?_; rintro e w1 ⟨rfl, hf⟩; have F1 := hid hf; clear hf)) | (go_at_call 12; go_must (refine (HSH.out _).mono ?_; rintro e w3 ⟨rfl, rfl⟩)) | (go_at_call 13; clear TK; go_must (refine (HA.out _ (V.out.fr F1.out)).mono ?_; rintro e w2 ⟨⟨v, rfl, ht⟩, hf2⟩; obtain ⟨A, c9, rfl, hc1, hc2⟩ := ht.slice; have hK6 : K.length ≤ 9223372036854775807 := Nat.le_trans (Nat.le_trans hc1 hc2) (by decide); have TA := hid ht; have F2 := hid hf2; clear hf2 ht hc1)))
    obtain ⟨g1, rfl, hg1, hg1w, hat1⟩ := TA.out.some HK.out
    have H1 := hid hat1
    have hL := hat1 (K.length - 1) _ KE.out
    clear hat1
    obtain ⟨z0, z1, z2⟩ := hL
    have hK1 : (1 : Int) ≤ (K.length : Int) := by have := HK.out; omega
    have hK7 : (K.length : Int) ≤ 9223372036854775807 := by omega
    have hnz : ((K.length : Int) == 0) = false := by have := HK.out; exact beq_eq_false_iff_ne.2 (by omega)
    obtain ⟨kl, hkl⟩ : ∃ kl, K.length - 1 = kl := ⟨_, rfl⟩
    rw [hkl] at z0 z1 z2
    have hkl2 : (K.length : Int) - 1 = (kl : Int) := by omega
    have hkl3 : (kl : Int) < (K.length : Int) := by omega
    rw [show bs [] = (⟨#[]⟩ : ByteArray) from rfl] at z1
    go_wp2
    clear z0 z1 z2 hkl2 hkl3 hkl hnz
    go_loopw [7, 8] (fun s7 i w' => ∃ n e : Nat, n + 1 ≤ K.length ∧ s7 = .int .i64 e ∧ i = .int .i64 n ∧ e ≤ 700 ∧ Hid (∀ tk, K[n]? = some tk → e ≤ tk.place) ∧ Hid (Fr nob w2 w')) (fun _ i _ => K.length - (intOf i).toNat)
    case atStart => exact ⟨0, 0, HK.out, rfl, rfl, by omega, hid (fun _ _ => Nat.zero_le _), hid (by first | exact Fr.refl nob w2 | exact (Fr.refl nob w2).drewN _)⟩
    case round =>
      obtain ⟨n, e, hn, rfl, rfl, he7, HE, F5⟩ := hrel
      by_cases hlt : n + 1 < K.length
      · have hlt1 : (n : Int) < (K.length : Int) - 1 := by omega
        have hlt2 : (n : Int) < (K.length : Int) := by omega
        have hlt3 : (n : Int) + 1 < (K.length : Int) := by omega
        obtain ⟨tk, tk', htk, htk', hat, htill, hpl', hgap⟩ := P.out.at_ n hlt
        rw [HTL.out] at hpl'
        have hE := HE.out tk htk
        obtain ⟨x0, x1, x2⟩ := H1.out n tk htk
        obtain ⟨y0, y1, y2⟩ := H1.out (n + 1) tk' htk'
        have x0 := (F5.out.cell hg1w (fun x => x)).trans x0
        have x1 := (F5.out.cell hg1w (fun x => x)).trans x1
        have x2 := (F5.out.cell hg1w (fun x => x)).trans x2
        have y2 := (F5.out.cell hg1w (fun x => x)).trans y2
        clear y0 y1
        have hroom := hat.room
        rw [HTL.out] at hroom
        have hk0 : ((tk.kind : Int) == 0) = false := beq_eq_false_iff_ne.2 (by have := hat.kind.1; omega)
        have hkw := hat.word
        have hex := ext_bs t tk.from tk.text.length tk.text hat.text
        have htt : (bs tk.text).size = tk.text.length := bs_len _
        have hgapk : ∀ j, tk.till + j < tk'.place → (∀ i, i < j → byteAt t.data.toList (tk.till + i) ≠ 47) → byteAt t.data.toList (tk.till + j) = 47 ∨ blankI (byteAt t.data.toList (tk.till + j)) = true :=
          fun j h1 h2 => hgap (tk.till + j) (by omega) h1 (fun i h3 h4 => by (have := h2 (i - tk.till) (by omega)); rwa [show tk.till + (i - tk.till) = i by omega] at this)
        have hEn : ∀ u, K[n + 1]? = some u → tk.till ≤ u.place := fun u hu => by
          rw [htk'] at hu
          injection hu with hu
          subst hu
          exact htill
        have hWd := fun w' hv' => word_any (bs tk.text) w' hv'
        rw [show (bs tk.text).data.toList = tk.text from rfl] at hWd
        have hw5 := hg1w
        have hgw : g1 < wr.heap.size := Nat.lt_of_lt_of_le hg1w F5.out.size
        have hpl7 : (tk'.place : Int) ≤ (t.size : Int) := by omega
        by_cases hk : tk.kind = 2
        · have hk2 : ((tk.kind : Int) == 2) = true := by rw [hk]; rfl
          have hk2n : ((tk.kind : Int) != 2) = false := by rw [hk]; rfl
          have hk4 : ((tk.kind : Int) == 4) = false := by rw [hk]; rfl
          have hf : tk.from = tk.place + 1 := by unfold Tok.from; rw [if_pos hk]
          have htl2 : tk.till = tk.place + 1 + tk.text.length + 1 := by unfold Tok.till; rw [if_pos hk]
          rw [hf] at hroom hex
          rw [htl2] at htill hgapk hEn
          rw [← htt] at hroom hex htill hgapk hEn
          have he1 : (e : Int) ≤ (tk.place : Int) := by omega
          have he2 : (tk.place : Int) + 1 + ((bs tk.text).size : Int) ≤ (t.size : Int) := by omega
          have he3 : (tk.place : Int) + 1 + ((bs tk.text).size : Int) + 1 ≤ (tk'.place : Int) := by omega
          have GP := hid hgapk
          have EN := hid hEn
          have HW := hid hWd
          clear hgap hgapk hEn hWd htt hf htl2 hkw hk hat htk htk' hlt
          generalize wordB tk.text = wb at *
          generalize bs tk.text = tt at *
          obtain ⟨gp, hgp⟩ : ∃ gp, t.extract (tk.place + 1 + tt.size + 1) tk'.place = gp := ⟨_, rfl⟩
          have hgs : gp.size = tk'.place - (tk.place + 1 + tt.size + 1) := by
            rw [← hgp]; simp; omega
          have hge : ∀ j, j < gp.size → byteAt gp.data.toList j = byteAt t.data.toList (tk.place + 1 + tt.size + 1 + j) := fun j hj => by
            rw [← hgp, Lib.extract_data, byteAt_take' _ (by omega), byteAt_drop]
          have GPK := hid (show ∀ k, k < gp.size → (∀ j, j < k → byteAt gp.data.toList j ≠ 47) → byteAt gp.data.toList k = 47 ∨ blankI (byteAt gp.data.toList k) = true from fun k hk h => by
            rw [hge k hk]
            exact GP.out k (by omega) (fun i hi => by (have := h i hi); rwa [hge i (by omega)] at this))
          have hg7 : gp.size ≤ 700 := by omega
          have HGP := hid hgp
          clear hgs hge hgp
          go_upto_region 17 with fail
          have C0 := hid (show (wr.alloc (.cells #[.int .i64 tk.kind, .string tt, .int .i64 tk.place] 29)).cell? ⟨wr.heap.size, 0, none⟩ = some (.int .i64 tk.kind) from (Blk.new wr 29 _).cell 0)
          have C1 := hid (show (wr.alloc (.cells #[.int .i64 tk.kind, .string tt, .int .i64 tk.place] 29)).cell? ⟨wr.heap.size, 1, none⟩ = some (.string tt) from (Blk.new wr 29 _).cell 1)
          have C2 := hid (show (wr.alloc (.cells #[.int .i64 tk.kind, .string tt, .int .i64 tk.place] 29)).cell? ⟨wr.heap.size, 2, none⟩ = some (.int .i64 tk.place) from (Blk.new wr 29 _).cell 2)
          have CL := hid (show wr.heap.size < (wr.alloc (.cells #[.int .i64 tk.kind, .string tt, .int .i64 tk.place] 29)).heap.size by simp)
          have FD := hid (show Fr nob wr (wr.alloc (.cells #[.int .i64 tk.kind, .string tt, .int .i64 tk.place] 29)).drew from ((Fr.refl nob wr).alloc _).drew)
          go_cut [119] (fun c wx => c = .bool false ∧ Hid (Fr nob wr wx) ∧ Hid (wx.cell? ⟨wr.heap.size, 0, none⟩ = some (.int .i64 tk.kind)))
          case first =>
            have d1 : decide (tk.place < e) = false := decide_eq_false (by omega)
            have d9 : decide (t.size < tk.place + 1 + tt.size) = false := decide_eq_false (by omega)
            have d2 : decide ((t.size : Int) < (tk.place : Int) + 1 + (tt.size : Int)) = false := decide_eq_false (by omega)
            have d3 : ((tk.place : Int) + 1).toNat = tk.place + 1 := by omega
            have d4 : ((tk.place : Int) + 1 + (tt.size : Int)).toNat = tk.place + 1 + tt.size := by omega
            have d6 : (0 : Int) ≤ (tk.place : Int) + 1 := by omega
            have d7 : (0 : Int) ≤ (tk.place : Int) + 1 + (tt.size : Int) := by omega
            have d8 : (tk.place : Int) + 1 ≤ (tk.place : Int) + 1 + (tt.size : Int) := by omega
            have d5 : IntKind.i64.wrap ((tk.place : Int) + 1 + (tt.size : Int)) = (tk.place : Int) + 1 + (tt.size : Int) := IntWalk.i64_in _ (by omega)
            clear y2 x0 x1 x2 HGP GPK EN HTL HSH R HA
            cases wb with
            | true =>
              refine wp_region_held_drew (S := (fun wx => wx.cell? ⟨wr.heap.size, 0, none⟩ = some (.int .i64 tk.kind) ∧ wx.cell? ⟨wr.heap.size, 1, none⟩ = some (.string tt) ∧ wx.cell? ⟨wr.heap.size, 2, none⟩ = some (.int .i64 tk.place))) (by kernel_rfl) ⟨C0.out, C1.out, C2.out⟩ (fun hHeld => ?_)
              refine take0 (v := ?va0) (by kernel_rfl) (by kernel_rfl) (by kernel_rfl) (fun _ _ _ h => h) (Or.inl ⟨by rfl, ?ya0⟩) (by assumption) ?ra0
              case ya0 => ((intro w hSw; (try dsimp only at hSw); go_simp); try (with_reducible rfl))
              case' ra0 => try simp only [Act.put, List.setIfInBounds_toArray, List.set_cons_zero, List.set_cons_succ]
              refine take1 (v := ?va1) (by kernel_rfl) (by kernel_rfl) (by kernel_rfl) (fun _ _ _ h => h) (Or.inl ⟨by rfl, ?ya1⟩) (by assumption) ?ra1
              case ya1 => ((intro w hSw; (try dsimp only at hSw); go_simp); try (with_reducible rfl))
              case' ra1 => try simp only [Act.put, List.setIfInBounds_toArray, List.set_cons_zero, List.set_cons_succ]
              refine take2 (v := ?va2) (by kernel_rfl) (by kernel_rfl) (by kernel_rfl) (fun _ _ _ h => h) (Or.inl ⟨by rfl, ?ya2⟩) (by assumption) ?ra2
              case ya2 => ((intro w hSw; (try dsimp only at hSw); go_simp); try (with_reducible rfl))
              case' ra2 => try simp only [Act.put, List.setIfInBounds_toArray, List.set_cons_zero, List.set_cons_succ]
              refine take3 (v := ?va3) (by kernel_rfl) (by kernel_rfl) (by kernel_rfl) (fun _ _ _ h => h) (Or.inl ⟨by rfl, ?ya3⟩) (by assumption) ?ra3
              case ya3 => ((intro w hSw; (try dsimp only at hSw); go_simp); try (with_reducible rfl))
              case' ra3 => try simp only [Act.put, List.setIfInBounds_toArray, List.set_cons_zero, List.set_cons_succ]
              refine take4 (v := ?va4) (by kernel_rfl) (by kernel_rfl) (by kernel_rfl) (fun _ _ _ h => h) (Or.inl ⟨by rfl, ?ya4⟩) (by assumption) ?ra4
              case ya4 => ((intro w hSw; (try dsimp only at hSw); go_simp); try (with_reducible rfl))
              case' ra4 => try simp only [Act.put, List.setIfInBounds_toArray, List.set_cons_zero, List.set_cons_succ]
              refine take5 (v := ?va5) (by kernel_rfl) (by kernel_rfl) (by kernel_rfl) (fun _ _ _ h => h) (Or.inl ⟨by rfl, ?ya5⟩) (by assumption) ?ra5
              case ya5 => ((intro w hSw; (try dsimp only at hSw); go_simp); try (with_reducible rfl))
              case' ra5 => try simp only [Act.put, List.setIfInBounds_toArray, List.set_cons_zero, List.set_cons_succ]
              refine take6 (v := ?va6) (by kernel_rfl) (by kernel_rfl) (by kernel_rfl) (fun _ _ _ h => h) (Or.inl ⟨by rfl, ?ya6⟩) (by assumption) ?ra6
              case ya6 => ((intro w hSw; (try dsimp only at hSw); go_simp); try (with_reducible rfl))
              case' ra6 => try simp only [Act.put, List.setIfInBounds_toArray, List.set_cons_zero, List.set_cons_succ]
              refine take7 (v := ?va7) (by kernel_rfl) (by kernel_rfl) (by kernel_rfl) (fun _ _ _ h => h) (Or.inl ⟨by rfl, ?ya7⟩) (by assumption) ?ra7
              case ya7 => ((intro w hSw; (try dsimp only at hSw); go_simp); try (with_reducible rfl))
              case' ra7 => try simp only [Act.put, List.setIfInBounds_toArray, List.set_cons_zero, List.set_cons_succ]
              refine take8 (v := ?va8) (by kernel_rfl) (by kernel_rfl) (by kernel_rfl) (fun _ _ _ h => h) (Or.inl ⟨by rfl, ?ya8⟩) (by assumption) ?ra8
              case ya8 => ((intro w hSw; (try dsimp only at hSw); go_simp); try (with_reducible rfl))
              case' ra8 => try simp only [Act.put, List.setIfInBounds_toArray, List.set_cons_zero, List.set_cons_succ]
              refine take9 (v := ?va9) (by kernel_rfl) (by kernel_rfl) (by kernel_rfl) (fun _ _ _ h => h) (Or.inl ⟨by rfl, ?ya9⟩) (by assumption) ?ra9
              case ya9 => ((intro w hSw; (try dsimp only at hSw); go_simp); try (with_reducible rfl))
              case' ra9 => try simp only [Act.put, List.setIfInBounds_toArray, List.set_cons_zero, List.set_cons_succ]
              refine take10 (v := ?va10) (by kernel_rfl) (by kernel_rfl) (by kernel_rfl) (fun _ _ _ h => h) (Or.inl ⟨by rfl, ?ya10⟩) (by assumption) ?ra10
              case ya10 => ((intro w hSw; (try dsimp only at hSw); go_simp); try (with_reducible rfl))
              case' ra10 => try simp only [Act.put, List.setIfInBounds_toArray, List.set_cons_zero, List.set_cons_succ]
              refine take11 (v := ?va11) (by kernel_rfl) (by kernel_rfl) (by kernel_rfl) (fun _ _ _ h => h) (Or.inl ⟨by rfl, ?ya11⟩) (by assumption) ?ra11
              case ya11 => ((intro w hSw; (try dsimp only at hSw); go_simp); try (with_reducible rfl))
              case' ra11 => try simp only [Act.put, List.setIfInBounds_toArray, List.set_cons_zero, List.set_cons_succ]
              refine take12 (v := ?va12) (by kernel_rfl) (by kernel_rfl) (by kernel_rfl) (fun _ _ _ h => h) (Or.inl ⟨by rfl, ?ya12⟩) (by assumption) ?ra12
              case ya12 => ((intro w hSw; (try dsimp only at hSw); go_simp); try (with_reducible rfl))
              case' ra12 => try simp only [Act.put, List.setIfInBounds_toArray, List.set_cons_zero, List.set_cons_succ]
              refine take13 (v := ?va13) (by kernel_rfl) (by kernel_rfl) (by kernel_rfl) (fun _ _ _ h => h) (Or.inl ⟨by rfl, ?ya13⟩) (by assumption) ?ra13
              case ya13 => ((intro w hSw; (try dsimp only at hSw); go_simp); try (with_reducible rfl))
              case' ra13 => try simp only [Act.put, List.setIfInBounds_toArray, List.set_cons_zero, List.set_cons_succ]
              refine take14 (v := ?va14) (by kernel_rfl) (by kernel_rfl) (by kernel_rfl) (fun _ _ _ h => h) (Or.inl ⟨by rfl, ?ya14⟩) (by assumption) ?ra14
              case ya14 => ((intro w hSw; (try dsimp only at hSw); go_simp); try (with_reducible rfl))
              case' ra14 => try simp only [Act.put, List.setIfInBounds_toArray, List.set_cons_zero, List.set_cons_succ]
              refine take15 (v := ?va15) (by kernel_rfl) (by kernel_rfl) (by kernel_rfl) (fun _ _ _ h => h) (Or.inl ⟨by rfl, ?ya15⟩) (by assumption) ?ra15
              case ya15 => ((intro w hSw; (try dsimp only at hSw); go_simp); try (with_reducible rfl))
              case' ra15 => try simp only [Act.put, List.setIfInBounds_toArray, List.set_cons_zero, List.set_cons_succ]
              refine take16 (v := ?va16) (by kernel_rfl) (by kernel_rfl) (by kernel_rfl) (fun _ _ _ h => h) (Or.inl ⟨by rfl, ?ya16⟩) (by assumption) ?ra16
              case ya16 => ((intro w hSw; (try dsimp only at hSw); go_simp); try (with_reducible rfl))
              case' ra16 => try simp only [Act.put, List.setIfInBounds_toArray, List.set_cons_zero, List.set_cons_succ]
              refine take17 (v := ?va17) (by kernel_rfl) (by kernel_rfl) (by kernel_rfl) (fun _ _ _ h => h) (Or.inl ⟨by rfl, ?ya17⟩) (by assumption) ?ra17
              case ya17 => ((intro w hSw; (try dsimp only at hSw); go_simp); try (with_reducible rfl))
              case' ra17 => try simp only [Act.put, List.setIfInBounds_toArray, List.set_cons_zero, List.set_cons_succ]
              refine take18 (v := ?va18) (by kernel_rfl) (by kernel_rfl) (by kernel_rfl) (fun _ _ _ h => h) (Or.inl ⟨by rfl, ?ya18⟩) (by assumption) ?ra18
              case ya18 => ((intro w hSw; (try dsimp only at hSw); go_simp); try (with_reducible rfl))
              case' ra18 => try simp only [Act.put, List.setIfInBounds_toArray, List.set_cons_zero, List.set_cons_succ]
              refine take19 (v := ?va19) (by kernel_rfl) (by kernel_rfl) (by kernel_rfl) (fun _ _ _ h => h) (Or.inl ⟨by rfl, ?ya19⟩) (by assumption) ?ra19
              case ya19 => ((intro w hSw; (try dsimp only at hSw); go_simp); try (with_reducible rfl))
              case' ra19 => try simp only [Act.put, List.setIfInBounds_toArray, List.set_cons_zero, List.set_cons_succ]
              refine take20 (v := ?va20) (by kernel_rfl) (by kernel_rfl) (by kernel_rfl) (fun _ _ _ h => h) (Or.inl ⟨by rfl, ?ya20⟩) (by assumption) ?ra20
              case ya20 => ((intro w hSw; (try dsimp only at hSw); go_simp); try (with_reducible rfl))
              case' ra20 => try simp only [Act.put, List.setIfInBounds_toArray, List.set_cons_zero, List.set_cons_succ]
              refine take21 (v := ?va21) (by kernel_rfl) (by kernel_rfl) (by kernel_rfl) (fun _ _ _ h => h) (Or.inl ⟨by rfl, ?ya21⟩) (by assumption) ?ra21
              case ya21 => ((intro w hSw; (try dsimp only at hSw); go_simp); try (with_reducible rfl))
              case' ra21 => try simp only [Act.put, List.setIfInBounds_toArray, List.set_cons_zero, List.set_cons_succ]
              refine take22 (v := ?va22) (by kernel_rfl) (by kernel_rfl) (by kernel_rfl) (fun _ _ _ h => h) (Or.inl ⟨by rfl, ?ya22⟩) (by assumption) ?ra22
              case ya22 => ((intro w hSw; (try dsimp only at hSw); go_simp); try (with_reducible rfl))
              case' ra22 => try simp only [Act.put, List.setIfInBounds_toArray, List.set_cons_zero, List.set_cons_succ]
              refine take23 (v := ?va23) (by kernel_rfl) (by kernel_rfl) (by kernel_rfl) (fun _ _ _ h => h) (Or.inl ⟨by rfl, ?ya23⟩) (by assumption) ?ra23
              case ya23 => ((intro w hSw; (try dsimp only at hSw); go_simp); try (with_reducible rfl))
              case' ra23 => try simp only [Act.put, List.setIfInBounds_toArray, List.set_cons_zero, List.set_cons_succ]
              refine take24 (v := ?va24) (by kernel_rfl) (by kernel_rfl) (by kernel_rfl) (fun _ _ _ h => h) (Or.inl ⟨by rfl, ?ya24⟩) (by assumption) ?ra24
              case ya24 => ((intro w hSw; (try dsimp only at hSw); go_simp); try (with_reducible rfl))
              case' ra24 => try simp only [Act.put, List.setIfInBounds_toArray, List.set_cons_zero, List.set_cons_succ]
              refine take25 (v := ?va25) (by kernel_rfl) (by kernel_rfl) (by kernel_rfl) (fun _ _ _ h => h) (Or.inl ⟨by rfl, ?ya25⟩) (by assumption) ?ra25
              case ya25 => ((intro w hSw; (try dsimp only at hSw); go_simp); try (with_reducible rfl))
              case' ra25 => try simp only [Act.put, List.setIfInBounds_toArray, List.set_cons_zero, List.set_cons_succ]
              refine take26 (v := ?va26) (by kernel_rfl) (by kernel_rfl) (by kernel_rfl) (fun _ _ _ h => h) (Or.inl ⟨by rfl, ?ya26⟩) (by assumption) ?ra26
              case ya26 => ((intro w hSw; (try dsimp only at hSw); go_simp); try (with_reducible rfl))
              case' ra26 => try simp only [Act.put, List.setIfInBounds_toArray, List.set_cons_zero, List.set_cons_succ]
              refine take27 (v := ?va27) (by kernel_rfl) (by kernel_rfl) (by kernel_rfl) (fun _ _ _ h => h) (Or.inl ⟨by rfl, ?ya27⟩) (by assumption) ?ra27
              case ya27 => ((intro w hSw; (try dsimp only at hSw); go_simp); try (with_reducible rfl))
              case' ra27 => try simp only [Act.put, List.setIfInBounds_toArray, List.set_cons_zero, List.set_cons_succ]
              refine take28 (v := ?va28) (by kernel_rfl) (by kernel_rfl) (by kernel_rfl) (fun _ _ _ h => h) (Or.inl ⟨by rfl, ?ya28⟩) (by assumption) ?ra28
              case ya28 => ((intro w hSw; (try dsimp only at hSw); go_simp); try (with_reducible rfl))
              case' ra28 => try simp only [Act.put, List.setIfInBounds_toArray, List.set_cons_zero, List.set_cons_succ]
              refine take29 (v := ?va29) (by kernel_rfl) (by kernel_rfl) (by kernel_rfl) (fun _ _ _ h => h) (Or.inl ⟨by rfl, ?ya29⟩) (by assumption) ?ra29
              case ya29 => ((intro w hSw; (try dsimp only at hSw); go_simp); try (with_reducible rfl))
              case' ra29 => try simp only [Act.put, List.setIfInBounds_toArray, List.set_cons_zero, List.set_cons_succ]
              refine take30 (v := ?va30) (by kernel_rfl) (by kernel_rfl) (by kernel_rfl) (fun _ _ _ h => h) (Or.inl ⟨by rfl, ?ya30⟩) (by assumption) ?ra30
              case ya30 => ((intro w hSw; (try dsimp only at hSw); go_simp); try (with_reducible rfl))
              case' ra30 => try simp only [Act.put, List.setIfInBounds_toArray, List.set_cons_zero, List.set_cons_succ]
              refine take31 (v := ?va31) (by kernel_rfl) (by kernel_rfl) (by kernel_rfl) (fun _ _ _ h => h) (Or.inl ⟨by rfl, ?ya31⟩) (by assumption) ?ra31
              case ya31 => ((intro w hSw; (try dsimp only at hSw); go_simp); try (with_reducible rfl))
              case' ra31 => try simp only [Act.put, List.setIfInBounds_toArray, List.set_cons_zero, List.set_cons_succ]
              refine take32 (v := ?va32) (by kernel_rfl) (by kernel_rfl) (by kernel_rfl) (fun _ _ _ h => h) (Or.inl ⟨by rfl, ?ya32⟩) (by assumption) ?ra32
              case ya32 => ((intro w hSw; (try dsimp only at hSw); go_simp); try (with_reducible rfl))
              case' ra32 => try simp only [Act.put, List.setIfInBounds_toArray, List.set_cons_zero, List.set_cons_succ]
              refine take33 (v := ?va33) (by kernel_rfl) (by kernel_rfl) (by kernel_rfl) (fun _ _ _ h => h) (Or.inl ⟨by rfl, ?ya33⟩) (by assumption) ?ra33
              case ya33 => ((intro w hSw; (try dsimp only at hSw); go_simp); try (with_reducible rfl))
              case' ra33 => try simp only [Act.put, List.setIfInBounds_toArray, List.set_cons_zero, List.set_cons_succ]
              refine wpAnyH_ready (rs := [34]) (by kernel_rfl) (by simp) ?_
              refine AllReadyH.cons rfl (fun K hK => ?_) AllReadyH.nil
              go_simp
              go_at_call 14
              refine (HW.out _ ((((V.out.fr F1.out).fr F2.out).fr F5.out).fr (((Fr.refl nob _).alloc _).drew))).mono ?_
              rintro e w6 ⟨rfl, hf6⟩
              have F6 := hid hf6
              clear hf6
              refine hK.out _ _ ⟨(F6.out.cell (p := ⟨wr.heap.size, 0, none⟩) CL.out (fun x => x)).trans C0.out, (F6.out.cell (p := ⟨wr.heap.size, 1, none⟩) CL.out (fun x => x)).trans C1.out, (F6.out.cell (p := ⟨wr.heap.size, 2, none⟩) CL.out (fun x => x)).trans C2.out⟩ (fun hHeld2 => ?_)
              clear hK K hHeld
              try simp only [Act.put, List.setIfInBounds_toArray, List.set_cons_zero, List.set_cons_succ]
              refine take35 (v := ?va35) (by kernel_rfl) (by kernel_rfl) (by kernel_rfl) (fun _ _ _ h => h) (Or.inl ⟨by rfl, ?ya35⟩) (by assumption) ?ra35
              case ya35 => ((intro w hSw; (try dsimp only at hSw); go_simp); try (with_reducible rfl))
              case' ra35 => try simp only [Act.put, List.setIfInBounds_toArray, List.set_cons_zero, List.set_cons_succ]
              refine take36 (v := ?va36) (by kernel_rfl) (by kernel_rfl) (by kernel_rfl) (fun _ _ _ h => h) (Or.inl ⟨by rfl, ?ya36⟩) (by assumption) ?ra36
              case ya36 => ((intro w hSw; (try dsimp only at hSw); go_simp); try (with_reducible rfl))
              case' ra36 => try simp only [Act.put, List.setIfInBounds_toArray, List.set_cons_zero, List.set_cons_succ]
              refine take37 (v := ?va37) (by kernel_rfl) (by kernel_rfl) (by kernel_rfl) (fun _ _ _ h => h) (Or.inl ⟨by rfl, ?ya37⟩) (by assumption) ?ra37
              case ya37 => ((intro w hSw; (try dsimp only at hSw); go_simp); try (with_reducible rfl))
              case' ra37 => try simp only [Act.put, List.setIfInBounds_toArray, List.set_cons_zero, List.set_cons_succ]
              refine take38 (v := ?va38) (by kernel_rfl) (by kernel_rfl) (by kernel_rfl) (fun _ _ _ h => h) (Or.inl ⟨by rfl, ?ya38⟩) (by assumption) ?ra38
              case ya38 => ((intro w hSw; (try dsimp only at hSw); go_simp); try (with_reducible rfl))
              case' ra38 => try simp only [Act.put, List.setIfInBounds_toArray, List.set_cons_zero, List.set_cons_succ]
              refine take39 (v := ?va39) (by kernel_rfl) (by kernel_rfl) (by kernel_rfl) (fun _ _ _ h => h) (Or.inl ⟨by rfl, ?ya39⟩) (by assumption) ?ra39
              case ya39 => ((intro w hSw; (try dsimp only at hSw); go_simp); try (with_reducible rfl))
              case' ra39 => try simp only [Act.put, List.setIfInBounds_toArray, List.set_cons_zero, List.set_cons_succ]
              refine take40 (v := ?va40) (by kernel_rfl) (by kernel_rfl) (by kernel_rfl) (fun _ _ _ h => h) (Or.inl ⟨by rfl, ?ya40⟩) (by assumption) ?ra40
              case ya40 => ((intro w hSw; (try dsimp only at hSw); go_simp); try (with_reducible rfl))
              case' ra40 => try simp only [Act.put, List.setIfInBounds_toArray, List.set_cons_zero, List.set_cons_succ]
              refine take41 (v := ?va41) (by kernel_rfl) (by kernel_rfl) (by kernel_rfl) (fun _ _ _ h => h) (Or.inl ⟨by rfl, ?ya41⟩) (by assumption) ?ra41
              case ya41 => ((intro w hSw; (try dsimp only at hSw); go_simp); try (with_reducible rfl))
              case' ra41 => try simp only [Act.put, List.setIfInBounds_toArray, List.set_cons_zero, List.set_cons_succ]
              refine wpAnyH_done (by kernel_rfl) ?_ _
              try go_wp2_with fail
              go_meet
              exact ⟨rfl, hid (FD.out.tr F6.out), hid ((F6.out.cell (p := ⟨wr.heap.size, 0, none⟩) CL.out (fun x => x)).trans C0.out)⟩
            | false =>
              have hff : (false != false) = false := rfl
              refine wp_region_held_drew (S := (fun wx => wx.cell? ⟨wr.heap.size, 0, none⟩ = some (.int .i64 tk.kind) ∧ wx.cell? ⟨wr.heap.size, 1, none⟩ = some (.string tt) ∧ wx.cell? ⟨wr.heap.size, 2, none⟩ = some (.int .i64 tk.place))) (by kernel_rfl) ⟨C0.out, C1.out, C2.out⟩ (fun hHeld => ?_)
              refine take0 (v := ?vb0) (by kernel_rfl) (by kernel_rfl) (by kernel_rfl) (fun _ _ _ h => h) (Or.inl ⟨by rfl, ?yb0⟩) (by assumption) ?rb0
              case yb0 => ((intro w hSw; (try dsimp only at hSw); go_simp); try (with_reducible rfl))
              case' rb0 => try simp only [Act.put, List.setIfInBounds_toArray, List.set_cons_zero, List.set_cons_succ]
              refine take1 (v := ?vb1) (by kernel_rfl) (by kernel_rfl) (by kernel_rfl) (fun _ _ _ h => h) (Or.inl ⟨by rfl, ?yb1⟩) (by assumption) ?rb1
              case yb1 => ((intro w hSw; (try dsimp only at hSw); go_simp); try (with_reducible rfl))
              case' rb1 => try simp only [Act.put, List.setIfInBounds_toArray, List.set_cons_zero, List.set_cons_succ]
              refine take2 (v := ?vb2) (by kernel_rfl) (by kernel_rfl) (by kernel_rfl) (fun _ _ _ h => h) (Or.inl ⟨by rfl, ?yb2⟩) (by assumption) ?rb2
              case yb2 => ((intro w hSw; (try dsimp only at hSw); go_simp); try (with_reducible rfl))
              case' rb2 => try simp only [Act.put, List.setIfInBounds_toArray, List.set_cons_zero, List.set_cons_succ]
              refine take3 (v := ?vb3) (by kernel_rfl) (by kernel_rfl) (by kernel_rfl) (fun _ _ _ h => h) (Or.inl ⟨by rfl, ?yb3⟩) (by assumption) ?rb3
              case yb3 => ((intro w hSw; (try dsimp only at hSw); go_simp); try (with_reducible rfl))
              case' rb3 => try simp only [Act.put, List.setIfInBounds_toArray, List.set_cons_zero, List.set_cons_succ]
              refine take4 (v := ?vb4) (by kernel_rfl) (by kernel_rfl) (by kernel_rfl) (fun _ _ _ h => h) (Or.inl ⟨by rfl, ?yb4⟩) (by assumption) ?rb4
              case yb4 => ((intro w hSw; (try dsimp only at hSw); go_simp); try (with_reducible rfl))
              case' rb4 => try simp only [Act.put, List.setIfInBounds_toArray, List.set_cons_zero, List.set_cons_succ]
              refine take5 (v := ?vb5) (by kernel_rfl) (by kernel_rfl) (by kernel_rfl) (fun _ _ _ h => h) (Or.inl ⟨by rfl, ?yb5⟩) (by assumption) ?rb5
              case yb5 => ((intro w hSw; (try dsimp only at hSw); go_simp); try (with_reducible rfl))
              case' rb5 => try simp only [Act.put, List.setIfInBounds_toArray, List.set_cons_zero, List.set_cons_succ]
              refine take6 (v := ?vb6) (by kernel_rfl) (by kernel_rfl) (by kernel_rfl) (fun _ _ _ h => h) (Or.inl ⟨by rfl, ?yb6⟩) (by assumption) ?rb6
              case yb6 => ((intro w hSw; (try dsimp only at hSw); go_simp); try (with_reducible rfl))
              case' rb6 => try simp only [Act.put, List.setIfInBounds_toArray, List.set_cons_zero, List.set_cons_succ]
              refine take7 (v := ?vb7) (by kernel_rfl) (by kernel_rfl) (by kernel_rfl) (fun _ _ _ h => h) (Or.inl ⟨by rfl, ?yb7⟩) (by assumption) ?rb7
              case yb7 => ((intro w hSw; (try dsimp only at hSw); go_simp); try (with_reducible rfl))
              case' rb7 => try simp only [Act.put, List.setIfInBounds_toArray, List.set_cons_zero, List.set_cons_succ]
              refine take8 (v := ?vb8) (by kernel_rfl) (by kernel_rfl) (by kernel_rfl) (fun _ _ _ h => h) (Or.inl ⟨by rfl, ?yb8⟩) (by assumption) ?rb8
              case yb8 => ((intro w hSw; (try dsimp only at hSw); go_simp); try (with_reducible rfl))
              case' rb8 => try simp only [Act.put, List.setIfInBounds_toArray, List.set_cons_zero, List.set_cons_succ]
              refine take9 (v := ?vb9) (by kernel_rfl) (by kernel_rfl) (by kernel_rfl) (fun _ _ _ h => h) (Or.inl ⟨by rfl, ?yb9⟩) (by assumption) ?rb9
              case yb9 => ((intro w hSw; (try dsimp only at hSw); go_simp); try (with_reducible rfl))
              case' rb9 => try simp only [Act.put, List.setIfInBounds_toArray, List.set_cons_zero, List.set_cons_succ]
              refine take10 (v := ?vb10) (by kernel_rfl) (by kernel_rfl) (by kernel_rfl) (fun _ _ _ h => h) (Or.inl ⟨by rfl, ?yb10⟩) (by assumption) ?rb10
              case yb10 => ((intro w hSw; (try dsimp only at hSw); go_simp); try (with_reducible rfl))
              case' rb10 => try simp only [Act.put, List.setIfInBounds_toArray, List.set_cons_zero, List.set_cons_succ]
              refine take11 (v := ?vb11) (by kernel_rfl) (by kernel_rfl) (by kernel_rfl) (fun _ _ _ h => h) (Or.inl ⟨by rfl, ?yb11⟩) (by assumption) ?rb11
              case yb11 => ((intro w hSw; (try dsimp only at hSw); go_simp); try (with_reducible rfl))
              case' rb11 => try simp only [Act.put, List.setIfInBounds_toArray, List.set_cons_zero, List.set_cons_succ]
              refine take12 (v := ?vb12) (by kernel_rfl) (by kernel_rfl) (by kernel_rfl) (fun _ _ _ h => h) (Or.inl ⟨by rfl, ?yb12⟩) (by assumption) ?rb12
              case yb12 => ((intro w hSw; (try dsimp only at hSw); go_simp); try (with_reducible rfl))
              case' rb12 => try simp only [Act.put, List.setIfInBounds_toArray, List.set_cons_zero, List.set_cons_succ]
              refine take13 (v := ?vb13) (by kernel_rfl) (by kernel_rfl) (by kernel_rfl) (fun _ _ _ h => h) (Or.inl ⟨by rfl, ?yb13⟩) (by assumption) ?rb13
              case yb13 => ((intro w hSw; (try dsimp only at hSw); go_simp); try (with_reducible rfl))
              case' rb13 => try simp only [Act.put, List.setIfInBounds_toArray, List.set_cons_zero, List.set_cons_succ]
              refine take14 (v := ?vb14) (by kernel_rfl) (by kernel_rfl) (by kernel_rfl) (fun _ _ _ h => h) (Or.inl ⟨by rfl, ?yb14⟩) (by assumption) ?rb14
              case yb14 => ((intro w hSw; (try dsimp only at hSw); go_simp); try (with_reducible rfl))
              case' rb14 => try simp only [Act.put, List.setIfInBounds_toArray, List.set_cons_zero, List.set_cons_succ]
              refine take15 (v := ?vb15) (by kernel_rfl) (by kernel_rfl) (by kernel_rfl) (fun _ _ _ h => h) (Or.inl ⟨by rfl, ?yb15⟩) (by assumption) ?rb15
              case yb15 => ((intro w hSw; (try dsimp only at hSw); go_simp); try (with_reducible rfl))
              case' rb15 => try simp only [Act.put, List.setIfInBounds_toArray, List.set_cons_zero, List.set_cons_succ]
              refine take16 (v := ?vb16) (by kernel_rfl) (by kernel_rfl) (by kernel_rfl) (fun _ _ _ h => h) (Or.inl ⟨by rfl, ?yb16⟩) (by assumption) ?rb16
              case yb16 => ((intro w hSw; (try dsimp only at hSw); go_simp); try (with_reducible rfl))
              case' rb16 => try simp only [Act.put, List.setIfInBounds_toArray, List.set_cons_zero, List.set_cons_succ]
              refine take17 (v := ?vb17) (by kernel_rfl) (by kernel_rfl) (by kernel_rfl) (fun _ _ _ h => h) (Or.inl ⟨by rfl, ?yb17⟩) (by assumption) ?rb17
              case yb17 => ((intro w hSw; (try dsimp only at hSw); go_simp); try (with_reducible rfl))
              case' rb17 => try simp only [Act.put, List.setIfInBounds_toArray, List.set_cons_zero, List.set_cons_succ]
              refine take18 (v := ?vb18) (by kernel_rfl) (by kernel_rfl) (by kernel_rfl) (fun _ _ _ h => h) (Or.inl ⟨by rfl, ?yb18⟩) (by assumption) ?rb18
              case yb18 => ((intro w hSw; (try dsimp only at hSw); go_simp); try (with_reducible rfl))
              case' rb18 => try simp only [Act.put, List.setIfInBounds_toArray, List.set_cons_zero, List.set_cons_succ]
              refine take19 (v := ?vb19) (by kernel_rfl) (by kernel_rfl) (by kernel_rfl) (fun _ _ _ h => h) (Or.inl ⟨by rfl, ?yb19⟩) (by assumption) ?rb19
              case yb19 => ((intro w hSw; (try dsimp only at hSw); go_simp); try (with_reducible rfl))
              case' rb19 => try simp only [Act.put, List.setIfInBounds_toArray, List.set_cons_zero, List.set_cons_succ]
              refine take20 (v := ?vb20) (by kernel_rfl) (by kernel_rfl) (by kernel_rfl) (fun _ _ _ h => h) (Or.inl ⟨by rfl, ?yb20⟩) (by assumption) ?rb20
              case yb20 => ((intro w hSw; (try dsimp only at hSw); go_simp); try (with_reducible rfl))
              case' rb20 => try simp only [Act.put, List.setIfInBounds_toArray, List.set_cons_zero, List.set_cons_succ]
              refine take21 (v := ?vb21) (by kernel_rfl) (by kernel_rfl) (by kernel_rfl) (fun _ _ _ h => h) (Or.inl ⟨by rfl, ?yb21⟩) (by assumption) ?rb21
              case yb21 => ((intro w hSw; (try dsimp only at hSw); go_simp); try (with_reducible rfl))
              case' rb21 => try simp only [Act.put, List.setIfInBounds_toArray, List.set_cons_zero, List.set_cons_succ]
              refine take22 (v := ?vb22) (by kernel_rfl) (by kernel_rfl) (by kernel_rfl) (fun _ _ _ h => h) (Or.inl ⟨by rfl, ?yb22⟩) (by assumption) ?rb22
              case yb22 => ((intro w hSw; (try dsimp only at hSw); go_simp); try (with_reducible rfl))
              case' rb22 => try simp only [Act.put, List.setIfInBounds_toArray, List.set_cons_zero, List.set_cons_succ]
              refine take23 (v := ?vb23) (by kernel_rfl) (by kernel_rfl) (by kernel_rfl) (fun _ _ _ h => h) (Or.inl ⟨by rfl, ?yb23⟩) (by assumption) ?rb23
              case yb23 => ((intro w hSw; (try dsimp only at hSw); go_simp); try (with_reducible rfl))
              case' rb23 => try simp only [Act.put, List.setIfInBounds_toArray, List.set_cons_zero, List.set_cons_succ]
              refine take24 (v := ?vb24) (by kernel_rfl) (by kernel_rfl) (by kernel_rfl) (fun _ _ _ h => h) (Or.inl ⟨by rfl, ?yb24⟩) (by assumption) ?rb24
              case yb24 => ((intro w hSw; (try dsimp only at hSw); go_simp); try (with_reducible rfl))
              case' rb24 => try simp only [Act.put, List.setIfInBounds_toArray, List.set_cons_zero, List.set_cons_succ]
              refine take25 (v := ?vb25) (by kernel_rfl) (by kernel_rfl) (by kernel_rfl) (fun _ _ _ h => h) (Or.inl ⟨by rfl, ?yb25⟩) (by assumption) ?rb25
              case yb25 => ((intro w hSw; (try dsimp only at hSw); go_simp); try (with_reducible rfl))
              case' rb25 => try simp only [Act.put, List.setIfInBounds_toArray, List.set_cons_zero, List.set_cons_succ]
              refine take26 (v := ?vb26) (by kernel_rfl) (by kernel_rfl) (by kernel_rfl) (fun _ _ _ h => h) (Or.inl ⟨by rfl, ?yb26⟩) (by assumption) ?rb26
              case yb26 => ((intro w hSw; (try dsimp only at hSw); go_simp); try (with_reducible rfl))
              case' rb26 => try simp only [Act.put, List.setIfInBounds_toArray, List.set_cons_zero, List.set_cons_succ]
              refine take27 (v := ?vb27) (by kernel_rfl) (by kernel_rfl) (by kernel_rfl) (fun _ _ _ h => h) (Or.inl ⟨by rfl, ?yb27⟩) (by assumption) ?rb27
              case yb27 => ((intro w hSw; (try dsimp only at hSw); go_simp); try (with_reducible rfl))
              case' rb27 => try simp only [Act.put, List.setIfInBounds_toArray, List.set_cons_zero, List.set_cons_succ]
              refine take28 (v := ?vb28) (by kernel_rfl) (by kernel_rfl) (by kernel_rfl) (fun _ _ _ h => h) (Or.inl ⟨by rfl, ?yb28⟩) (by assumption) ?rb28
              case yb28 => ((intro w hSw; (try dsimp only at hSw); go_simp); try (with_reducible rfl))
              case' rb28 => try simp only [Act.put, List.setIfInBounds_toArray, List.set_cons_zero, List.set_cons_succ]
              refine take29 (v := ?vb29) (by kernel_rfl) (by kernel_rfl) (by kernel_rfl) (fun _ _ _ h => h) (Or.inl ⟨by rfl, ?yb29⟩) (by assumption) ?rb29
              case yb29 => ((intro w hSw; (try dsimp only at hSw); go_simp); try (with_reducible rfl))
              case' rb29 => try simp only [Act.put, List.setIfInBounds_toArray, List.set_cons_zero, List.set_cons_succ]
              refine take30 (v := ?vb30) (by kernel_rfl) (by kernel_rfl) (by kernel_rfl) (fun _ _ _ h => h) (Or.inl ⟨by rfl, ?yb30⟩) (by assumption) ?rb30
              case yb30 => ((intro w hSw; (try dsimp only at hSw); go_simp); try (with_reducible rfl))
              case' rb30 => try simp only [Act.put, List.setIfInBounds_toArray, List.set_cons_zero, List.set_cons_succ]
              refine take31 (v := ?vb31) (by kernel_rfl) (by kernel_rfl) (by kernel_rfl) (fun _ _ _ h => h) (Or.inl ⟨by rfl, ?yb31⟩) (by assumption) ?rb31
              case yb31 => ((intro w hSw; (try dsimp only at hSw); go_simp); try (with_reducible rfl))
              case' rb31 => try simp only [Act.put, List.setIfInBounds_toArray, List.set_cons_zero, List.set_cons_succ]
              refine take32 (v := ?vb32) (by kernel_rfl) (by kernel_rfl) (by kernel_rfl) (fun _ _ _ h => h) (Or.inl ⟨by rfl, ?yb32⟩) (by assumption) ?rb32
              case yb32 => ((intro w hSw; (try dsimp only at hSw); go_simp); try (with_reducible rfl))
              case' rb32 => try simp only [Act.put, List.setIfInBounds_toArray, List.set_cons_zero, List.set_cons_succ]
              refine take33 (v := ?vb33) (by kernel_rfl) (by kernel_rfl) (by kernel_rfl) (fun _ _ _ h => h) (Or.inl ⟨by rfl, ?yb33⟩) (by assumption) ?rb33
              case yb33 => ((intro w hSw; (try dsimp only at hSw); go_simp); try (with_reducible rfl))
              case' rb33 => try simp only [Act.put, List.setIfInBounds_toArray, List.set_cons_zero, List.set_cons_succ]
              refine wpAnyH_ready (rs := [34]) (by kernel_rfl) (by simp) ?_
              refine AllReadyH.cons rfl (fun K hK => ?_) AllReadyH.nil
              go_simp
              go_at_call 14
              refine (HW.out _ ((((V.out.fr F1.out).fr F2.out).fr F5.out).fr (((Fr.refl nob _).alloc _).drew))).mono ?_
              rintro e w6 ⟨rfl, hf6⟩
              have F6 := hid hf6
              clear hf6
              refine hK.out _ _ ⟨(F6.out.cell (p := ⟨wr.heap.size, 0, none⟩) CL.out (fun x => x)).trans C0.out, (F6.out.cell (p := ⟨wr.heap.size, 1, none⟩) CL.out (fun x => x)).trans C1.out, (F6.out.cell (p := ⟨wr.heap.size, 2, none⟩) CL.out (fun x => x)).trans C2.out⟩ (fun hHeld2 => ?_)
              clear hK K hHeld
              try simp only [Act.put, List.setIfInBounds_toArray, List.set_cons_zero, List.set_cons_succ]
              refine take35 (v := ?vb35) (by kernel_rfl) (by kernel_rfl) (by kernel_rfl) (fun _ _ _ h => h) (Or.inl ⟨by rfl, ?yb35⟩) (by assumption) ?rb35
              case yb35 => ((intro w hSw; (try dsimp only at hSw); go_simp); try (with_reducible rfl))
              case' rb35 => try simp only [Act.put, List.setIfInBounds_toArray, List.set_cons_zero, List.set_cons_succ]
              refine take36 (v := ?vb36) (by kernel_rfl) (by kernel_rfl) (by kernel_rfl) (fun _ _ _ h => h) (Or.inl ⟨by rfl, ?yb36⟩) (by assumption) ?rb36
              case yb36 => ((intro w hSw; (try dsimp only at hSw); go_simp); try (with_reducible rfl))
              case' rb36 => try simp only [Act.put, List.setIfInBounds_toArray, List.set_cons_zero, List.set_cons_succ]
              refine take37 (v := undef) (by kernel_rfl) (by kernel_rfl) (by kernel_rfl) (fun _ _ _ h => h) (Or.inr ⟨by rfl, rfl⟩) (by assumption) ?_
              try simp only [Act.put, List.setIfInBounds_toArray, List.set_cons_zero, List.set_cons_succ]
              refine take38 (v := undef) (by kernel_rfl) (by kernel_rfl) (by kernel_rfl) (fun _ _ _ h => h) (Or.inr ⟨by rfl, rfl⟩) (by assumption) ?_
              try simp only [Act.put, List.setIfInBounds_toArray, List.set_cons_zero, List.set_cons_succ]
              refine take39 (v := undef) (by kernel_rfl) (by kernel_rfl) (by kernel_rfl) (fun _ _ _ h => h) (Or.inr ⟨by rfl, rfl⟩) (by assumption) ?_
              try simp only [Act.put, List.setIfInBounds_toArray, List.set_cons_zero, List.set_cons_succ]
              refine take40 (v := ?vb40) (by kernel_rfl) (by kernel_rfl) (by kernel_rfl) (fun _ _ _ h => h) (Or.inl ⟨by rfl, ?yb40⟩) (by assumption) ?rb40
              case yb40 => ((intro w hSw; (try dsimp only at hSw); go_simp); try (with_reducible rfl))
              case' rb40 => try simp only [Act.put, List.setIfInBounds_toArray, List.set_cons_zero, List.set_cons_succ]
              refine take41 (v := ?vb41) (by kernel_rfl) (by kernel_rfl) (by kernel_rfl) (fun _ _ _ h => h) (Or.inl ⟨by rfl, ?yb41⟩) (by assumption) ?rb41
              case yb41 => ((intro w hSw; (try dsimp only at hSw); go_simp); try (with_reducible rfl))
              case' rb41 => try simp only [Act.put, List.setIfInBounds_toArray, List.set_cons_zero, List.set_cons_succ]
              refine wpAnyH_done (by kernel_rfl) ?_ _
              try go_wp2_with fail
              go_meet
              exact ⟨rfl, hid (FD.out.tr F6.out), hid ((F6.out.cell (p := ⟨wr.heap.size, 0, none⟩) CL.out (fun x => x)).trans C0.out)⟩
          case rest =>
            obtain ⟨rfl, FA, C6⟩ := hcut
            have y6 := (FA.out.cell (p := ⟨g1, (n + 1) * 3 + 2, none⟩) hgw (fun x => x)).trans y2
            have c6 := C6.out
            clear C0 C1 C2 CL FD
            go_wp2
            rw [HGP.out]
            clear hex
            go_loopw [13] (fun i w' => ∃ k : Nat, k ≤ gp.size ∧ i = .int .i64 k ∧ Hid (∀ j, j < k → byteAt gp.data.toList j ≠ 47) ∧ w' = wc) (fun i _ => gp.size - (intOf i).toNat)
            case atStart => exact ⟨0, Nat.zero_le _, rfl, hid (fun j hj => absurd hj (Nat.not_lt_zero _)), rfl⟩
            case round =>
              obtain ⟨k, hkg, rfl, HN, rfl⟩ := hrel
              by_cases hkl : k < gp.size
              · have hkl2 : (k : Int) < (gp.size : Int) := by omega
                have h0g : 0 < gp.size := by omega
                have h0i : (0 : Int) < (gp.size : Int) := by omega
                obtain ⟨c, hc⟩ : ∃ c, gp[k]'hkl = c := ⟨_, rfl⟩
                have hbc := byteAt_eq gp k hkl
                rw [hc] at hbc
                have hor := GPK.out k hkl HN.out
                rw [hbc] at hor
                have HBC := hid hbc
                clear hbc
                have hk0 : k = 0 ∨ 0 < k ∧ (((gp[0]'h0g).toNat : Int) != 47) = true := by
                  rcases Nat.eq_zero_or_pos k with h | h
                  · exact .inl h
                  · refine .inr ⟨h, bne_iff_ne.2 ?_⟩
                    have := HN.out 0 h
                    rwa [byteAt_eq gp 0 h0g] at this
                have hcs : (c.toNat : Int) = 47 ∨ (c.toNat : Int) = 32 ∨ (c.toNat : Int) = 9 ∨ (c.toNat : Int) = 13 ∨ (c.toNat : Int) = 10 := by
                  rcases hor with h | h
                  · exact .inl h
                  · rw [blank_eq] at h
                    have h := of_decide_eq_true h
                    simp at h
                    rcases h with rfl | rfl | rfl | rfl <;> simp
                have HN2 := hid (show (c.toNat : Int) ≠ 47 → ∀ j, j < k + 1 → byteAt gp.data.toList j ≠ 47 from fun hne j hj => by
                  by_cases e : j = k
                  · rw [e, HBC.out]; exact hne
                  · exact HN.out j (by omega))
                clear hor
                rcases hcs with h | h
                · have hb : ((c.toNat : Int) == 47) = true := beq_iff_eq.2 h
                  rcases hk0 with rfl | ⟨hk0, hk1⟩
                  · go_wp2
                    go_roundw
                    case rel => exact ⟨n + 1, tk.place + 1 + tt.size + 1, by omega, by go_num, by go_num, by omega, EN, hid (F5.out.tr FA.out)⟩
                    case measure => simp [intOf]; omega
                  · have hkz : ((k : Int) == 0) = false := beq_eq_false_iff_ne.2 (by omega)
                    go_wp2
                    go_roundw
                    case rel => exact ⟨n + 1, tk.place + 1 + tt.size + 1, by omega, by go_num, by go_num, by omega, EN, hid (F5.out.tr FA.out)⟩
                    case measure => simp [intOf]; omega
                · have hb : ((c.toNat : Int) == 47) = false := beq_eq_false_iff_ne.2 (by omega)
                  have HN3 := hid (HN2.out (by omega))
                  rcases hk0 with rfl | ⟨hk0, hk1⟩
                  · rcases h with h | h | h | h
                    all_goals
                      go_wp2
                      go_roundw
                      case rel => exact ⟨0 + 1, by omega, by go_num, HN3, trivial⟩
                      case measure => simp [intOf]; omega
                  · have hkz : ((k : Int) == 0) = false := beq_eq_false_iff_ne.2 (by omega)
                    rcases h with h | h | h | h
                    all_goals
                      go_wp2
                      go_roundw
                      case rel => exact ⟨k + 1, by omega, by go_num, HN3, trivial⟩
                      case measure => simp [intOf]; omega
              · have hkl2 : (gp.size : Int) ≤ (k : Int) := by omega
                go_wp2
                go_roundw
                case rel => exact ⟨n + 1, tk.place + 1 + tt.size + 1, by omega, by go_num, by go_num, by omega, EN, hid (F5.out.tr FA.out)⟩
                case measure => simp [intOf]; omega
        · have hk2 : ((tk.kind : Int) == 2) = false := beq_eq_false_iff_ne.2 (by omega)
          have hk2n : ((tk.kind : Int) != 2) = true := bne_iff_ne.2 (by omega)
          have hkw2 := hkw hk
          have hf : tk.from = tk.place := by unfold Tok.from; rw [if_neg hk]
          have htl2 : tk.till = tk.place + tk.text.length := by unfold Tok.till; rw [if_neg hk]
          rw [hf] at hroom hex
          rw [htl2] at htill hgapk hEn
          rw [← htt] at hroom hex htill hgapk hEn
          have he1 : (e : Int) ≤ (tk.place : Int) := by omega
          have he2 : (tk.place : Int) + ((bs tk.text).size : Int) ≤ (t.size : Int) := by omega
          have he3 : (tk.place : Int) + ((bs tk.text).size : Int) ≤ (tk'.place : Int) := by omega
          have GP := hid hgapk
          have EN := hid hEn
          have HW := hid hWd
          clear hgap hgapk hEn hWd htt hf htl2 hkw hk hat htk htk' hlt
          generalize wordB tk.text = wb at *
          have hk4 : ((tk.kind : Int) == 4) = wb := by
            rw [← hkw2]
            by_cases h : tk.kind = 4
            · rw [decide_eq_true h, h]; rfl
            · rw [decide_eq_false h]; exact beq_eq_false_iff_ne.2 (by omega)
          have hww : (wb != wb) = false := by simp
          clear hkw2
          generalize bs tk.text = tt at *
          obtain ⟨gp, hgp⟩ : ∃ gp, t.extract (tk.place + tt.size) tk'.place = gp := ⟨_, rfl⟩
          have hgs : gp.size = tk'.place - (tk.place + tt.size) := by
            rw [← hgp]; simp; omega
          have hge : ∀ j, j < gp.size → byteAt gp.data.toList j = byteAt t.data.toList (tk.place + tt.size + j) := fun j hj => by
            rw [← hgp, Lib.extract_data, byteAt_take' _ (by omega), byteAt_drop]
          have GPK := hid (show ∀ k, k < gp.size → (∀ j, j < k → byteAt gp.data.toList j ≠ 47) → byteAt gp.data.toList k = 47 ∨ blankI (byteAt gp.data.toList k) = true from fun k hk h => by
            rw [hge k hk]
            exact GP.out k (by omega) (fun i hi => by (have := h i hi); rwa [hge i (by omega)] at this))
          have hg7 : gp.size ≤ 700 := by omega
          have HGP := hid hgp
          clear hgs hge hgp
          go_upto_region 17 with fail
          have C0 := hid (show (wr.alloc (.cells #[.int .i64 tk.kind, .string tt, .int .i64 tk.place] 29)).cell? ⟨wr.heap.size, 0, none⟩ = some (.int .i64 tk.kind) from (Blk.new wr 29 _).cell 0)
          have C1 := hid (show (wr.alloc (.cells #[.int .i64 tk.kind, .string tt, .int .i64 tk.place] 29)).cell? ⟨wr.heap.size, 1, none⟩ = some (.string tt) from (Blk.new wr 29 _).cell 1)
          have C2 := hid (show (wr.alloc (.cells #[.int .i64 tk.kind, .string tt, .int .i64 tk.place] 29)).cell? ⟨wr.heap.size, 2, none⟩ = some (.int .i64 tk.place) from (Blk.new wr 29 _).cell 2)
          have CL := hid (show wr.heap.size < (wr.alloc (.cells #[.int .i64 tk.kind, .string tt, .int .i64 tk.place] 29)).heap.size by simp)
          have FD := hid (show Fr nob wr (wr.alloc (.cells #[.int .i64 tk.kind, .string tt, .int .i64 tk.place] 29)).drew from ((Fr.refl nob wr).alloc _).drew)
          go_cut [119] (fun c wx => c = .bool false ∧ Hid (Fr nob wr wx) ∧ Hid (wx.cell? ⟨wr.heap.size, 0, none⟩ = some (.int .i64 tk.kind)))
          case first =>
            have d1 : decide (tk.place < e) = false := decide_eq_false (by omega)
            have d9 : decide (t.size < tk.place + tt.size) = false := decide_eq_false (by omega)
            have d2 : decide ((t.size : Int) < (tk.place : Int) + (tt.size : Int)) = false := decide_eq_false (by omega)
            have d3 : ((tk.place : Int)).toNat = tk.place := by omega
            have d4 : ((tk.place : Int) + (tt.size : Int)).toNat = tk.place + tt.size := by omega
            have d7 : (0 : Int) ≤ (tk.place : Int) + (tt.size : Int) := by omega
            have d8 : (tk.place : Int) ≤ (tk.place : Int) + (tt.size : Int) := by omega
            have d5 : IntKind.i64.wrap ((tk.place : Int) + (tt.size : Int)) = (tk.place : Int) + (tt.size : Int) := IntWalk.i64_in _ (by omega)
            clear y2 x0 x1 x2 HGP GPK EN HTL HSH R HA
            refine wp_region_held_drew (S := (fun wx => wx.cell? ⟨wr.heap.size, 0, none⟩ = some (.int .i64 tk.kind) ∧ wx.cell? ⟨wr.heap.size, 1, none⟩ = some (.string tt) ∧ wx.cell? ⟨wr.heap.size, 2, none⟩ = some (.int .i64 tk.place))) (by kernel_rfl) ⟨C0.out, C1.out, C2.out⟩ (fun hHeld => ?_)
            refine take0 (v := ?vc0) (by kernel_rfl) (by kernel_rfl) (by kernel_rfl) (fun _ _ _ h => h) (Or.inl ⟨by rfl, ?yc0⟩) (by assumption) ?rc0
            case yc0 => ((intro w hSw; (try dsimp only at hSw); go_simp); try (with_reducible rfl))
            case' rc0 => try simp only [Act.put, List.setIfInBounds_toArray, List.set_cons_zero, List.set_cons_succ]
            refine take1 (v := ?vc1) (by kernel_rfl) (by kernel_rfl) (by kernel_rfl) (fun _ _ _ h => h) (Or.inl ⟨by rfl, ?yc1⟩) (by assumption) ?rc1
            case yc1 => ((intro w hSw; (try dsimp only at hSw); go_simp); try (with_reducible rfl))
            case' rc1 => try simp only [Act.put, List.setIfInBounds_toArray, List.set_cons_zero, List.set_cons_succ]
            refine take2 (v := ?vc2) (by kernel_rfl) (by kernel_rfl) (by kernel_rfl) (fun _ _ _ h => h) (Or.inl ⟨by rfl, ?yc2⟩) (by assumption) ?rc2
            case yc2 => ((intro w hSw; (try dsimp only at hSw); go_simp); try (with_reducible rfl))
            case' rc2 => try simp only [Act.put, List.setIfInBounds_toArray, List.set_cons_zero, List.set_cons_succ]
            refine take3 (v := ?vc3) (by kernel_rfl) (by kernel_rfl) (by kernel_rfl) (fun _ _ _ h => h) (Or.inl ⟨by rfl, ?yc3⟩) (by assumption) ?rc3
            case yc3 => ((intro w hSw; (try dsimp only at hSw); go_simp); try (with_reducible rfl))
            case' rc3 => try simp only [Act.put, List.setIfInBounds_toArray, List.set_cons_zero, List.set_cons_succ]
            refine take4 (v := ?vc4) (by kernel_rfl) (by kernel_rfl) (by kernel_rfl) (fun _ _ _ h => h) (Or.inl ⟨by rfl, ?yc4⟩) (by assumption) ?rc4
            case yc4 => ((intro w hSw; (try dsimp only at hSw); go_simp); try (with_reducible rfl))
            case' rc4 => try simp only [Act.put, List.setIfInBounds_toArray, List.set_cons_zero, List.set_cons_succ]
            refine take5 (v := ?vc5) (by kernel_rfl) (by kernel_rfl) (by kernel_rfl) (fun _ _ _ h => h) (Or.inl ⟨by rfl, ?yc5⟩) (by assumption) ?rc5
            case yc5 => ((intro w hSw; (try dsimp only at hSw); go_simp); try (with_reducible rfl))
            case' rc5 => try simp only [Act.put, List.setIfInBounds_toArray, List.set_cons_zero, List.set_cons_succ]
            refine take6 (v := ?vc6) (by kernel_rfl) (by kernel_rfl) (by kernel_rfl) (fun _ _ _ h => h) (Or.inl ⟨by rfl, ?yc6⟩) (by assumption) ?rc6
            case yc6 => ((intro w hSw; (try dsimp only at hSw); go_simp); try (with_reducible rfl))
            case' rc6 => try simp only [Act.put, List.setIfInBounds_toArray, List.set_cons_zero, List.set_cons_succ]
            refine take7 (v := ?vc7) (by kernel_rfl) (by kernel_rfl) (by kernel_rfl) (fun _ _ _ h => h) (Or.inl ⟨by rfl, ?yc7⟩) (by assumption) ?rc7
            case yc7 => ((intro w hSw; (try dsimp only at hSw); go_simp); try (with_reducible rfl))
            case' rc7 => try simp only [Act.put, List.setIfInBounds_toArray, List.set_cons_zero, List.set_cons_succ]
            refine take8 (v := ?vc8) (by kernel_rfl) (by kernel_rfl) (by kernel_rfl) (fun _ _ _ h => h) (Or.inl ⟨by rfl, ?yc8⟩) (by assumption) ?rc8
            case yc8 => ((intro w hSw; (try dsimp only at hSw); go_simp); try (with_reducible rfl))
            case' rc8 => try simp only [Act.put, List.setIfInBounds_toArray, List.set_cons_zero, List.set_cons_succ]
            refine take9 (v := ?vc9) (by kernel_rfl) (by kernel_rfl) (by kernel_rfl) (fun _ _ _ h => h) (Or.inl ⟨by rfl, ?yc9⟩) (by assumption) ?rc9
            case yc9 => ((intro w hSw; (try dsimp only at hSw); go_simp); try (with_reducible rfl))
            case' rc9 => try simp only [Act.put, List.setIfInBounds_toArray, List.set_cons_zero, List.set_cons_succ]
            refine take10 (v := ?vc10) (by kernel_rfl) (by kernel_rfl) (by kernel_rfl) (fun _ _ _ h => h) (Or.inl ⟨by rfl, ?yc10⟩) (by assumption) ?rc10
            case yc10 => ((intro w hSw; (try dsimp only at hSw); go_simp); try (with_reducible rfl))
            case' rc10 => try simp only [Act.put, List.setIfInBounds_toArray, List.set_cons_zero, List.set_cons_succ]
            refine take11 (v := ?vc11) (by kernel_rfl) (by kernel_rfl) (by kernel_rfl) (fun _ _ _ h => h) (Or.inl ⟨by rfl, ?yc11⟩) (by assumption) ?rc11
            case yc11 => ((intro w hSw; (try dsimp only at hSw); go_simp); try (with_reducible rfl))
            case' rc11 => try simp only [Act.put, List.setIfInBounds_toArray, List.set_cons_zero, List.set_cons_succ]
            refine take12 (v := ?vc12) (by kernel_rfl) (by kernel_rfl) (by kernel_rfl) (fun _ _ _ h => h) (Or.inl ⟨by rfl, ?yc12⟩) (by assumption) ?rc12
            case yc12 => ((intro w hSw; (try dsimp only at hSw); go_simp); try (with_reducible rfl))
            case' rc12 => try simp only [Act.put, List.setIfInBounds_toArray, List.set_cons_zero, List.set_cons_succ]
            refine take13 (v := ?vc13) (by kernel_rfl) (by kernel_rfl) (by kernel_rfl) (fun _ _ _ h => h) (Or.inl ⟨by rfl, ?yc13⟩) (by assumption) ?rc13
            case yc13 => ((intro w hSw; (try dsimp only at hSw); go_simp); try (with_reducible rfl))
            case' rc13 => try simp only [Act.put, List.setIfInBounds_toArray, List.set_cons_zero, List.set_cons_succ]
            refine take14 (v := ?vc14) (by kernel_rfl) (by kernel_rfl) (by kernel_rfl) (fun _ _ _ h => h) (Or.inl ⟨by rfl, ?yc14⟩) (by assumption) ?rc14
            case yc14 => ((intro w hSw; (try dsimp only at hSw); go_simp); try (with_reducible rfl))
            case' rc14 => try simp only [Act.put, List.setIfInBounds_toArray, List.set_cons_zero, List.set_cons_succ]
            refine take15 (v := ?vc15) (by kernel_rfl) (by kernel_rfl) (by kernel_rfl) (fun _ _ _ h => h) (Or.inl ⟨by rfl, ?yc15⟩) (by assumption) ?rc15
            case yc15 => ((intro w hSw; (try dsimp only at hSw); go_simp); try (with_reducible rfl))
            case' rc15 => try simp only [Act.put, List.setIfInBounds_toArray, List.set_cons_zero, List.set_cons_succ]
            refine take16 (v := ?vc16) (by kernel_rfl) (by kernel_rfl) (by kernel_rfl) (fun _ _ _ h => h) (Or.inl ⟨by rfl, ?yc16⟩) (by assumption) ?rc16
            case yc16 => ((intro w hSw; (try dsimp only at hSw); go_simp); try (with_reducible rfl))
            case' rc16 => try simp only [Act.put, List.setIfInBounds_toArray, List.set_cons_zero, List.set_cons_succ]
            refine take17 (v := ?vc17) (by kernel_rfl) (by kernel_rfl) (by kernel_rfl) (fun _ _ _ h => h) (Or.inl ⟨by rfl, ?yc17⟩) (by assumption) ?rc17
            case yc17 => ((intro w hSw; (try dsimp only at hSw); go_simp); try (with_reducible rfl))
            case' rc17 => try simp only [Act.put, List.setIfInBounds_toArray, List.set_cons_zero, List.set_cons_succ]
            refine take18 (v := ?vc18) (by kernel_rfl) (by kernel_rfl) (by kernel_rfl) (fun _ _ _ h => h) (Or.inl ⟨by rfl, ?yc18⟩) (by assumption) ?rc18
            case yc18 => ((intro w hSw; (try dsimp only at hSw); go_simp); try (with_reducible rfl))
            case' rc18 => try simp only [Act.put, List.setIfInBounds_toArray, List.set_cons_zero, List.set_cons_succ]
            refine take19 (v := ?vc19) (by kernel_rfl) (by kernel_rfl) (by kernel_rfl) (fun _ _ _ h => h) (Or.inl ⟨by rfl, ?yc19⟩) (by assumption) ?rc19
            case yc19 => ((intro w hSw; (try dsimp only at hSw); go_simp); try (with_reducible rfl))
            case' rc19 => try simp only [Act.put, List.setIfInBounds_toArray, List.set_cons_zero, List.set_cons_succ]
            refine take20 (v := ?vc20) (by kernel_rfl) (by kernel_rfl) (by kernel_rfl) (fun _ _ _ h => h) (Or.inl ⟨by rfl, ?yc20⟩) (by assumption) ?rc20
            case yc20 => ((intro w hSw; (try dsimp only at hSw); go_simp); try (with_reducible rfl))
            case' rc20 => try simp only [Act.put, List.setIfInBounds_toArray, List.set_cons_zero, List.set_cons_succ]
            refine take21 (v := ?vc21) (by kernel_rfl) (by kernel_rfl) (by kernel_rfl) (fun _ _ _ h => h) (Or.inl ⟨by rfl, ?yc21⟩) (by assumption) ?rc21
            case yc21 => ((intro w hSw; (try dsimp only at hSw); go_simp); try (with_reducible rfl))
            case' rc21 => try simp only [Act.put, List.setIfInBounds_toArray, List.set_cons_zero, List.set_cons_succ]
            refine take22 (v := ?vc22) (by kernel_rfl) (by kernel_rfl) (by kernel_rfl) (fun _ _ _ h => h) (Or.inl ⟨by rfl, ?yc22⟩) (by assumption) ?rc22
            case yc22 => ((intro w hSw; (try dsimp only at hSw); go_simp); try (with_reducible rfl))
            case' rc22 => try simp only [Act.put, List.setIfInBounds_toArray, List.set_cons_zero, List.set_cons_succ]
            refine take23 (v := ?vc23) (by kernel_rfl) (by kernel_rfl) (by kernel_rfl) (fun _ _ _ h => h) (Or.inl ⟨by rfl, ?yc23⟩) (by assumption) ?rc23
            case yc23 => ((intro w hSw; (try dsimp only at hSw); go_simp); try (with_reducible rfl))
            case' rc23 => try simp only [Act.put, List.setIfInBounds_toArray, List.set_cons_zero, List.set_cons_succ]
            refine take24 (v := ?vc24) (by kernel_rfl) (by kernel_rfl) (by kernel_rfl) (fun _ _ _ h => h) (Or.inl ⟨by rfl, ?yc24⟩) (by assumption) ?rc24
            case yc24 => ((intro w hSw; (try dsimp only at hSw); go_simp); try (with_reducible rfl))
            case' rc24 => try simp only [Act.put, List.setIfInBounds_toArray, List.set_cons_zero, List.set_cons_succ]
            refine take25 (v := ?vc25) (by kernel_rfl) (by kernel_rfl) (by kernel_rfl) (fun _ _ _ h => h) (Or.inl ⟨by rfl, ?yc25⟩) (by assumption) ?rc25
            case yc25 => ((intro w hSw; (try dsimp only at hSw); go_simp); try (with_reducible rfl))
            case' rc25 => try simp only [Act.put, List.setIfInBounds_toArray, List.set_cons_zero, List.set_cons_succ]
            refine take26 (v := ?vc26) (by kernel_rfl) (by kernel_rfl) (by kernel_rfl) (fun _ _ _ h => h) (Or.inl ⟨by rfl, ?yc26⟩) (by assumption) ?rc26
            case yc26 => ((intro w hSw; (try dsimp only at hSw); go_simp); try (with_reducible rfl))
            case' rc26 => try simp only [Act.put, List.setIfInBounds_toArray, List.set_cons_zero, List.set_cons_succ]
            refine take27 (v := ?vc27) (by kernel_rfl) (by kernel_rfl) (by kernel_rfl) (fun _ _ _ h => h) (Or.inl ⟨by rfl, ?yc27⟩) (by assumption) ?rc27
            case yc27 => ((intro w hSw; (try dsimp only at hSw); go_simp); try (with_reducible rfl))
            case' rc27 => try simp only [Act.put, List.setIfInBounds_toArray, List.set_cons_zero, List.set_cons_succ]
            refine take28 (v := ?vc28) (by kernel_rfl) (by kernel_rfl) (by kernel_rfl) (fun _ _ _ h => h) (Or.inl ⟨by rfl, ?yc28⟩) (by assumption) ?rc28
            case yc28 => ((intro w hSw; (try dsimp only at hSw); go_simp); try (with_reducible rfl))
            case' rc28 => try simp only [Act.put, List.setIfInBounds_toArray, List.set_cons_zero, List.set_cons_succ]
            refine take29 (v := ?vc29) (by kernel_rfl) (by kernel_rfl) (by kernel_rfl) (fun _ _ _ h => h) (Or.inl ⟨by rfl, ?yc29⟩) (by assumption) ?rc29
            case yc29 => ((intro w hSw; (try dsimp only at hSw); go_simp); try (with_reducible rfl))
            case' rc29 => try simp only [Act.put, List.setIfInBounds_toArray, List.set_cons_zero, List.set_cons_succ]
            refine take30 (v := ?vc30) (by kernel_rfl) (by kernel_rfl) (by kernel_rfl) (fun _ _ _ h => h) (Or.inl ⟨by rfl, ?yc30⟩) (by assumption) ?rc30
            case yc30 => ((intro w hSw; (try dsimp only at hSw); go_simp); try (with_reducible rfl))
            case' rc30 => try simp only [Act.put, List.setIfInBounds_toArray, List.set_cons_zero, List.set_cons_succ]
            refine take31 (v := ?vc31) (by kernel_rfl) (by kernel_rfl) (by kernel_rfl) (fun _ _ _ h => h) (Or.inl ⟨by rfl, ?yc31⟩) (by assumption) ?rc31
            case yc31 => ((intro w hSw; (try dsimp only at hSw); go_simp); try (with_reducible rfl))
            case' rc31 => try simp only [Act.put, List.setIfInBounds_toArray, List.set_cons_zero, List.set_cons_succ]
            refine take32 (v := ?vc32) (by kernel_rfl) (by kernel_rfl) (by kernel_rfl) (fun _ _ _ h => h) (Or.inl ⟨by rfl, ?yc32⟩) (by assumption) ?rc32
            case yc32 => ((intro w hSw; (try dsimp only at hSw); go_simp); try (with_reducible rfl))
            case' rc32 => try simp only [Act.put, List.setIfInBounds_toArray, List.set_cons_zero, List.set_cons_succ]
            refine take33 (v := ?vc33) (by kernel_rfl) (by kernel_rfl) (by kernel_rfl) (fun _ _ _ h => h) (Or.inl ⟨by rfl, ?yc33⟩) (by assumption) ?rc33
            case yc33 => ((intro w hSw; (try dsimp only at hSw); go_simp); try (with_reducible rfl))
            case' rc33 => try simp only [Act.put, List.setIfInBounds_toArray, List.set_cons_zero, List.set_cons_succ]
            refine wpAnyH_ready (rs := [34]) (by kernel_rfl) (by simp) ?_
            refine AllReadyH.cons rfl (fun K hK => ?_) AllReadyH.nil
            go_simp
            go_at_call 14
            refine (HW.out _ ((((V.out.fr F1.out).fr F2.out).fr F5.out).fr (((Fr.refl nob _).alloc _).drew))).mono ?_
            rintro e w6 ⟨rfl, hf6⟩
            have F6 := hid hf6
            clear hf6
            refine hK.out _ _ ⟨(F6.out.cell (p := ⟨wr.heap.size, 0, none⟩) CL.out (fun x => x)).trans C0.out, (F6.out.cell (p := ⟨wr.heap.size, 1, none⟩) CL.out (fun x => x)).trans C1.out, (F6.out.cell (p := ⟨wr.heap.size, 2, none⟩) CL.out (fun x => x)).trans C2.out⟩ (fun hHeld2 => ?_)
            clear hK K hHeld
            try simp only [Act.put, List.setIfInBounds_toArray, List.set_cons_zero, List.set_cons_succ]
            refine take35 (v := ?vc35) (by kernel_rfl) (by kernel_rfl) (by kernel_rfl) (fun _ _ _ h => h) (Or.inl ⟨by rfl, ?yc35⟩) (by assumption) ?rc35
            case yc35 => ((intro w hSw; (try dsimp only at hSw); go_simp); try (with_reducible rfl))
            case' rc35 => try simp only [Act.put, List.setIfInBounds_toArray, List.set_cons_zero, List.set_cons_succ]
            refine take36 (v := ?vc36) (by kernel_rfl) (by kernel_rfl) (by kernel_rfl) (fun _ _ _ h => h) (Or.inl ⟨by rfl, ?yc36⟩) (by assumption) ?rc36
            case yc36 => ((intro w hSw; (try dsimp only at hSw); go_simp); try (with_reducible rfl))
            case' rc36 => try simp only [Act.put, List.setIfInBounds_toArray, List.set_cons_zero, List.set_cons_succ]
            refine take37 (v := undef) (by kernel_rfl) (by kernel_rfl) (by kernel_rfl) (fun _ _ _ h => h) (Or.inr ⟨by rfl, rfl⟩) (by assumption) ?_
            try simp only [Act.put, List.setIfInBounds_toArray, List.set_cons_zero, List.set_cons_succ]
            refine take38 (v := undef) (by kernel_rfl) (by kernel_rfl) (by kernel_rfl) (fun _ _ _ h => h) (Or.inr ⟨by rfl, rfl⟩) (by assumption) ?_
            try simp only [Act.put, List.setIfInBounds_toArray, List.set_cons_zero, List.set_cons_succ]
            refine take39 (v := undef) (by kernel_rfl) (by kernel_rfl) (by kernel_rfl) (fun _ _ _ h => h) (Or.inr ⟨by rfl, rfl⟩) (by assumption) ?_
            try simp only [Act.put, List.setIfInBounds_toArray, List.set_cons_zero, List.set_cons_succ]
            refine take40 (v := ?vc40) (by kernel_rfl) (by kernel_rfl) (by kernel_rfl) (fun _ _ _ h => h) (Or.inl ⟨by rfl, ?yc40⟩) (by assumption) ?rc40
            case yc40 => ((intro w hSw; (try dsimp only at hSw); go_simp); try (with_reducible rfl))
            case' rc40 => try simp only [Act.put, List.setIfInBounds_toArray, List.set_cons_zero, List.set_cons_succ]
            refine take41 (v := ?vc41) (by kernel_rfl) (by kernel_rfl) (by kernel_rfl) (fun _ _ _ h => h) (Or.inl ⟨by rfl, ?yc41⟩) (by assumption) ?rc41
            case yc41 => ((intro w hSw; (try dsimp only at hSw); go_simp); try (with_reducible rfl))
            case' rc41 => try simp only [Act.put, List.setIfInBounds_toArray, List.set_cons_zero, List.set_cons_succ]
            refine wpAnyH_done (by kernel_rfl) ?_ _
            try go_wp2_with fail
            go_meet
            exact ⟨rfl, hid (FD.out.tr F6.out), hid ((F6.out.cell (p := ⟨wr.heap.size, 0, none⟩) CL.out (fun x => x)).trans C0.out)⟩
          case rest =>
            obtain ⟨rfl, FA, C6⟩ := hcut
            have y6 := (FA.out.cell (p := ⟨g1, (n + 1) * 3 + 2, none⟩) hgw (fun x => x)).trans y2
            have c6 := C6.out
            clear C0 C1 C2 CL FD
            go_wp2
            rw [HGP.out]
            clear hex
            go_loopw [13] (fun i w' => ∃ k : Nat, k ≤ gp.size ∧ i = .int .i64 k ∧ Hid (∀ j, j < k → byteAt gp.data.toList j ≠ 47) ∧ w' = wc) (fun i _ => gp.size - (intOf i).toNat)
            case atStart => exact ⟨0, Nat.zero_le _, rfl, hid (fun j hj => absurd hj (Nat.not_lt_zero _)), rfl⟩
            case round =>
              obtain ⟨k, hkg, rfl, HN, rfl⟩ := hrel
              by_cases hkl : k < gp.size
              · have hkl2 : (k : Int) < (gp.size : Int) := by omega
                have h0g : 0 < gp.size := by omega
                have h0i : (0 : Int) < (gp.size : Int) := by omega
                obtain ⟨c, hc⟩ : ∃ c, gp[k]'hkl = c := ⟨_, rfl⟩
                have hbc := byteAt_eq gp k hkl
                rw [hc] at hbc
                have hor := GPK.out k hkl HN.out
                rw [hbc] at hor
                have HBC := hid hbc
                clear hbc
                have hk0 : k = 0 ∨ 0 < k ∧ (((gp[0]'h0g).toNat : Int) != 47) = true := by
                  rcases Nat.eq_zero_or_pos k with h | h
                  · exact .inl h
                  · refine .inr ⟨h, bne_iff_ne.2 ?_⟩
                    have := HN.out 0 h
                    rwa [byteAt_eq gp 0 h0g] at this
                have hcs : (c.toNat : Int) = 47 ∨ (c.toNat : Int) = 32 ∨ (c.toNat : Int) = 9 ∨ (c.toNat : Int) = 13 ∨ (c.toNat : Int) = 10 := by
                  rcases hor with h | h
                  · exact .inl h
                  · rw [blank_eq] at h
                    have h := of_decide_eq_true h
                    simp at h
                    rcases h with rfl | rfl | rfl | rfl <;> simp
                have HN2 := hid (show (c.toNat : Int) ≠ 47 → ∀ j, j < k + 1 → byteAt gp.data.toList j ≠ 47 from fun hne j hj => by
                  by_cases e : j = k
                  · rw [e, HBC.out]; exact hne
                  · exact HN.out j (by omega))
                clear hor
                rcases hcs with h | h
                · have hb : ((c.toNat : Int) == 47) = true := beq_iff_eq.2 h
                  rcases hk0 with rfl | ⟨hk0, hk1⟩
                  · go_wp2
                    go_roundw
                    case rel => exact ⟨n + 1, tk.place + tt.size, by omega, by go_num, by go_num, by omega, EN, hid (F5.out.tr FA.out)⟩
                    case measure => simp [intOf]; omega
                  · have hkz : ((k : Int) == 0) = false := beq_eq_false_iff_ne.2 (by omega)
                    go_wp2
                    go_roundw
                    case rel => exact ⟨n + 1, tk.place + tt.size, by omega, by go_num, by go_num, by omega, EN, hid (F5.out.tr FA.out)⟩
                    case measure => simp [intOf]; omega
                · have hb : ((c.toNat : Int) == 47) = false := beq_eq_false_iff_ne.2 (by omega)
                  have HN3 := hid (HN2.out (by omega))
                  rcases hk0 with rfl | ⟨hk0, hk1⟩
                  · rcases h with h | h | h | h
                    all_goals
                      go_wp2
                      go_roundw
                      case rel => exact ⟨0 + 1, by omega, by go_num, HN3, trivial⟩
                      case measure => simp [intOf]; omega
                  · have hkz : ((k : Int) == 0) = false := beq_eq_false_iff_ne.2 (by omega)
                    rcases h with h | h | h | h
                    all_goals
                      go_wp2
                      go_roundw
                      case rel => exact ⟨k + 1, by omega, by go_num, HN3, trivial⟩
                      case measure => simp [intOf]; omega
              · have hkl2 : (gp.size : Int) ≤ (k : Int) := by omega
                go_wp2
                go_roundw
                case rel => exact ⟨n + 1, tk.place + tt.size, by omega, by go_num, by go_num, by omega, EN, hid (F5.out.tr FA.out)⟩
                case measure => simp [intOf]; omega
      · have hge1 : (K.length : Int) - 1 ≤ (n : Int) := by omega
        go_wp2
        go_ret
        exact ⟨rfl, (F1.out.tr F2.out).tr F5.out⟩
end Go.Proofs.YtcodonidmopodaaDoor
