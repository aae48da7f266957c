/- MK4: CkH, CkHW, CkAllA, CkAllC, CkLt. -/
import Derived.Test.YtlbjicjinnnboaaDoorMSg
import Derived.Test.YtlbjicjinnnboaaDoorMKS
import Derived.Test.YtlbjicjinnnboaaDoorMK1
import Derived.Test.YtlbjicjinnnboaaDoorMKF
set_option linter.unusedVariables false
set_option linter.unusedSimpArgs false
/- The document's checker: heads. -/
namespace Go.Proofs.YtlbjicjinnnboaaDoor
open Go.RowKit
open Pw
theorem twiceC_snoc (f : FuncM) : ∀ (l : List FuncM) (seen : List (List UInt8)), twiceC seen (l ++ [f]) = (twiceC seen l).or (if f.name ∈ seen ++ l.map (·.name) then some f.body else none)
 | [], seen => by
  show (if f.name ∈ seen then some f.body else twiceC (seen ++ [f.name]) []) = _
  show (if f.name ∈ seen then some f.body else none) = _
  simp [twiceC]
 | a :: l, seen => by
  show (if a.name ∈ seen then some a.body else twiceC (seen ++ [a.name]) (l ++ [f])) = ((if a.name ∈ seen then some a.body else twiceC (seen ++ [a.name]) l)).or _
  by_cases h : a.name ∈ seen
  · rw [if_pos h, if_pos h]; rfl
  · rw [if_neg h, if_neg h, twiceC_snoc f l]
    simp
def hcells (nv fv a b c z vv : Value) (k size e p : Nat) : Array Value :=
 #[nv, fv, a, b, c, z, .int .i64 (k : Nat), vv, .int .i64 (size : Nat), .int .i64 (e : Nat), .int .i64 (p : Nat)]
section
variable {w w' : World} {g k size e p : Nat} {nv fv a b c z vv : Value} {lvs pvs : List Value} {ns : List NodeM} {fs : List FuncM}
set_option maxHeartbeats 1600000 in
set_option maxRecDepth 100000 in
theorem cfails_raw (hb : Blk w g 67 (hcells nv fv a b c z vv k size e p)) (e' x : Nat) (he' : e' ≠ 0) :
   Calls Tryd.prog 31 #[.pointer (some ⟨g, 0, none⟩), .int .i64 e', .int .i64 x] w fun en w' => en = .returned (.tuple #[]) ∧ Blk w' g 67 (hcells nv fv a b c z vv k size (if e = 0 then e' else e) (if e = 0 then x else p)) ∧ Fr (oneb g) w w' := by
 have c9 : w.cell? ⟨g, 9, none⟩ = some (.int .i64 (e : Nat)) := by rw [hb.cell]; rfl
 have c10 : w.cell? ⟨g, 10, none⟩ = some (.int .i64 (p : Nat)) := by rw [hb.cell]; rfl
 have f9 := hb.frozen 9
 have f10 := hb.frozen 10
 have hg := hb.lt
 have H := hid hb
 by_cases he : e = 0
 · have heb : ((e : Int) == 0) = true := by rw [he]; rfl
   rw [if_pos he, if_pos he]
   have S1 := hid (hb.setCell 9 (.int .i64 (e' : Nat)))
   clear hb he
   go_enter Tryd.func31, Tryd.ntmps31
   go_wp2_with fail
   have F1 := hid (show Fr (oneb g) w (w.setCell ⟨g, 9, none⟩ (.int .i64 (e' : Nat))) from (Fr.refl _ w).setCell _ _ (fun _ => rfl))
   generalize w.setCell ⟨g, 9, none⟩ (.int .i64 (e' : Nat)) = w1 at *
   have S2 := hid (S1.out.setCell 10 (.int .i64 (x : Nat)))
   have F2 := hid (F1.out.setCell ⟨g, 10, none⟩ (.int .i64 (x : Nat)) (fun _ => rfl))
   have f10' := S1.out.frozen 10
   have c10' : w1.cell? ⟨g, 10, none⟩ = some (.int .i64 (p : Nat)) := by rw [S1.out.cell]; rfl
   clear c9 c10 f9 f10 heb
   go_wp2_with fail
   exact bodyPost_end (results_none rfl _ _ _) rfl ⟨rfl, S2.out, F2.out⟩
 · have heb : ((e : Int) == 0) = false := beq_eq_false_iff_ne.2 (by omega)
   rw [if_neg he, if_neg he]
   clear hb he
   go_enter Tryd.func31, Tryd.ntmps31
   go_wp2_with fail
   exact bodyPost_end (results_none rfl _ _ _) rfl ⟨rfl, H.out, Fr.refl _ _⟩
def stE : Option Nat → Nat | none => 0 | some _ => 41
def stP : Option Nat → Nat | none => 0 | some b => b
theorem st_or (o : Option Nat) (x : Nat) : (if stE o = 0 then 41 else stE o) = stE (o.or (some x)) ∧ (if stE o = 0 then x else stP o) = stP (o.or (some x)) := by
 cases o <;> simp [stE, stP]
def sameN (fs : List FuncM) (nm : List UInt8) : Bool := fs.any fun g => decide (g.name = nm)
theorem sameN_mem (fs : List FuncM) (nm : List UInt8) (x : Nat) : (if sameN fs nm = true then some x else none) = (if nm ∈ fs.map (·.name) then some x else (none : Option Nat)) := by
 have : sameN fs nm = true ↔ nm ∈ fs.map (·.name) := by
   unfold sameN
   rw [List.any_eq_true, List.mem_map]
   constructor
   · rintro ⟨g, hg, h⟩; exact ⟨g, hg, by simpa using h⟩
   · rintro ⟨g, hg, h⟩; exact ⟨g, hg, by simpa using h⟩
 by_cases h : sameN fs nm = true
 · rw [if_pos h, if_pos (this.1 h)]
 · rw [if_neg h, if_neg (fun h2 => h (this.2 h2))]
theorem sameN_take {f : FuncM} {j : Nat} (hf : fs[j]? = some f) (nm : List UInt8) : sameN (fs.take (j + 1)) nm = (sameN (fs.take j) nm || decide (f.name = nm)) := by
 unfold sameN
 rw [List.take_add_one, hf, List.any_append]; simp
theorem anyMain_take {f : FuncM} {j : Nat} (hf : fs[j]? = some f) : (fs.take (j + 1)).any isMain = ((fs.take j).any isMain || isMain f) := by
 rw [List.take_add_one, hf, List.any_append]; simp
theorem TreeAt.fn2 {B fb c : Nat} {w : World} {nv : Value} (h : TreeAt B w nv (.slice (some ⟨fb, 0, none⟩) fs.length c) lvs pvs ns fs) {j : Nat} {f : FuncM} (hf : fs[j]? = some f) : ∃ pv, Own w 80 2 pv f.params.length (paramCells f.params) ∧
  w.cell? ⟨fb, j * 5, none⟩ = some (.string (bs f.name)) ∧ w.cell? ⟨fb, j * 5 + 1, none⟩ = some (.int .i64 f.line) ∧ w.cell? ⟨fb, j * 5 + 2, none⟩ = some pv ∧ w.cell? ⟨fb, j * 5 + 3, none⟩ = some (.int .i64 f.ret) ∧ w.cell? ⟨fb, j * 5 + 4, none⟩ = some (.int .i64 f.body) := by
 have hlt := (List.getElem?_eq_some_iff.1 hf).1
 obtain ⟨fb', e, hcell⟩ := h.fns.some (by omega)
 injection e with e
 injection e with e
 subst e
 obtain ⟨pv, hpv⟩ : ∃ pv, pvs[j]? = some pv := ⟨_, List.getElem?_eq_getElem (by have := h.samef; omega)⟩
 have key := fnCells_all hf hpv
 exact ⟨pv, h.pars.get hf hpv, hcell _ _ (key 0 _ rfl), hcell _ _ (key 1 _ rfl), hcell _ _ (key 2 _ rfl), hcell _ _ (key 3 _ rfl), hcell _ _ (key 4 _ rfl)⟩
set_option maxHeartbeats 8000000 in
set_option maxRecDepth 100000 in
theorem cheads_any (hb : Blk w g 67 (hcells nv fv a b c z vv k size 0 0)) (ht : TreeAt 0 w nv fv lvs pvs ns fs) (hf6 : fs.length ≤ 6) (hp3 : ∀ f ∈ fs, f.params.length ≤ 3) :
  Calls Tryd.prog 18 #[.pointer (some ⟨g, 0, none⟩)] w fun en w' => en = .returned (.tuple #[]) ∧ Fr (oneb g) w w' ∧ ∃ e p, Blk w' g 67 (hcells nv fv a b c z vv k size e p) ∧ ((e = 0 ∧ p = 0 ∧ headsC fs = .good ()) ∨ (e ≠ 0 ∧ e ≤ 99 ∧ headsC fs = .bad e p)) := by
 obtain ⟨FA, FC, rfl, -, -⟩ := ht.fns.cap
 have c1 : w.cell? ⟨g, 1, none⟩ = some (.slice FA fs.length FC) := by rw [hb.cell]; rfl
 have glt := hb.lt
 have hf7 : (fs.length : Int) ≤ 6 := by omega
 have B0 := hid hb
 have T0 := hid ht
 have HP := hid hp3
 clear hb ht hp3 hf6
 go_enter Tryd.func18, Tryd.ntmps18
 go_wp2_with fail
 clear c1 glt
 go_loopw [3, 4] (fun m i wr => ∃ j : Nat, j ≤ fs.length ∧ i = .int .i64 j ∧ m = .bool ((fs.take j).any isMain) ∧ Hid (Blk wr g 67 (hcells nv (.slice FA fs.length FC) a b c z vv k size (stE (twiceC [] (fs.take j))) (stP (twiceC [] (fs.take j))))) ∧ Hid (Fr (oneb g) w wr)) (fun m i _ => fs.length - (intOf i).toNat)
 case atStart => exact ⟨0, Nat.zero_le _, rfl, rfl, B0, hid (Fr.refl _ w)⟩
 case round =>
  obtain ⟨j, hj, rfl, rfl, B, FR⟩ := hrel
  by_cases hlt : j < fs.length
  · have hlt2 : (j : Int) < (fs.length : Int) := by omega
    have hj6 : (j : Int) ≤ 6 := by omega
    obtain ⟨f, hf⟩ : ∃ f, fs[j]? = some f := ⟨_, List.getElem?_eq_getElem hlt⟩
    obtain ⟨fb, e, -⟩ := T0.out.fns.some (by omega)
    subst e
    have HF := hid hf
    have HJ := hid hlt
    clear hf hlt
    go_wp2_with fail
    go_loopw [5] (fun i wq => ∃ t : Nat, t ≤ j ∧ i = .int .i64 t ∧ Hid (Blk wq g 67 (hcells nv (.slice (some ⟨fb, 0, none⟩) fs.length FC) a b c z vv k size (stE ((twiceC [] (fs.take j)).or (if sameN (fs.take t) f.name = true then some f.body else none))) (stP ((twiceC [] (fs.take j)).or (if sameN (fs.take t) f.name = true then some f.body else none))))) ∧ Hid (Fr (oneb g) w wq)) (fun i _ => j - (intOf i).toNat)
    case atStart => exact ⟨0, Nat.zero_le _, rfl, hid (by simpa [sameN] using B.out), FR⟩
    case round =>
     clear B FR
     obtain ⟨t, ht, rfl, B, FR⟩ := hrel
     have TW := hid (T0.out.farG B0.out (by decide) (by decide) (by decide) (by decide) FR.out)
     by_cases hlt : t < j
     · have hlt3 : (t : Int) < (j : Int) := by omega
       have ht2 : (t : Int) < (fs.length : Int) := by omega
       obtain ⟨f2, hf2⟩ : ∃ f, fs[t]? = some f := ⟨_, List.getElem?_eq_getElem (by omega)⟩
       obtain ⟨pv1, -, x0, -, -, -, x4⟩ := TW.out.fn2 HF.out
       obtain ⟨pv2, -, y0, -, -, -, -⟩ := TW.out.fn2 hf2
       have HS := hid (sameN_take hf2 f.name)
       have HL := hid hlt
       clear hf2 hlt
       by_cases he : f2.name = f.name
       · have q0 : ((bs f2.name).toList == (bs f.name).toList) = true := bs_eq.2 he
         have HE := hid he
         clear he
         have X4 := hid x4
         go_wp2_with fail
         go_quiet (fail)
         go_wp2_with fail
         refine (cfails_raw (w := _) (by first | exact B.out | exact B.out.fr ((Fr.refl nob _).drewN _) (fun x => x)) 41 f.body (by decide)).mono ?_
         rintro en w5 ⟨rfl, h5, f5⟩
         have B5 := hid h5
         have F5 := hid ((by first | exact FR.out | exact FR.out.drewN _ : Fr (oneb g) w _).tr f5)
         clear h5 f5 x0 x4 y0 q0
         go_wp2_with fail
         go_roundw
         case rel =>
           refine ⟨t + 1, by have := HL.out; omega, by go_num, hid ?_, F5⟩
           have h9 := B5.out
           rw [HS.out, HE.out, decide_eq_true rfl, Bool.or_true, if_pos rfl]
           rw [(st_or _ f.body).1, (st_or _ f.body).2] at h9
           have e9 : ∀ o : Option Nat, (o.or (if sameN (fs.take t) f.name = true then some f.body else none)).or (some f.body) = o.or (some f.body) := by
             intro o; cases o <;> (try simp) <;> split <;> rfl
           rw [e9] at h9
           exact h9
         case measure => simp [intOf]; have := HL.out; omega
       · have q0 : ((bs f2.name).toList == (bs f.name).toList) = false := by
           rw [Bool.eq_false_iff]; intro x; exact he (bs_eq.1 x)
         have HE := hid he
         clear he
         go_wp2_with fail
         go_quiet (fail)
         go_wp2_with fail
         go_roundw
         case rel =>
           refine ⟨t + 1, by have := HL.out; omega, by go_num, hid ?_, hid (by first | exact FR.out | exact FR.out.drewN _)⟩
           rw [HS.out, decide_eq_false HE.out, Bool.or_false]
           first | exact B.out | exact B.out.fr ((Fr.refl nob _).drewN _) (fun x => x)
         case measure => simp [intOf]; have := HL.out; omega
     · have hle : (j : Int) ≤ (t : Int) := by omega
       have htj : t = j := by omega
       subst htj
       have BN := hid (show Blk wr g 67 (hcells nv (.slice (some ⟨fb, 0, none⟩) fs.length FC) a b c z vv k size (stE (twiceC [] (fs.take (t + 1)))) (stP (twiceC [] (fs.take (t + 1))))) from by
         have h9 := B.out
         have e9 : twiceC [] (fs.take (t + 1)) = (twiceC [] (fs.take t)).or (if sameN (fs.take t) f.name = true then some f.body else none) := by
           rw [show fs.take (t + 1) = fs.take t ++ [f] by rw [List.take_add_one, HF.out]; rfl, twiceC_snoc, sameN_mem]; rfl
         rw [e9]; exact h9)
       obtain ⟨pv1, hpo, x0, -, x2, x3, -⟩ := TW.out.fn2 HF.out
       obtain ⟨PA, PC, rfl, -, -⟩ := hpo.cap
       have HMA := hid (anyMain_take HF.out)
       have hpl : (f.params.length : Int) ≤ 3 := by have := HP.out f (List.mem_of_getElem? HF.out); omega
       obtain ⟨m0, hm0⟩ : ∃ m, (fs.take t).any isMain = m := ⟨_, rfl⟩
       obtain ⟨b1, hb1⟩ : ∃ m, ((bs f.name).toList == [109, 97, 105, 110]) = m := ⟨_, rfl⟩
       obtain ⟨b2, hb2⟩ : ∃ m, ((f.params.length : Int) == 0) = m := ⟨_, rfl⟩
       obtain ⟨b3, hb3⟩ : ∃ m, ((f.ret : Int) == 0) = m := ⟨_, rfl⟩
       have HN := hid (show (fs.take (t + 1)).any isMain = (m0 || (b1 && b2 && b3)) from by
         rw [HMA.out, hm0]
         congr 1
         unfold isMain
         rw [← hb1, ← hb2, ← hb3, bs_toList]
         congr 1
         · congr 1
           · rw [Bool.eq_iff_iff]; simp
           · rw [Bool.eq_iff_iff]; simp
         · rw [Bool.eq_iff_iff]; simp)
       rw [hm0]
       clear hpo B hm0
       cases m0 <;> cases b1 <;> cases b2 <;> cases b3
       all_goals
         go_wp2_with fail
         go_roundw
         case rel => exact ⟨t + 1, by have := HJ.out; omega, by go_num, by rw [HN.out]; rfl, BN, FR⟩
         case measure => simp [intOf]; have := HJ.out; omega
  · have hle : (fs.length : Int) ≤ (j : Int) := by omega
    rw [List.take_of_length_le (by omega)] at B ⊢
    have E := hid (show headsC fs = (match twiceC [] fs with | some b => .bad 41 b | none => if fs.any isMain then .good () else .bad 44 0) from rfl)
    obtain ⟨m0, hm0⟩ : ∃ m, fs.any isMain = m := ⟨_, rfl⟩
    have HM0 := hid hm0
    rw [hm0]
    clear hm0
    cases m0 with
    | true =>
     go_wp2_with fail
     refine bodyPost_end (results_none rfl _ _ _) rfl ⟨rfl, FR.out, _, _, B.out, ?_⟩
     cases hT : twiceC [] fs with
     | none => exact .inl ⟨rfl, rfl, by rw [E.out, hT, HM0.out]; rfl⟩
     | some b => exact .inr ⟨by simp [stE], by simp [stE], by rw [E.out, hT]; rfl⟩
    | false =>
     go_wp2_with fail
     refine (cfails_raw B.out 44 0 (by decide)).mono ?_
     rintro en w5 ⟨rfl, h5, f5⟩
     have B5 := hid h5
     have F5 := hid (FR.out.tr f5)
     clear h5 f5
     go_wp2_with fail
     refine bodyPost_end (results_none rfl _ _ _) rfl ⟨rfl, F5.out, _, _, B5.out, ?_⟩
     cases hT : twiceC [] fs with
     | none => exact .inr ⟨by simp [stE], by simp [stE], by rw [E.out, hT, HM0.out]; rfl⟩
     | some b => exact .inr ⟨by simp [stE], by simp [stE], by rw [E.out, hT]; rfl⟩
end
structure A1 (B g TB RB : Nat) (nv fv : Value) (lvs pvs : List Value) (ns : List NodeM) (fs : List FuncM) (w : World) (a b c : Nat) (tv sv uv : Value) : Prop where
 tree : TreeLow B w nv fv lvs pvs ns fs
 blk_ : Blk w g 67 (hcells nv fv tv sv uv (.slice none 0 0) (.slice none 0 0) 0 0 0 0)
 tb : Blk w TB 26 #[nv, fv]
 rb : ∃ cs, Blk w RB 29 cs ∧ cs.size = 6
 types : Own w 3 1 tv a (ints (List.replicate a 0))
 slots : Own w 3 1 sv b (intsI (List.replicate b (-1)))
 fn : Own w 3 1 uv c (ints (List.replicate c 0))
 hg : B ≤ g
 ht : ∀ x, blk tv = some x → B ≤ x
 hs : ∀ x, blk sv = some x → B ≤ x
 hf : ∀ x, blk uv = some x → B ≤ x
 ts : ∀ x, blk tv = some x → blk sv ≠ some x
 tf : ∀ x, blk tv = some x → blk uv ≠ some x
 sf : ∀ x, blk sv = some x → blk uv ≠ some x
section
variable {B g TB RB : Nat} {nv fv : Value} {lvs pvs : List Value} {ns : List NodeM} {fs : List FuncM} {w w' : World} {a b c : Nat} {tv sv uv : Value}
theorem A1.B_le (h : A1 B g TB RB nv fv lvs pvs ns fs w a b c tv sv uv) : B ≤ w.heap.size := h.tree.le
theorem app_far {v : Value} {n : Nat} {xs : List Value} {e size m : Nat} {u : Value} {ys : List Value} {o : Obj} (hv : Own w e size v n xs) (hu : Own w 3 1 u m ys) (hne : ∀ x, blk u = some x → blk v ≠ some x) (hf : Fr (obl (blk u)) (w.alloc o) w') : Own w' e size v n xs :=
 (hv.alloc o).fr hf fun x hx hm => hne x hm hx
theorem blk_far {u : Value} {m : Nat} {ys : List Value} {o : Obj} {k t : Nat} {cs : Array Value} (hb : Blk w k t cs) (hu : Own w 3 1 u m ys) (ht : 3 ≠ t) (hf : Fr (obl (blk u)) (w.alloc o) w') : Blk w' k t cs :=
 (hb.alloc o).fr hf fun hm => hu.blk_ne hb ht hm
theorem low_far {u : Value} {o : Obj} (h : TreeLow B w nv fv lvs pvs ns fs) (hu : ∀ x, blk u = some x → B ≤ x) (hf : Fr (obl (blk u)) (w.alloc o) w') : TreeLow B w' nv fv lvs pvs ns fs :=
 h.keep (fun x hx => by
  have := h.le
  rw [hf.block x (by simp; omega) (fun hm => by have := hu x hm; omega)]
  exact Below.heap_alloc _ _ _ (by omega)) (by have := hf.size; simp at this; omega)
theorem new_ge {u v : Value} {o : Obj} {B : Nat} (hB : B ≤ w.heap.size) (hu : ∀ x, blk u = some x → B ≤ x) (hv : blk v = blk u ∨ blk v = some (w.alloc o).heap.size) : ∀ x, blk v = some x → B ≤ x := fun x hx => by
 rcases hv with e | e
 · exact hu x (e ▸ hx)
 · rw [hx] at e; injection e with e; simp at e; omega
theorem new_ne {u v y : Value} {o : Obj} {e size n : Nat} {ys : List Value} (hy : Own w e size y n ys) (hu : ∀ x, blk u = some x → blk y ≠ some x) (hv : blk v = blk u ∨ blk v = some (w.alloc o).heap.size) : ∀ x, blk v = some x → blk y ≠ some x := fun x hx hyx => by
 rcases hv with e | e
 · exact hu x (e ▸ hx) hyx
 · rw [hx] at e; injection e with e; simp at e
   have := hy.blk_lt hyx
   omega
theorem A1.appT (h : A1 B g TB RB nv fv lvs pvs ns fs w a b c tv sv uv) {o : Obj} {A : Option Addr} {cc : Nat} (ho : Own w' 3 1 (.slice A (a + 1) cc) (a + 1) (ints (List.replicate a 0) ++ [.int .i64 0])) (hf : Fr (obl (blk tv)) (w.alloc o) w')
  (hv : blk (.slice A (a + 1) cc) = blk tv ∨ blk (.slice A (a + 1) cc) = some (w.alloc o).heap.size) : A1 B g TB RB nv fv lvs pvs ns fs (w'.setCell ⟨g, 2, none⟩ (.slice A (a + 1) cc)) (a + 1) b c (.slice A (a + 1) cc) sv uv := by
 have hb := blk_far h.blk_ h.types (by decide) hf
 have htb := blk_far h.tb h.types (by decide) hf
 obtain ⟨rcs, hrb, hrs⟩ := h.rb
 have hrb2 := blk_far hrb h.types (by decide) hf
 have hs := app_far h.slots h.types h.ts hf
 have hu := app_far h.fn h.types h.tf hf
 have hB := h.hg
 refine ⟨(low_far h.tree h.ht hf).keep (fun x hx => Below.heap_setCell _ _ _ _ (by show x ≠ g; omega)) (by simp), hb.setCell 2 _, htb.far (p := ⟨g, 2, none⟩) (htb.ne hb (by decide)) _, ⟨rcs, hrb2.far (p := ⟨g, 2, none⟩) (hrb2.ne hb (by decide)) _, hrs⟩,
  ?_, hs.far (p := ⟨g, 2, none⟩) (hs.blk_ne hb (by decide)) _, hu.far (p := ⟨g, 2, none⟩) (hu.blk_ne hb (by decide)) _, h.hg, new_ge h.B_le h.ht hv, h.hs, h.hf, new_ne h.slots h.ts hv, new_ne h.fn h.tf hv, h.sf⟩
 have e : ints (List.replicate (a + 1) 0) = ints (List.replicate a 0) ++ [.int .i64 0] := by rw [List.replicate_succ']; simp [ints]
 rw [e]
 exact ho.far (p := ⟨g, 2, none⟩) (ho.blk_ne hb (by decide)) _
theorem A1.appS (h : A1 B g TB RB nv fv lvs pvs ns fs w a b c tv sv uv) {o : Obj} {A : Option Addr} {cc : Nat} (ho : Own w' 3 1 (.slice A (b + 1) cc) (b + 1) (intsI (List.replicate b (-1)) ++ [.int .i64 (-1)])) (hf : Fr (obl (blk sv)) (w.alloc o) w')
  (hv : blk (.slice A (b + 1) cc) = blk sv ∨ blk (.slice A (b + 1) cc) = some (w.alloc o).heap.size) : A1 B g TB RB nv fv lvs pvs ns fs (w'.setCell ⟨g, 3, none⟩ (.slice A (b + 1) cc)) a (b + 1) c tv (.slice A (b + 1) cc) uv := by
 have hb := blk_far h.blk_ h.slots (by decide) hf
 have htb := blk_far h.tb h.slots (by decide) hf
 obtain ⟨rcs, hrb, hrs⟩ := h.rb
 have hrb2 := blk_far hrb h.slots (by decide) hf
 have hst : ∀ x, blk sv = some x → blk tv ≠ some x := fun x h1 h2 => h.ts x h2 h1
 have ht := app_far h.types h.slots hst hf
 have hu := app_far h.fn h.slots h.sf hf
 have hB := h.hg
 refine ⟨(low_far h.tree h.hs hf).keep (fun x hx => Below.heap_setCell _ _ _ _ (by show x ≠ g; omega)) (by simp), hb.setCell 3 _, htb.far (p := ⟨g, 3, none⟩) (htb.ne hb (by decide)) _, ⟨rcs, hrb2.far (p := ⟨g, 3, none⟩) (hrb2.ne hb (by decide)) _, hrs⟩,
  ht.far (p := ⟨g, 3, none⟩) (ht.blk_ne hb (by decide)) _, ?_, hu.far (p := ⟨g, 3, none⟩) (hu.blk_ne hb (by decide)) _, h.hg, h.ht, new_ge h.B_le h.hs hv, h.hf, fun x h1 h2 => new_ne h.types hst hv x h2 h1, h.tf, new_ne h.fn h.sf hv⟩
 have e : intsI (List.replicate (b + 1) (-1)) = intsI (List.replicate b (-1)) ++ [.int .i64 (-1)] := by rw [List.replicate_succ']; simp [intsI]
 rw [e]
 exact ho.far (p := ⟨g, 3, none⟩) (ho.blk_ne hb (by decide)) _
theorem A1.appF (h : A1 B g TB RB nv fv lvs pvs ns fs w a b c tv sv uv) {o : Obj} {A : Option Addr} {cc : Nat} (ho : Own w' 3 1 (.slice A (c + 1) cc) (c + 1) (ints (List.replicate c 0) ++ [.int .i64 0])) (hf : Fr (obl (blk uv)) (w.alloc o) w')
  (hv : blk (.slice A (c + 1) cc) = blk uv ∨ blk (.slice A (c + 1) cc) = some (w.alloc o).heap.size) : A1 B g TB RB nv fv lvs pvs ns fs (w'.setCell ⟨g, 4, none⟩ (.slice A (c + 1) cc)) a b (c + 1) tv sv (.slice A (c + 1) cc) := by
 have hb := blk_far h.blk_ h.fn (by decide) hf
 have htb := blk_far h.tb h.fn (by decide) hf
 obtain ⟨rcs, hrb, hrs⟩ := h.rb
 have hrb2 := blk_far hrb h.fn (by decide) hf
 have hft : ∀ x, blk uv = some x → blk tv ≠ some x := fun x h1 h2 => h.tf x h2 h1
 have hfs : ∀ x, blk uv = some x → blk sv ≠ some x := fun x h1 h2 => h.sf x h2 h1
 have ht := app_far h.types h.fn hft hf
 have hs := app_far h.slots h.fn hfs hf
 have hB := h.hg
 refine ⟨(low_far h.tree h.hf hf).keep (fun x hx => Below.heap_setCell _ _ _ _ (by show x ≠ g; omega)) (by simp), hb.setCell 4 _, htb.far (p := ⟨g, 4, none⟩) (htb.ne hb (by decide)) _, ⟨rcs, hrb2.far (p := ⟨g, 4, none⟩) (hrb2.ne hb (by decide)) _, hrs⟩,
  ht.far (p := ⟨g, 4, none⟩) (ht.blk_ne hb (by decide)) _, hs.far (p := ⟨g, 4, none⟩) (hs.blk_ne hb (by decide)) _, ?_, h.hg, h.ht, h.hs, new_ge h.B_le h.hf hv, h.ts, fun x h1 h2 => new_ne h.types hft hv x h2 h1, fun x h1 h2 => new_ne h.slots hfs hv x h2 h1⟩
 have e : ints (List.replicate (c + 1) 0) = ints (List.replicate c 0) ++ [.int .i64 0] := by rw [List.replicate_succ']; simp [ints]
 rw [e]
 exact ho.far (p := ⟨g, 4, none⟩) (ho.blk_ne hb (by decide)) _
end
theorem TreeLow.up {B B' : Nat} {w : World} {nv fv : Value} {lvs pvs : List Value} {ns : List NodeM} {fs : List FuncM} (h : TreeLow B w nv fv lvs pvs ns fs) (h1 : B ≤ B') (h2 : B' ≤ w.heap.size) : TreeLow B' w nv fv lvs pvs ns fs :=
 ⟨h.tree, fun b hb => Nat.lt_of_lt_of_le (h.hn b hb) h1, fun b hb => Nat.lt_of_lt_of_le (h.hf b hb) h1, fun v hv b hb => Nat.lt_of_lt_of_le (h.hl v hv b hb) h1, fun v hv b hb => Nat.lt_of_lt_of_le (h.hp v hv b hb) h1, h2⟩
theorem Blk.newSet (w : World) (p : Addr) (v : Value) (t : TypeId) (cs : Array Value) : Blk ((w.setCell p v).alloc (.cells cs t)) w.heap.size t cs := by
 have := Blk.new (w.setCell p v) t cs
 rwa [show (w.setCell p v).heap.size = w.heap.size by simp] at this
theorem fr_app {B0 B g : Nat} {w0 w w' : World} {u v : Value} {o : Obj} (h0 : B0 ≤ B) (f : Fr (fun b => B0 ≤ b) w0 w) (hu : ∀ x, blk u = some x → B ≤ x) (hf : Fr (obl (blk u)) (w.alloc o) w') (hg : B ≤ g) (i : Nat) : Fr (fun b => B0 ≤ b) w0 (w'.setCell ⟨g, i, none⟩ v) :=
 ((f.alloc o).trans hf (fun _ _ x => x) (fun b _ hm => Nat.le_trans h0 (hu b hm))).setCell ⟨g, i, none⟩ v (fun _ => Nat.le_trans h0 hg)
section
variable (ns : List NodeM) (fs : List FuncM)
theorem funcsC_snoc (f : FuncM) : ∀ (l : List FuncM) (k : Nat) (zs : List Nat) (s : CkS), funcsC ns fs k (l ++ [f]) zs s = (funcsC ns fs k l zs s).bind fun r => (funcC ns fs (k + l.length) f r.2).map fun s' => (r.1 ++ [s'.size], s')
 | [], k, zs, s => by
  show (funcC ns fs k f s).bind _ = (CkR.good (zs, s)).bind _
  rw [CkR.bind_good]
  show _ = (funcC ns fs (k + 0) f s).map _
  rw [Nat.add_zero]
  cases funcC ns fs k f s <;> rfl
 | a :: l, k, zs, s => by
  show (funcC ns fs k a s).bind _ = ((funcC ns fs k a s).bind _).bind _
  cases funcC ns fs k a s with
  | bad e p => rfl
  | good u =>
   simp only [CkR.bind_good]
   rw [show k + (a :: l).length = k + 1 + l.length by simp; omega]
   exact funcsC_snoc f l (k + 1) _ u
theorem funcsC_bad {e p : Nat} : ∀ (l m : List FuncM) (k : Nat) (zs : List Nat) (s : CkS), funcsC ns fs k l zs s = .bad e p → funcsC ns fs k (l ++ m) zs s = .bad e p := by
 intro l m
 induction m generalizing l with
 | nil => intro k zs s h; rw [List.append_nil]; exact h
 | cons a m ih =>
  intro k zs s h
  have : l ++ a :: m = (l ++ [a]) ++ m := by simp
  rw [this]
  exact ih (l ++ [a]) k zs s (by rw [funcsC_snoc, h]; rfl)
end
section
variable {B g TB RB : Nat} {nv fv : Value} {lvs pvs : List Value} {ns : List NodeM} {fs : List FuncM} {w w' : World} {n : Nat}
def geoOf (B z g bt bs bf ct cs cf : Nat) (nv fv : Value) (lvs pvs : List Value) (ns : List NodeM) (fs : List FuncM) : Geo := ⟨24, B, z, g, bt, bs, bf, ct, cs, cf, nv, fv, lvs, pvs, ns, fs⟩
theorem A1.toCk {A1' A2 A3 : Option Addr} {c1 c2 c3 : Nat} (h : A1 B g TB RB nv fv lvs pvs ns fs w ns.length ns.length ns.length (.slice A1' ns.length c1) (.slice A2 ns.length c2) (.slice A3 ns.length c3)) (hok : TreeOk ns fs) (hk : ∀ nd ∈ ns, nd.l.length ≤ 300) (hn : 0 < ns.length) (hf : 0 < fs.length) :
  ∃ bt bs bf, Ck (geoOf B w.heap.size g bt bs bf c1 c2 c3 nv fv lvs pvs ns fs) w (startC ns) [] 0 0 0 := by
 obtain ⟨bt, rfl, -⟩ := h.types.some hn
 obtain ⟨bs, rfl, -⟩ := h.slots.some hn
 obtain ⟨bf, rfl, -⟩ := h.fn.some hn
 have q1 := blk_rowP (b := bt) hn h.types.capn.1
 have q2 := blk_rowP (b := bs) hn h.slots.capn.1
 have q3 := blk_rowP (b := bf) hn h.fn.capn.1
 refine ⟨bt, bs, bf, ⟨⟨(by decide : 24 ≤ 1000), h.hg, h.ht _ q1, h.hs _ q2, h.hf _ q3, h.blk_.lt, h.types.blk_lt q1, h.slots.blk_lt q2, h.fn.blk_lt q3, fun e => h.ts _ q1 (q2.trans (congrArg some (Eq.symm e))), fun e => h.tf _ q1 (q3.trans (congrArg some (Eq.symm e))), fun e => h.sf _ q2 (q3.trans (congrArg some (Eq.symm e))), hn, hok.few, hok.fewf, hok.pars, hk, hok⟩,
  h.tree, ⟨.slice none 0 0, .slice none 0 0, h.blk_, Own.nil _ _ _, fun b hb => by simp [blk] at hb, Own.nil _ _ _, fun b hb => by simp [blk] at hb⟩, h.types, h.slots, h.fn, hf, Nat.zero_le _, fun _ => Nat.zero_le _, Nat.le_refl _, Nat.zero_le _, Nat.le_refl _⟩⟩
def L2 (g : Nat) (nv fv : Value) (lvs pvs : List Value) (ns : List NodeM) (fs : List FuncM) (i : Nat) (w : World) (e p : Nat) : Prop :=
 w.cell? ⟨g, 9, none⟩ = some (.int .i64 (e : Nat)) ∧ w.cell? ⟨g, 10, none⟩ = some (.int .i64 (p : Nat)) ∧ g < w.heap.size ∧
 ((e = 0 ∧ p = 0 ∧ headsC fs = .good () ∧ 0 < fs.length ∧ ∃ G zs s k, Ck G w s zs k 0 0 ∧ G.B = g ∧ G.g = g ∧ G.M = 24 ∧ G.nv = nv ∧ G.fv = fv ∧ G.lvs = lvs ∧ G.pvs = pvs ∧ G.ns = ns ∧ G.fs = fs ∧ zs.length = i ∧ funcsC ns fs 0 (fs.take i) [] (startC ns) = .good (zs, s)) ∨ (e ≠ 0 ∧ e ≤ 99 ∧ checkT ns fs = .bad e p))
end
def BadLt {α : Type} (n : Nat) (r : CkR α) : Prop := match r with
 | .bad _ p => p < n
 | .good _ => True
section
variable {α β : Type} {n : Nat}
theorem BadLt.bind {r : CkR α} {f : α → CkR β} (h : BadLt n r) (g : ∀ a, BadLt n (f a)) : BadLt n (r.bind f) := by
 cases r with
 | bad e p => exact h
 | good a => exact g a
theorem BadLt.map {r : CkR α} {f : α → β} (h : BadLt n r) : BadLt n (r.map f) := by
 cases r with
 | bad e p => exact h
 | good a => trivial
theorem BadLt.ite {c : Prop} [Decidable c] {r q : CkR α} (h : BadLt n r) (g : BadLt n q) : BadLt n (if c then r else q) := by
 split
 · exact h
 · exact g
end
section
variable {ns : List NodeM} {fs : List FuncM} {k x n : Nat} {s : CkS} {ex : Nat → CkS → CkR (Nat × CkS)} {bl : Nat → CkS → CkR CkS}
theorem named_lt (hx : x < n) (name : List UInt8) : BadLt n (namedC x name s) := by
 unfold namedC
 cases findV s.vars name with
 | none => exact hx
 | some v => trivial
theorem args_lt (hex : ∀ y s, BadLt n (ex y s)) : ∀ (l : List Nat) (s : CkS), BadLt n (argsC ex l s)
 | [], s => trivial
 | a :: l, s => by
  unfold argsC
  exact (hex _ _).bind fun r => (args_lt hex l _).map
theorem tells_lt (hx : x < n) (hex : ∀ y s, BadLt n (ex y s)) (nd : NodeM) : BadLt n (tellsC fs ex x nd s) := by
 have hc : BadLt n (callC fs ex x nd s) := by
  unfold callC
  cases findF fs nd.name with
  | none => exact hx
  | some j => exact (args_lt hex _ _).bind fun r => BadLt.ite hx (BadLt.ite hx trivial)
 unfold tellsC
 refine .ite trivial (.ite trivial (.ite trivial (.ite (named_lt hx _) (.ite hc (.ite ((named_lt hx _).bind fun t => (hex _ _).bind fun r => .ite trivial hx) (.ite ((hex _ _).bind fun a => (hex _ _).bind fun b => .ite hx trivial) ?_))))))
 exact (hex _ _).bind fun r => .ite (.ite trivial hx) (.ite (.ite trivial hx) (.ite (.ite trivial hx) (.ite trivial hx)))
theorem expr_lt (hn : 0 < ns.length) : ∀ (f x : Nat) (s : CkS), BadLt ns.length (exprC ns fs k f x s)
 | 0, x, s => hn
 | f + 1, x, s => by
  unfold exprC
  cases hx : ns[x]? with
  | none => exact hn
  | some nd => exact (tells_lt (List.getElem?_eq_some_iff.1 hx).1 (fun y s => expr_lt hn f y s) nd).map
theorem seq_lt {st : Nat → CkS → CkR CkS} (hst : ∀ y s, BadLt n (st y s)) : ∀ (l : List Nat) (s : CkS), BadLt n (seqC st l s)
 | [], s => trivial
 | a :: l, s => by
  unfold seqC
  exact (hst _ _).bind fun r => seq_lt hst l _
theorem stm_lt (hx : x < n) (hex : ∀ y s, BadLt n (ex y s)) (hbl : ∀ y s, BadLt n (bl y s)) (nd : NodeM) : BadLt n (stmC fs k ex bl x nd s) := by
 unfold stmC letC retC
 refine .ite ?_ (.ite ?_ (.ite ?_ (.ite (hex _ _).map (.ite ?_ (.ite ?_ ?_)))))
 · exact (hex _ _).bind fun r => .ite hx (.ite hx (.ite hx trivial))
 · exact (named_lt hx _).bind fun t => (hex _ _).bind fun r => .ite trivial hx
 · exact (named_lt hx _).bind fun t => (hex _ _).bind fun r => (hex _ _).bind fun q => .ite trivial hx
 · exact (hex _ _).bind fun r => .ite trivial hx
 · exact .ite (.ite ((hex _ _).bind fun r => .ite trivial hx) trivial) hx
 · exact (hex _ _).bind fun r => .ite (seq_lt hbl _ _) hx
theorem block_lt (hn : 0 < ns.length) : ∀ (f x : Nat) (s : CkS), BadLt ns.length (blockC ns fs k f x s)
 | 0, x, s => hn
 | f + 1, x, s => by
  unfold blockC
  cases hx : ns[x]? with
  | none => exact hn
  | some nd =>
   refine (seq_lt (fun y s => ?_) _ _).map
   cases hy : ns[y]? with
   | none => exact hn
   | some na => exact stm_lt (List.getElem?_eq_some_iff.1 hy).1 (fun y s => expr_lt hn _ y s) (fun y s => block_lt hn f y s) na
theorem pars_lt {body : Nat} (hb : body < n) : ∀ (l : List (List UInt8 × Nat)) (vs : List VarM), BadLt n (parsC body l vs)
 | [], vs => trivial
 | p :: l, vs => by
  unfold parsC
  exact .ite hb (pars_lt hb l _)
theorem funcs_lt (hn : 0 < ns.length) : ∀ (l : List FuncM) (k : Nat) (zs : List Nat) (s : CkS), (∀ f ∈ l, f.body < ns.length) → BadLt ns.length (funcsC ns fs k l zs s)
 | [], k, zs, s, _ => trivial
 | f :: l, k, zs, s, h => by
  unfold funcsC funcC
  exact ((pars_lt (h f (List.mem_cons_self ..)) _ _).bind fun vs => block_lt hn _ _ _).bind fun r => funcs_lt hn l _ _ _ (fun g hg => h g (List.mem_cons_of_mem _ hg))
theorem twice_lt : ∀ (l : List FuncM) (seen : List (List UInt8)) (b : Nat), (∀ f ∈ l, f.body < n) → twiceC seen l = some b → b < n
 | [], seen, b, _, h => by cases h
 | f :: l, seen, b, hb, h => by
  unfold twiceC at h
  split at h
  · injection h with h
    subst h
    exact hb f (List.mem_cons_self ..)
  · exact twice_lt l _ b (fun g hg => hb g (List.mem_cons_of_mem _ hg)) h
end
theorem body_lt {ns : List NodeM} {fs : List FuncM} (hok : TreeOk ns fs) : ∀ f ∈ fs, f.body < ns.length := fun f hf => by
 obtain ⟨c, hc, _⟩ := hok.bodies f hf
 exact (List.getElem?_eq_some_iff.1 hc).1
theorem check_lt {ns : List NodeM} {fs : List FuncM} (hok : TreeOk ns fs) {e p : Nat} (h : checkT ns fs = .bad e p) (he : e ≠ 44) : p < ns.length := by
 have hb := body_lt hok
 unfold checkT headsC at h
 cases ht : twiceC [] fs with
 | some b =>
  rw [ht] at h
  injection h with h1 h2
  subst h2
  exact twice_lt fs [] b hb ht
 | none =>
  rw [ht] at h
  dsimp only at h
  by_cases hm : fs.any isMain = true
  · rw [if_pos hm] at h
    have hn : 0 < ns.length := by
     obtain ⟨f, hf, _⟩ := List.any_eq_true.1 hm
     have := hb f hf
     omega
    have := (funcs_lt (fs := fs) hn fs 0 [] (startC ns) hb).map (f := fun r => (⟨ns, fs, r.2.types, r.2.slots, r.2.fn, r.1⟩ : ProgM))
    rw [CkR.bind_good] at h
    rw [h] at this
    exact this
  · rw [if_neg hm] at h
    injection h with h1 h2
    exact absurd h1.symm he
theorem parse_bad1 {l : List UInt8} {p er : Nat} (hr : parseM l = some (.bad p er)) : 1 ≤ er := by
 unfold parseM at hr
 cases hl : lexM l with
 | bad i k =>
  rw [hl] at hr
  simp at hr
  have := lexM_bad hl
  omega
 | good ts =>
  rw [hl] at hr
  simp only [parseT, Option.map_eq_some_iff] at hr
  obtain ⟨q, hq, hr⟩ := hr
  split at hr
  · injection hr with h1 h2
    omega
  · split at hr
    · injection hr with h1 h2
      omega
    · cases hr
end Go.Proofs.YtlbjicjinnnboaaDoor
