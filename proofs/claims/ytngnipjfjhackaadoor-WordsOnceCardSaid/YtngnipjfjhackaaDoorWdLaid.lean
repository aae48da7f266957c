/- Words: what the rows' listed variables give the walks. -/
import Derived.Test.YtngnipjfjhackaaDoorWdU
import Derived.Test.YtngnipjfjhackaaDoorRows
import Derived.ProofKit
import Derived.OpenShut
import Derived.LaidMore
import Derived.Lay
import Derived.HandedShaped
import Derived.Stop.Joined
import Derived.Lib.LaidTab
namespace Go.Proofs.YtngnipjfjhackaaDoor
open Go.ChangeShapes Go.WideShapes Go.ChangeAt Go.RowKit
set_option maxRecDepth 100000

theorem ownK : ownKnob Tryd.prog.godebug = none := by kernel_rfl
theorem var_lt {W : World} {name : String} {k : Nat} {v : Value} (hg : Tryd.prog.globalNamed name = some k) (h : W.var? Tryd.prog name = some #[v]) : k < W.heap.size := by
  unfold World.var? at h
  rw [hg] at h
  simp only [Option.bind_some] at h
  by_cases hlt : k < W.heap.size
  · exact hlt
  · rw [Array.getElem?_eq_none (by omega)] at h; simp at h
theorem vars_of {W : World} (h : laidMetH Tryd.prog Rows.wordsVerbsRow.laid W) : Vars W := by
  rw [MakeChecks.laidMetH_plain _ _ _ (by kernel_rfl)] at h
  obtain ⟨ps, h, _, _⟩ := h
  obtain ⟨_, _, _, _, _, _, _, _, _, _, ⟨_, _, _, _, _, _, _, _, _, _, ⟨g, t, cs, f, p, q, hg, ht, hv, hd, ⟨_, _, _, _, _, _, _, _, _, _, ⟨g5, t5, cs5, f5, p5, q5, hg5, ht5, hv5, hd5, ⟨g6, t6, cs6, f6, p6, q6, hg6, ht6, hv6, hd6, _⟩, _⟩, _⟩, _⟩, _⟩, _⟩ := h
  obtain rfl := Option.some.inj ((show Tryd.prog.globalNamed "internal/strconv.uint64pow10" = some 3 by kernel_rfl).symm.trans hg)
  obtain rfl := Option.some.inj ((show (Tryd.prog.globals[3]?).map (·.type) = some 116 by kernel_rfl).symm.trans ht)
  have hd2 : DataW.trod _ Tryd.prog W _ _ _ f 116 cs.toList = some (Lib.tabData .u64 Lib.pow10Tab, _) := hd
  have hc := Lib.cells_of_tab (n := 20) (e := 104) Tryd.underlying116 Tryd.underlying104 (by kernel_rfl) (by kernel_rfl) hd2
  obtain rfl := Option.some.inj ((show Tryd.prog.globalNamed "strconv.ErrRange" = some 5 by kernel_rfl).symm.trans hg5)
  obtain rfl := Option.some.inj ((show (Tryd.prog.globals[5]?).map (·.type) = some 62 by kernel_rfl).symm.trans ht5)
  obtain ⟨f51, u5, v5, hcs5, _, _⟩ := iface_of_trod Tryd.underlying62 hd5
  rw [Array.eq_one_of_toList hcs5] at hv5
  obtain rfl := Option.some.inj ((show Tryd.prog.globalNamed "strconv.ErrSyntax" = some 4 by kernel_rfl).symm.trans hg6)
  obtain rfl := Option.some.inj ((show (Tryd.prog.globals[4]?).map (·.type) = some 62 by kernel_rfl).symm.trans ht6)
  obtain ⟨f61, u6, v6, hcs6, _, _⟩ := iface_of_trod Tryd.underlying62 hd6
  rw [Array.eq_one_of_toList hcs6] at hv6
  refine ⟨⟨3, by kernel_rfl, ?_, ?_⟩, ⟨4, u6, v6, by kernel_rfl, var_lt (by kernel_rfl) hv6, hv6⟩, ⟨5, u5, v5, by kernel_rfl, var_lt (by kernel_rfl) hv5, hv5⟩⟩
  · unfold World.var? at hv
    rw [hg] at hv
    simp only [Option.bind_some] at hv
    by_cases hlt : 3 < W.heap.size
    · exact hlt
    · rw [Array.getElem?_eq_none (by omega)] at hv; simp at hv
  · unfold Lib.TabIs
    rw [hv, ← hc]
/-- The wrap that hands on both: what the listed variables hold, and the world's shape. -/
theorem wrap_laid_shaped {H : Type} {enc : TypeId × Value → H} {a : Assume} {C : Checked} {os : Os} {f : FuncId} {fn : Func} {s : ChangeSpec} {conds : List PathCond} {apart fresh handsOn again : Bool} {X : World → Array Value → Prop}
    (hX : ∀ (w w' : World) (args : Array Value), w.heap = w'.heap → X w args → X w' args)
    (own : ownKnob C.prog.godebug = none) (started : os.Started) (noInit : C.prog.inits.idxOf? f = none) (hfn : C.prog.funcs[f]? = some fn)
    (witness : ∃ (w : World) (tape : Tape) (i : Input), w.os = os ∧ (w.forCall tape i).Shaped C.prog ∧ i.vars = [] ∧ Input.okWide C.prog (w.forCall tape i) .any w.heap.size f i ∧
      ((s.pre enc C.prog fn conds apart (w.forCall tape i).memory i.args ∧ X (w.forCall tape i).memory i.args) ∧ sizedMet enc C.prog fn (OpenSpec.ofChange s) apart (w.forCall tape i).memory i.args) ∧ a.holds C.prog (lone (Frame.enter C.prog f i.args .normal) [] (w.forCall tape i)))
    (contract : ∀ (W : World) (base : Nat) (args : Array Value) (ds gs : List (DataW H)) (before : List MemPlace),
      (∀ (j : Nat) t v, fn.params[j]? = some t → args[j]? = some v → Value.okWide C.prog W .any base t v) →
      DataW.Whole enc C.prog fn.params.toList s.vars apart W args.toList ds gs before →
      (DataW.weightsEach C.prog (fn.params.toList ++ s.plain.varTypes C.prog) (ds ++ gs)).all (· ≤ reachBytes) = true → X W args → W.ShapedOpen C.prog →
      Calls C.prog f args W fun e W' => ∃ v, e = .returned v ∧ s.post enc C.prog fn apart fresh handsOn again W args v W') :
    ReturnsInHanded a C os f .any (fun w args => (s.pre enc C.prog fn conds apart w args ∧ X w args) ∧ sizedMet enc C.prog fn (OpenSpec.ofChange s) apart w args) (s.post enc C.prog fn apart fresh handsOn again) := by
  refine returnsInHanded_of_calls own started noInit witness ?_
  intro w tape i _ hsh _ hok hpre _
  obtain ⟨_, _, _, fn', hfn', _, _, _, _, hval⟩ := hok
  obtain rfl : fn' = fn := Option.some.inj (hfn'.symm.trans hfn)
  obtain ⟨⟨⟨ds, gs, before, hw, _⟩, hx⟩, hz⟩ := hpre
  refine (contract (w.forCall tape i) w.heap.size i.args ds gs before hval (DataW.Whole.of_heap (w' := w.forCall tape i) (by rfl) hw) (hz.weights hw) (hX _ _ _ (by rfl) hx) hsh).mono fun e W' ⟨v, he, hp⟩ => ?_
  subst he
  exact ChangeSpec.post_blind hp
theorem most_of {W : World} (h : W.ShapedOpen Tryd.prog) : ∃ m, W.cell? ⟨0, 0, none⟩ = some (.int .i64 m) := Go.Proofs.cell_of_shapedOpen_int (zero := #[.int .i64 0]) (t := 3) h (of_decide_eq_true (by kernel_rfl)) (by kernel_rfl) rfl (by kernel_rfl) (by kernel_rfl) Tryd.underlying3
theorem vars_shaped {W : World} (h : laidMetH Tryd.prog Rows.wordsVerbsRow.laid W) (hs : W.ShapedOpen Tryd.prog) : VarsM W :=
  ⟨vars_of h, most_of hs⟩
end Go.Proofs.YtngnipjfjhackaaDoor
