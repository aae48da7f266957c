/- MPt: CdM, LwP, LwQ, LwR, LwT, LwU. -/
import Derived.Test.YtlbjicjinnnboaaGreatDoorMCd
import Derived.Test.YtlbjicjinnnboaaGreatDoorMLw
import Derived.Deep.DeepCutAuto
import Derived.Lib.AppendStr
set_option linter.unusedVariables false
set_option linter.unusedSimpArgs false
/- Programs as instructions: that instructions may be, and that each statement has one mark. -/
namespace Go.Proofs.YtlbjicjinnnboaaGreatDoor
open Go.RowKit
open Pw
def hasAI (o : Nat) : Bool := decide (o = 1 ∨ o = 2 ∨ o = 3 ∨ o = 5 ∨ o = 6 ∨ o = 11 ∨ o = 12 ∨ o = 16 ∨ o = 17 ∨ o = 18 ∨ o = 19 ∨ o = 20 ∨ o = 22)
def hasBI (o : Nat) : Bool := decide (o = 5 ∨ o = 20)
def hasSI (o : Nat) : Bool := decide (o = 4 ∨ o = 7)
structure MayI (x : InsM) : Prop where
 op : 1 ≤ x.op ∧ x.op ≤ 23
 a : x.op = 2 ∨ (hasAI x.op = true ∧ 0 ≤ x.a ∧ x.a ≤ 1073741824) ∨ (hasAI x.op = false ∧ x.a = 0)
 b : (hasBI x.op = true ∧ x.b ≤ 1073741824) ∨ (hasBI x.op = false ∧ x.b = 0)
 s : (hasSI x.op = true ∧ x.s.length ≤ 40) ∨ x.s = []
structure InsOk (p : ProgM) (k z lo hi : Nat) (x : InsM) : Prop where
 may : MayI x
 jump : ∀ t, toI x = some t → (lo : Int) ≤ t ∧ t ≤ (hi : Int)
 slot : x.op = 5 ∨ x.op = 6 ∨ x.op = 11 ∨ x.op = 12 → x.a < (z : Int)
 call : x.op = 20 → ∃ (j : Nat) (f : FuncM), x.a = j ∧ p.fs[j]? = some f ∧ x.b = f.params.length
 mark : x.op = 1 → ∃ y : Nat, x.a = y ∧ y < p.ns.length ∧ p.fn[y]? = some k
theorem InsOk.mono {p : ProgM} {k z lo hi lo' hi' : Nat} {x : InsM} (h : InsOk p k z lo hi x) (h1 : lo' ≤ lo) (h2 : hi ≤ hi') : InsOk p k z lo' hi' x :=
 ⟨h.may, fun t ht => by have := h.jump t ht; omega, h.slot, h.call, h.mark⟩
def stmK (k : Nat) : Bool := decide (10 ≤ k) && decide (k ≤ 17)
def cnS (ns : List NodeM) (y a b : Nat) : Nat := if a ≤ y ∧ y < b ∧ stmK (kindN ns y) = true then 1 else 0
def mksI (l : List InsM) (y : Nat) : Nat := l.countP fun i => decide (i.op = 1) && decide (i.a = (y : Int))
def mkI (l : List InsM) : Nat := l.countP fun i => decide (i.op = 1)
theorem mks_app (l m : List InsM) (y : Nat) : mksI (l ++ m) y = mksI l y + mksI m y := List.countP_append
theorem mk_app (l m : List InsM) : mkI (l ++ m) = mkI l + mkI m := List.countP_append
theorem mks_one (i : InsM) (y : Nat) (h : i.op ≠ 1) : mksI [i] y = 0 := by simp [mksI, h]
theorem mk_one (i : InsM) (h : i.op ≠ 1) : mkI [i] = 0 := by simp [mkI, h]
theorem mks_mark (x : Nat) (l : List InsM) (y : Nat) : mksI (⟨1, (x : Int), 0, []⟩ :: l) y = mksI l y + if x = y then 1 else 0 := by
 unfold mksI
 rw [List.countP_cons]
 by_cases h : x = y
 · subst h; simp
 · have : ¬ ((x : Int) = (y : Int)) := by omega
   simp [h, this]
theorem mk_mark (x : Nat) (l : List InsM) : mkI (⟨1, (x : Int), 0, []⟩ :: l) = mkI l + 1 := by unfold mkI; rw [List.countP_cons]; simp
theorem cnS_self (ns : List NodeM) (y a : Nat) : cnS ns y a a = 0 := by unfold cnS; rw [if_neg (by omega)]
theorem cnS_app {ns : List NodeM} {y a b c : Nat} (h : a ≤ b) (h2 : b ≤ c) : cnS ns y a c = cnS ns y a b + cnS ns y b c := by
 unfold cnS
 by_cases hs : stmK (kindN ns y) = true
 · simp only [hs, and_true]
   split <;> split <;> split <;> omega
 · simp [hs]
theorem cnS_one {ns : List NodeM} {y x : Nat} {nd : NodeM} (hx : ns[x]? = some nd) : cnS ns y x (x + 1) = if x = y ∧ stmK nd.kind = true then 1 else 0 := by
 unfold cnS
 by_cases h : x = y
 · subst h
   have : kindN ns x = nd.kind := by unfold kindN; rw [hx]; rfl
   rw [this]
   simp
 · rw [if_neg (by omega), if_neg (by rintro ⟨e, _⟩; exact h e)]
section
variable {p : ProgM}
def TextsOk (p : ProgM) : Prop := ∀ (x : Nat) (nd : NodeM), p.ns[x]? = some nd → nd.kind = 3 → nd.name.length ≤ 40
theorem mks_cd {t : Tk} {a b at_ : Nat} {l : List InsM} (h : Cd p t a b at_ l) (y : Nat) : mksI l y = cnS p.ns y a b ∧ mkI l ≤ b - a := by
 have nost : ∀ {k : Nat}, (k ≤ 9 ∨ 18 ≤ k) → stmK k = false := fun {k} hk => by
  unfold stmK
  by_cases h1 : 10 ≤ k
  · rw [decide_eq_true h1, decide_eq_false (by omega)]; rfl
  · rw [decide_eq_false h1]; rfl
 have no1 : ∀ {x : Nat} {nd : NodeM}, p.ns[x]? = some nd → (nd.kind ≤ 9 ∨ 18 ≤ nd.kind) → cnS p.ns y x (x + 1) = 0 := fun hx hk => by
  rw [cnS_one hx, nost hk]; simp
 have one : ∀ {x : Nat} {nd : NodeM}, p.ns[x]? = some nd → stmK nd.kind = true → cnS p.ns y x (x + 1) = if x = y then 1 else 0 := fun hx hk => by
  rw [cnS_one hx, hk]; simp
 induction h with
 | leaf x at_ nd i hx hl hi =>
  have hk : nd.kind ≤ 9 ∨ 18 ≤ nd.kind := by rcases hi with ⟨h, _⟩ | ⟨h, _⟩ | ⟨h, _⟩ | ⟨h, _⟩ | ⟨h, _⟩ <;> omega
  have ho : i.op ≠ 1 := by rcases hi with ⟨_, rfl⟩ | ⟨_, rfl⟩ | ⟨_, rfl⟩ | ⟨_, rfl⟩ | ⟨_, rfl⟩ <;> simp
  rw [no1 hx hk, mks_one _ _ ho, mk_one _ ho]; exact ⟨rfl, by omega⟩
 | un x at_ a u nd i l hx hl hi h ih =>
  have hk : nd.kind ≤ 9 ∨ 18 ≤ nd.kind := by rcases hi with ⟨h, _⟩ | ⟨h, _⟩ | ⟨h, _⟩ | ⟨h, _⟩ | ⟨h, _⟩ <;> omega
  have ho : i.op ≠ 1 := by rcases hi with ⟨_, rfl⟩ | ⟨_, rfl⟩ | ⟨_, rfl⟩ | ⟨_, rfl⟩ | ⟨_, rfl⟩ <;> simp
  have hl := h.len.1
  rw [cnS_app hl (Nat.le_succ x), no1 hx hk, mks_app, mk_app, mks_one _ _ ho, mk_one _ ho, ih.1]; exact ⟨rfl, by omega⟩
 | bin x at_ a b u v line y' l m hx hy h1 h2 hu hv ihu ihv =>
  have l1 := hu.len.1
  have l2 := hv.len.1
  rw [cnS_app (show a ≤ x by omega) (Nat.le_succ x), cnS_app l1 l2, no1 hx (.inl (Nat.le_refl 9)), mks_app, mk_app, mks_app, mk_app, mks_one _ _ (show (7 : Nat) ≠ 1 by decide), mk_one _ (show (7 : Nat) ≠ 1 by decide), ihu.1, ihv.1]; exact ⟨rfl, by omega⟩
 | early x at_ a b u v line o y' l m hx hy hu hv ihu ihv =>
  have l1 := hu.len.1
  have l2 := hv.len.1
  have ho : o ≠ 1 := by rcases hy with ⟨_, h⟩ | ⟨_, h⟩ <;> omega
  rw [cnS_app (show a ≤ x by omega) (Nat.le_succ x), cnS_app l1 l2, no1 hx (.inl (Nat.le_refl 9)), mks_app, mk_app, mks_app, mk_app, mks_one _ _ ho, mk_one _ ho, ihu.1, ihv.1]; exact ⟨rfl, by omega⟩
 | call x at_ a line j f y' ks l hx hj hf hp h ih =>
  have l1 := h.len.1
  rw [cnS_app l1 (Nat.le_succ x), no1 hx (.inr (show 18 ≤ 21 by decide)), mks_app, mk_app, mks_one _ _ (show (20 : Nat) ≠ 1 by decide), mk_one _ (show (20 : Nat) ≠ 1 by decide), ih.1]; exact ⟨rfl, by omega⟩
 | argN a at_ => rw [cnS_self]; exact ⟨rfl, Nat.zero_le _⟩
 | argC u at_ a b c ks l m h h2 ih ih2 =>
  have l1 := h.len.1
  have l2 := h2.len.1
  rw [cnS_app l1 l2, mks_app, mk_app, ih.1, ih2.1]; exact ⟨rfl, by omega⟩
 | plain x at_ a nd i l hx hi h ih =>
  have l1 := h.len.1
  have hk : stmK nd.kind = true := by rcases hi with ⟨h | h, _⟩ | ⟨h, _⟩ | ⟨h, _⟩ | ⟨h, _⟩ | ⟨h, _⟩ | ⟨h, _⟩ <;> rw [h] <;> rfl
  have ho : i.op ≠ 1 := by rcases hi with ⟨_, _, rfl⟩ | ⟨_, _, rfl⟩ | ⟨_, _, rfl⟩ | ⟨_, _, rfl⟩ | ⟨_, _, rfl⟩ | ⟨_, _, rfl⟩ <;> simp
  rw [cnS_app l1 (Nat.le_succ x), one hx hk, mks_mark, mk_mark, mks_app, mk_app, mks_one _ _ ho, mk_one _ ho, ih.1]; exact ⟨rfl, by omega⟩
 | if2 x at_ a b u v line l m hx hu hv ihu ihv =>
  have l1 := hu.len.1
  have l2 := hv.len.1
  rw [cnS_app (show a ≤ x by omega) (Nat.le_succ x), cnS_app l1 l2, one hx rfl, mks_mark, mk_mark, mks_app, mk_app, mks_app, mk_app, mks_one _ _ (show (17 : Nat) ≠ 1 by decide), mk_one _ (show (17 : Nat) ≠ 1 by decide), ihu.1, ihv.1]; exact ⟨rfl, by omega⟩
 | if3 x at_ a b c u v t line l m n hx hu hv ht ihu ihv iht =>
  have l1 := hu.len.1
  have l2 := hv.len.1
  have l3 := ht.len.1
  rw [cnS_app (show a ≤ x by omega) (Nat.le_succ x), cnS_app (show a ≤ c by omega) l3, cnS_app l1 l2, one hx rfl, mks_mark, mk_mark, mks_app, mk_app, mks_app, mk_app, mks_app, mk_app, mks_app, mk_app, mks_one _ _ (show (17 : Nat) ≠ 1 by decide), mk_one _ (show (17 : Nat) ≠ 1 by decide), mks_one _ _ (show (16 : Nat) ≠ 1 by decide), mk_one _ (show (16 : Nat) ≠ 1 by decide), ihu.1, ihv.1, iht.1]
  exact ⟨by omega, by omega⟩
 | loop x at_ a b u v line l m hx hu hv ihu ihv =>
  have l1 := hu.len.1
  have l2 := hv.len.1
  rw [cnS_app (show a ≤ x by omega) (Nat.le_succ x), cnS_app l1 l2, one hx rfl, mks_mark, mk_mark, mks_app, mk_app, mks_app, mk_app, mks_app, mk_app, mks_one _ _ (show (17 : Nat) ≠ 1 by decide), mk_one _ (show (17 : Nat) ≠ 1 by decide), mks_one _ _ (show (16 : Nat) ≠ 1 by decide), mk_one _ (show (16 : Nat) ≠ 1 by decide), ihu.1, ihv.1]
  exact ⟨by omega, by omega⟩
 | blk x at_ a line ks l hx h ih =>
  have l1 := h.len.1
  rw [cnS_app l1 (Nat.le_succ x), no1 hx (.inr (Nat.le_refl 18)), ih.1]; exact ⟨rfl, by omega⟩
 | seqN a at_ => rw [cnS_self]; exact ⟨rfl, Nat.zero_le _⟩
 | seqC u at_ a b c ks l m h h2 ih ih2 =>
  have l1 := h.len.1
  have l2 := h2.len.1
  rw [cnS_app l1 l2, mks_app, mk_app, ih.1, ih2.1]; exact ⟨rfl, by omega⟩
theorem mks_fns {k a b at_ : Nat} {l : List FuncM} {code : List InsM} {en : List Nat} (h : FnsCd p k l a b at_ code en) (y : Nat) : mksI code y = cnS p.ns y a b ∧ mkI code ≤ b - a := by
 induction h with
 | nil => rw [cnS_self]; exact ⟨rfl, Nat.zero_le _⟩
 | cons k a c b at_ f l m n en h h2 ih =>
  have l1 := h.len.1
  have l2 := h2.len.1
  have i1 := mks_cd h y
  rw [cnS_app l1 l2, mks_app, mk_app, mks_app, mk_app, mks_one _ _ (show (22 : Nat) ≠ 1 by decide), mk_one _ (show (22 : Nat) ≠ 1 by decide), ih.1, i1.1]
  exact ⟨rfl, by omega⟩
theorem ins_ok {k z : Nat} (hz : z ≤ 1000) (hn : p.ns.length ≤ 300) (hf6 : p.fs.length ≤ 6) (hf3 : ∀ f ∈ p.fs, f.params.length ≤ 3) (hT : TextsOk p) {t : Tk} {a b at_ : Nat} {l : List InsM} (h : Cd p t a b at_ l) (hat : at_ + l.length ≤ 10000) (H : ∀ y nd, a ≤ y → y < b → p.ns[y]? = some nd → NodeAt p.fs k z p.st y nd) (Hb : ∀ (y : Nat) (nd : NodeM), p.ns[y]? = some nd → nd.kind = 2 → nd.n ≤ 1) : ∀ i ∈ l, InsOk p k z at_ (at_ + l.length) i := by
 have slot : ∀ {x : Nat} {nd : NodeM}, p.ns[x]? = some nd → NodeAt p.fs k z p.st x nd → nameK nd.kind = true → 0 ≤ slotP p x ∧ slotP p x < (z : Int) := fun {x nd} hx hN hk => by
  obtain ⟨v, h1, h2, h3⟩ := hN.sl
  have h1 : p.slots[x]? = some v := h1
  unfold slotP
  rw [List.getD_eq_getElem?_getD, h1]
  exact h2 hk
 have typ : ∀ {x : Nat} {nd : NodeM}, p.ns[x]? = some nd → NodeAt p.fs k z p.st x nd → nd.kind = 4 → typeP p x ≤ 4 := fun {x nd} hx hN hk => by
  obtain ⟨t, h1, h2⟩ := hN.ty
  have h1 : p.types[x]? = some t := h1
  unfold typeP
  rw [List.getD_eq_getElem?_getD, h1]
  simp only [KTy, hk, show ¬ ((4 : Nat) = 1 ∨ (4 : Nat) = 19) by decide, show ¬ ((4 : Nat) = 5 ∨ (4 : Nat) = 7) by decide, show ¬ (4 : Nat) = 6 by decide, show ¬ (4 : Nat) = 2 by decide, show ¬ (4 : Nat) = 8 by decide, show ¬ (4 : Nat) = 3 by decide, show ¬ (4 : Nat) = 20 by decide, show ¬ (4 : Nat) = 9 by decide, if_false, if_true] at h2
  exact h2.2
 have simple : ∀ (o lo hi : Nat), (o = 7 ∨ o = 8 ∨ o = 9 ∨ o = 10 ∨ o = 13 ∨ o = 14 ∨ o = 15 ∨ o = 21 ∨ o = 22 ∨ o = 23) → InsOk p k z lo hi ⟨o, 0, 0, []⟩ := fun o lo hi ho => by
  rcases ho with rfl | rfl | rfl | rfl | rfl | rfl | rfl | rfl | rfl | rfl <;>
  exact ⟨⟨⟨by simp, by simp⟩, by first | exact .inr (.inr ⟨rfl, rfl⟩) | exact .inr (.inl ⟨rfl, Int.le_refl _, by decide⟩), .inr ⟨rfl, rfl⟩, .inr rfl⟩, fun t h => (by simp [toI] at h), fun h => (by simp at h), fun h => (by simp at h), fun h => (by simp at h)⟩
 have slotI : ∀ (o : Nat) (v : Int) (lo hi : Nat), (o = 6 ∨ o = 11 ∨ o = 12) → 0 ≤ v → v < (z : Int) → InsOk p k z lo hi ⟨o, v, 0, []⟩ := fun o v lo hi ho h0 h1 => by
  rcases ho with rfl | rfl | rfl <;>
  exact ⟨⟨⟨by simp, by simp⟩, .inr (.inl ⟨rfl, h0, (by show v ≤ _; omega)⟩), .inr ⟨rfl, rfl⟩, .inr rfl⟩, fun t h => (by simp [toI] at h), fun _ => h1, fun h => (by simp at h), fun h => by simp at h⟩
 have jumpI : ∀ (o t lo hi : Nat), (o = 16 ∨ o = 17 ∨ o = 18 ∨ o = 19) → lo ≤ t → t ≤ hi → hi ≤ 10000 → InsOk p k z lo hi ⟨o, (t : Int), 0, []⟩ := fun o t lo hi ho h0 h1 h2 => by
  rcases ho with rfl | rfl | rfl | rfl <;>
  exact ⟨⟨⟨by simp, by simp⟩, .inr (.inl ⟨rfl, (by show (0 : Int) ≤ t; omega), (by show (t : Int) ≤ _; omega)⟩), .inr ⟨rfl, rfl⟩, .inr rfl⟩, fun t' h => (by simp [toI] at h; omega), fun h => (by simp at h), fun h => (by simp at h), fun h => by simp at h⟩
 have markI : ∀ {x : Nat} {nd : NodeM} (lo hi : Nat), p.ns[x]? = some nd → NodeAt p.fs k z p.st x nd → InsOk p k z lo hi ⟨1, (x : Int), 0, []⟩ := fun {x nd} lo hi hx hN => by
  have hlt := (List.getElem?_eq_some_iff.1 hx).1
  exact ⟨⟨⟨by simp, by simp⟩, .inr (.inl ⟨rfl, (by show (0 : Int) ≤ x; omega), (by show (x : Int) ≤ _; omega)⟩), .inr ⟨rfl, rfl⟩, .inr rfl⟩, fun t h => (by simp [toI] at h), fun h => (by simp at h), fun h => (by simp at h), fun _ => ⟨x, rfl, hlt, hN.fn⟩⟩
 have up : ∀ {l : List InsM} {lo hi : Nat} (lo' hi' : Nat), (∀ i ∈ l, InsOk p k z lo hi i) → lo' ≤ lo → hi ≤ hi' → ∀ i ∈ l, InsOk p k z lo' hi' i := fun lo' hi' h h1 h2 i hi => (h i hi).mono h1 h2
 have app : ∀ {l m : List InsM} {lo hi : Nat}, (∀ i ∈ l, InsOk p k z lo hi i) → (∀ i ∈ m, InsOk p k z lo hi i) → ∀ i ∈ l ++ m, InsOk p k z lo hi i := fun h1 h2 i hi => by
  rcases List.mem_append.1 hi with hi | hi
  · exact h1 i hi
  · exact h2 i hi
 have one : ∀ {x : InsM} {lo hi : Nat}, InsOk p k z lo hi x → ∀ i ∈ [x], InsOk p k z lo hi i := fun h i hi => by rw [List.mem_singleton.1 hi]; exact h
 have cns : ∀ {x : InsM} {l : List InsM} {lo hi : Nat}, InsOk p k z lo hi x → (∀ i ∈ l, InsOk p k z lo hi i) → ∀ i ∈ x :: l, InsOk p k z lo hi i := fun h1 h2 i hi => by
  rcases List.mem_cons.1 hi with rfl | hi
  · exact h1
  · exact h2 i hi
 induction h with
 | leaf x at_ nd i hx hl hi =>
  have hN := H x nd (Nat.le_refl _) (Nat.lt_succ_self _) hx
  refine one ?_
  rcases hi with ⟨h, rfl⟩ | ⟨h, rfl⟩ | ⟨h, rfl⟩ | ⟨h, rfl⟩ | ⟨h, rfl⟩
  · exact ⟨⟨⟨by simp, by simp⟩, .inl rfl, .inr ⟨rfl, rfl⟩, .inr rfl⟩, fun t h => (by simp [toI] at h), fun h => (by simp at h), fun h => (by simp at h), fun h => (by simp at h)⟩
  · have := Hb x nd hx h
    exact ⟨⟨⟨by simp, by simp⟩, .inr (.inl ⟨rfl, (by show (0 : Int) ≤ nd.n; omega), (by show (nd.n : Int) ≤ _; omega)⟩), .inr ⟨rfl, rfl⟩, .inr rfl⟩, fun t h => (by simp [toI] at h), fun h => (by simp at h), fun h => (by simp at h), fun h => (by simp at h)⟩
  · exact ⟨⟨⟨by simp, by simp⟩, .inr (.inr ⟨rfl, rfl⟩), .inr ⟨rfl, rfl⟩, .inl ⟨rfl, hT x nd hx h⟩⟩, fun t h => (by simp [toI] at h), fun h => (by simp at h), fun h => (by simp at h), fun h => (by simp at h)⟩
  · have hs := slot hx hN (by rw [h]; rfl)
    have ht := typ hx hN h
    exact ⟨⟨⟨by simp, by simp⟩, .inr (.inl ⟨rfl, hs.1, by show slotP p x ≤ _; omega⟩), .inl ⟨rfl, by show typeP p x ≤ _; omega⟩, .inr rfl⟩, fun t h => (by simp [toI] at h), fun _ => hs.2, fun h => (by simp at h), fun h => by simp at h⟩
  · exact simple 14 _ _ (by decide)
 | un x at_ a u nd i l hx hl hi h ih =>
  have hl := h.len.1
  rw [List.length_append, List.length_singleton] at hat ⊢
  have hN := H x nd hl (Nat.lt_succ_self _) hx
  refine app (up _ _ (ih (by omega) (fun y nd h1 h2 => H y nd h1 (by omega))) (Nat.le_refl _) (by omega)) (one ?_)
  rcases hi with ⟨h, rfl⟩ | ⟨h, rfl⟩ | ⟨h, rfl⟩ | ⟨h, rfl⟩ | ⟨h, rfl⟩
  · have hs := slot hx hN (by rw [h]; rfl)
    exact slotI 11 _ _ _ (by decide) hs.1 hs.2
  · exact simple 10 _ _ (by decide)
  · exact simple 8 _ _ (by decide)
  · exact simple 9 _ _ (by decide)
  · exact simple 13 _ _ (by decide)
 | bin x at_ a b u v line y l m hx hy h1 h2 hu hv ihu ihv =>
  have l1 := hu.len.1
  have l2 := hv.len.1
  rw [List.length_append, List.length_append, List.length_singleton] at hat ⊢
  refine app (app (up _ _ (ihu (by omega) (fun y nd h1 h2 => H y nd h1 (by omega))) (Nat.le_refl _) (by omega)) (up _ _ (ihv (by omega) (fun y nd h1 h2 => H y nd (by omega) (by omega))) (by omega) (by omega))) (one ?_)
  have hs : y.length ≤ 40 := by
    simp only [allSigns, List.mem_cons, List.not_mem_nil, or_false] at hy
    rcases hy with h | h | h | h | h | h | h | h | h | h | h <;> rw [h] <;> decide
  exact ⟨⟨⟨by simp, by simp⟩, .inr (.inr ⟨rfl, rfl⟩), .inr ⟨rfl, rfl⟩, .inl ⟨rfl, hs⟩⟩, fun t h => (by simp [toI] at h), fun h => (by simp at h), fun h => (by simp at h), fun h => (by simp at h)⟩
 | early x at_ a b u v line o y l m hx hy hu hv ihu ihv =>
  have l1 := hu.len.1
  have l2 := hv.len.1
  have ho : o = 16 ∨ o = 17 ∨ o = 18 ∨ o = 19 := hy.elim (fun h => .inr (.inr (.inl h.2))) (fun h => .inr (.inr (.inr h.2)))
  rw [List.length_append, List.length_append, List.length_singleton] at hat ⊢
  exact app (app (up _ _ (ihu (by omega) (fun y nd h1 h2 => H y nd h1 (by omega))) (Nat.le_refl _) (by omega)) (one (jumpI o _ _ _ ho (by omega) (by omega) (by omega)))) (up _ _ (ihv (by omega) (fun y nd h1 h2 => H y nd (by omega) (by omega))) (by omega) (by omega))
 | call x at_ a line j f y ks l hx hj hf hp h ih =>
  have l1 := h.len.1
  rw [List.length_append, List.length_singleton] at hat ⊢
  have h3 := hf3 f (List.mem_of_getElem? hf)
  have hjl := (List.getElem?_eq_some_iff.1 hf).1
  refine app (up _ _ (ih (by omega) (fun y nd h1 h2 => H y nd h1 (by omega))) (Nat.le_refl _) (by omega)) (one ?_)
  exact ⟨⟨⟨by simp, by simp⟩, .inr (.inl ⟨rfl, (by show (0 : Int) ≤ j; omega), (by show (j : Int) ≤ _; omega)⟩), .inl ⟨rfl, by show ks.length ≤ _; omega⟩, .inr rfl⟩, fun t h => (by simp [toI] at h), fun h => (by simp at h), fun _ => ⟨j, f, rfl, hf, hp.symm⟩, fun h => by simp at h⟩
 | argN a at_ => intro i hi; cases hi
 | argC u at_ a b c ks l m h h2 ih ih2 =>
  have l1 := h.len.1
  have l2 := h2.len.1
  rw [List.length_append] at hat ⊢
  exact app (up _ _ (ih (by omega) (fun y nd h1 h2 => H y nd h1 (by omega))) (Nat.le_refl _) (by omega)) (up _ _ (ih2 (by omega) (fun y nd h1 h2 => H y nd (by omega) (by omega))) (by omega) (by omega))
 | plain x at_ a nd i l hx hi h ih =>
  have l1 := h.len.1
  have hN := H x nd l1 (Nat.lt_succ_self _) hx
  rw [List.length_cons, List.length_append, List.length_singleton] at hat ⊢
  refine cns (markI _ _ hx hN) (app (up _ _ (ih (by omega) (fun y nd h1 h2 => H y nd h1 (by omega))) (by omega) (by omega)) (one ?_))
  rcases hi with ⟨h | h, _, rfl⟩ | ⟨h, _, rfl⟩ | ⟨h, _, rfl⟩ | ⟨h, _, rfl⟩ | ⟨h, _, rfl⟩ | ⟨h, _, rfl⟩
  · have hs := slot hx hN (by rw [h]; rfl)
    exact slotI 6 _ _ _ (by decide) hs.1 hs.2
  · have hs := slot hx hN (by rw [h]; rfl)
    exact slotI 6 _ _ _ (by decide) hs.1 hs.2
  · have hs := slot hx hN (by rw [h]; rfl)
    exact slotI 12 _ _ _ (by decide) hs.1 hs.2
  · exact simple 23 _ _ (by decide)
  · exact simple 15 _ _ (by decide)
  · exact simple 22 _ _ (by decide)
  · exact simple 21 _ _ (by decide)
 | if2 x at_ a b u v line l m hx hu hv ihu ihv =>
  have l1 := hu.len.1
  have l2 := hv.len.1
  have hN := H x _ (by omega) (Nat.lt_succ_self _) hx
  rw [List.length_cons, List.length_append, List.length_append, List.length_singleton] at hat ⊢
  exact cns (markI _ _ hx hN) (app (app (up _ _ (ihu (by omega) (fun y nd h1 h2 => H y nd h1 (by omega))) (by omega) (by omega)) (one (jumpI 17 _ _ _ (by decide) (by omega) (by omega) (by omega)))) (up _ _ (ihv (by omega) (fun y nd h1 h2 => H y nd (by omega) (by omega))) (by omega) (by omega)))
 | if3 x at_ a b c u v t line l m n hx hu hv ht ihu ihv iht =>
  have l1 := hu.len.1
  have l2 := hv.len.1
  have l3 := ht.len.1
  have hN := H x _ (by omega) (Nat.lt_succ_self _) hx
  rw [List.length_cons, List.length_append, List.length_append, List.length_append, List.length_append, List.length_singleton, List.length_singleton] at hat ⊢
  exact cns (markI _ _ hx hN) (app (app (app (up _ _ (ihu (by omega) (fun y nd h1 h2 => H y nd h1 (by omega))) (by omega) (by omega)) (one (jumpI 17 _ _ _ (by decide) (by omega) (by omega) (by omega)))) (app (up _ _ (ihv (by omega) (fun y nd h1 h2 => H y nd (by omega) (by omega))) (by omega) (by omega)) (one (jumpI 16 _ _ _ (by decide) (by omega) (by omega) (by omega))))) (up _ _ (iht (by omega) (fun y nd h1 h2 => H y nd (by omega) (by omega))) (by omega) (by omega)))
 | loop x at_ a b u v line l m hx hu hv ihu ihv =>
  have l1 := hu.len.1
  have l2 := hv.len.1
  have hN := H x _ (by omega) (Nat.lt_succ_self _) hx
  rw [List.length_cons, List.length_append, List.length_append, List.length_append, List.length_singleton, List.length_singleton] at hat ⊢
  exact cns (markI _ _ hx hN) (app (app (up _ _ (ihu (by omega) (fun y nd h1 h2 => H y nd h1 (by omega))) (by omega) (by omega)) (one (jumpI 17 _ _ _ (by decide) (by omega) (by omega) (by omega)))) (app (up _ _ (ihv (by omega) (fun y nd h1 h2 => H y nd (by omega) (by omega))) (by omega) (by omega)) (one (jumpI 16 _ _ _ (by decide) (by omega) (by omega) (by omega)))))
 | blk x at_ a line ks l hx h ih => exact ih hat (fun y nd h1 h2 => H y nd h1 (by omega))
 | seqN a at_ => intro i hi; cases hi
 | seqC u at_ a b c ks l m h h2 ih ih2 =>
  have l1 := h.len.1
  have l2 := h2.len.1
  rw [List.length_append] at hat ⊢
  exact app (up _ _ (ih (by omega) (fun y nd h1 h2 => H y nd h1 (by omega))) (Nat.le_refl _) (by omega)) (up _ _ (ih2 (by omega) (fun y nd h1 h2 => H y nd (by omega) (by omega))) (by omega) (by omega))
structure FnOkI (p : ProgM) (k e e2 : Nat) (ins : List InsM) : Prop where
 lt : e < e2
 le : e2 ≤ ins.length
 last : ∃ f, p.fs[k]? = some f ∧ ins[e2 - 1]? = some ⟨22, (f.ret : Int), 0, []⟩
 each : ∃ z, p.sizes[k]? = some z ∧ ∀ i x, e ≤ i → i < e2 → ins[i]? = some x → MayI x ∧ (∀ t, toI x = some t → (e : Int) ≤ t ∧ t < (e2 : Int)) ∧ (x.op = 5 ∨ x.op = 6 ∨ x.op = 11 ∨ x.op = 12 → x.a < (z : Int)) ∧
  (x.op = 20 → ∃ (j : Nat) (f : FuncM), x.a = j ∧ p.fs[j]? = some f ∧ x.b = f.params.length) ∧ (x.op = 1 → ∃ y : Nat, x.a = y ∧ y < p.ns.length ∧ p.fn[y]? = some k)
theorem letsN_le (ns : List NodeM) (a b : Nat) : letsN ns a b ≤ b - a := by
 unfold letsN
 refine Nat.le_trans (List.countP_le_length) ?_
 rw [List.length_range']; exact Nat.le_refl _
theorem fns_okI (hi : ProgIs p) (hT : TextsOk p) : ∀ {l : List FuncM} {zs : List Nat} {k a b at_ : Nat} {code pre post : List InsM} {en : List Nat}, FnsCd p k l a b at_ code en → FnsDone p.ns p.fs p.st k l zs a b → Seg p.ns a (l.map (·.body)) b → pre.length = at_ → at_ + code.length ≤ 10000 → b ≤ p.ns.length →
  (∀ i f, l[i]? = some f → p.fs[k + i]? = some f) → (∀ i z, zs[i]? = some z → p.sizes[k + i]? = some z) → ∀ i e, en[i]? = some e → FnOkI p (k + i) e ((en[i + 1]?).getD (at_ + code.length)) (pre ++ code ++ post) := by
 intro l
 induction l with
 | nil =>
  intro zs k a b at_ code pre post en h _ _ _ _ _ _ _ i e he
  cases h
  simp at he
 | cons f l ih =>
  intro zs k a b at_ code pre post en h hd hs hpre hat hb hf hz i e he
  cases h with
  | cons _ _ c _ _ _ _ m n en h h2 =>
    cases hd with
    | cons _ z _ _ zs _ c' _ hd hd2 =>
     cases hs with
     | cons _ _ _ _ nd hx hs hs2 =>
      have hc : c = f.body + 1 := by cases h; rfl
      have hc' : c' = f.body + 1 := hd.body.symm
      subst hc
      subst hc'
      have hle : f.body + 1 ≤ b := hs2.le
      have hsl : a ≤ f.body := hs.le
      rw [List.length_append, List.length_append, List.length_singleton] at hat
      have hz0 : z ≤ 1000 := by
       have h1 := hd.size
       have h2 := letsN_le p.ns a (f.body + 1)
       have h3 := hi.tree.ok.pars f (List.mem_of_getElem? (hf 0 f rfl))
       have h4 := hi.tree.ok.few
       omega
      have hB : ∀ (y : Nat) (nd : NodeM), p.ns[y]? = some nd → nd.kind = 2 → nd.n ≤ 1 := fun y nd hy hk => by
       have := hi.tree.ok.nodes y nd hy
       cases this <;> simp only at hk <;> first | assumption | omega
      have key := ins_ok hz0 hi.tree.ok.few hi.tree.ok.fewf hi.tree.ok.pars hT h (by omega) (fun y nd h1 h2 hy => hd.at_ y nd h1 h2 hy) hB
      have en1 : ∀ e ∈ en, at_ + m.length + 1 ≤ e := fun e he => (h2.entry e he).1
      cases i with
      | succ i =>
       have he : en[i]? = some e := by simpa using he
       have := ih (zs := zs) (k := k + 1) (pre := pre ++ (m ++ [⟨22, (f.ret : Int), 0, []⟩])) (post := post) h2 hd2 hs2 (by rw [List.length_append, List.length_append, List.length_singleton, hpre]; omega) (by omega) hb (fun i g hg => by rw [show k + 1 + i = k + (i + 1) by omega]; exact hf (i + 1) g (by simpa using hg)) (fun i z' hg => by rw [show k + 1 + i = k + (i + 1) by omega]; exact hz (i + 1) z' (by simpa using hg)) i e he
       rw [show k + 1 + i = k + (i + 1) by omega] at this
       have e1 : pre ++ (m ++ [(⟨22, (f.ret : Int), 0, []⟩ : InsM)]) ++ n ++ post = pre ++ (m ++ [⟨22, (f.ret : Int), 0, []⟩] ++ n) ++ post := by simp
       have e2 : (at_ :: en)[i + 1 + 1]? = en[i + 1]? := List.getElem?_cons_succ
       rw [e1] at this
       rw [e2, List.length_append, List.length_append, List.length_singleton]
       rw [show at_ + m.length + 1 + n.length = at_ + (m.length + 1 + n.length) by omega] at this
       exact this
      | zero =>
       have he : at_ = e := by simpa using he
       subst he
       have hend : ((at_ :: en)[0 + 1]?).getD (at_ + (m ++ [(⟨22, (f.ret : Int), 0, []⟩ : InsM)] ++ n).length) = at_ + m.length + 1 := by
         rw [List.getElem?_cons_succ]
         cases h2 with
         | nil => simp; omega
         | cons => simp
       rw [hend]
       have hlen : (pre ++ (m ++ [(⟨22, (f.ret : Int), 0, []⟩ : InsM)] ++ n) ++ post).length = at_ + m.length + 1 + n.length + post.length := by
         simp only [List.length_append, List.length_singleton, hpre]; omega
       have hlast : (pre ++ (m ++ [(⟨22, (f.ret : Int), 0, []⟩ : InsM)] ++ n) ++ post)[at_ + m.length]? = some ⟨22, (f.ret : Int), 0, []⟩ := by
         rw [List.append_assoc, List.append_assoc, List.append_assoc, List.getElem?_append_right (by omega), List.getElem?_append_right (by omega)]
         rw [hpre, show at_ + m.length - at_ - m.length = 0 by omega]; rfl
       refine ⟨by omega, by omega, ⟨f, hf 0 f rfl, by rw [show at_ + m.length + 1 - 1 = at_ + m.length by omega]; exact hlast⟩, z, hz 0 z rfl, fun i x h1 h2 hx => ?_⟩
       by_cases him : i = at_ + m.length
       · subst him
         rw [hlast] at hx
         injection hx with hx
         subst hx
         have hr := (hi.tree.ok.types f (List.mem_of_getElem? (hf 0 f rfl))).1
         exact ⟨⟨⟨by simp, by simp⟩, .inr (.inl ⟨rfl, (by show (0 : Int) ≤ f.ret; omega), (by show (f.ret : Int) ≤ _; omega)⟩), .inr ⟨rfl, rfl⟩, .inr rfl⟩, fun t h => (by simp [toI] at h), fun h => (by simp at h), fun h => (by simp at h), fun h => (by simp at h)⟩
       · have hmem : x ∈ m := by
          rw [List.append_assoc, List.append_assoc, List.append_assoc, List.getElem?_append_right (by omega), List.getElem?_append_left (by omega)] at hx
          exact List.mem_of_getElem? hx
         have hk := key x hmem
         exact ⟨hk.may, fun t ht => by have := hk.jump t ht; omega, hk.slot, hk.call, hk.mark⟩
theorem comp_ok (hi : ProgIs p) (hT : TextsOk p) : ∀ k e, (compM p).entry[k]? = some e → FnOkI p k e (((compM p).entry[k + 1]?).getD (compM p).ins.length) (compM p).ins := by
 intro k e he
 have h := comp_cd hi
 have hl := h.len
 have h3 := hi.tree.ok.few
 have h6 := hi.tree.ok.fewf
 have := fns_okI hi hT (pre := []) (post := []) h hi.done hi.tree.seg rfl (by omega) (Nat.le_refl _) (fun i f hf => by simpa using hf) (fun i z hz => by simpa using hz) k e he
 simpa using this
end
def hasAL : List Nat := [1, 2, 3, 5, 6, 11, 12, 16, 17, 18, 19, 20, 22]
theorem hasA_mem (o : Nat) : hasAI o = decide (o ∈ hasAL) := by
 unfold hasAI hasAL
 congr 1
 simp only [List.mem_cons, List.not_mem_nil, or_false]
set_option maxHeartbeats 2000000 in
set_option maxRecDepth 100000 in
theorem hasA_any (w : World) (o : Nat) : Calls Tryz.prog 46 #[.int .i64 (o : Nat)] w fun e w' => e = .returned (.bool (hasAI o)) ∧ Fr nob w w' := by
 have B0 := hid (Blk.new w 3 #[.int .i64 1, .int .i64 2, .int .i64 3, .int .i64 5, .int .i64 6, .int .i64 11, .int .i64 12, .int .i64 16, .int .i64 17, .int .i64 18, .int .i64 19, .int .i64 20, .int .i64 22])
 have F0 := hid (show Fr nob w (w.alloc (.cells #[.int .i64 1, .int .i64 2, .int .i64 3, .int .i64 5, .int .i64 6, .int .i64 11, .int .i64 12, .int .i64 16, .int .i64 17, .int .i64 18, .int .i64 19, .int .i64 20, .int .i64 22] 3)) from (Fr.refl nob w).alloc _)
 go_enter Tryz.func46, Tryz.ntmps46
 go_wp2_with fail
 generalize w.alloc (.cells #[.int .i64 1, .int .i64 2, .int .i64 3, .int .i64 5, .int .i64 6, .int .i64 11, .int .i64 12, .int .i64 16, .int .i64 17, .int .i64 18, .int .i64 19, .int .i64 20, .int .i64 22] 3) = w1 at *
 generalize w.heap.size = T at *
 go_loopw [4] (fun i wr => ∃ j : Nat, j ≤ 13 ∧ i = .int .i64 j ∧ Hid (∀ k < j, hasAL[k]? ≠ some o) ∧ wr = w1) (fun i _ => 13 - (intOf i).toNat)
 case atStart => exact ⟨0, Nat.zero_le _, rfl, hid (fun k hk => by omega), rfl⟩
 case round =>
  obtain ⟨j, hj, rfl, HK, rfl⟩ := hrel
  by_cases hlt : j < 13
  · obtain ⟨v, hv⟩ : ∃ v, hasAL[j]? = some v := ⟨_, List.getElem?_eq_getElem (by show j < 13; exact hlt)⟩
    have c0 : wr.cell? ⟨T, j, none⟩ = some (.int .i64 (v : Nat)) := by
      rw [B0.out.cell j]
      have h : (#[(.int .i64 1 : Value), .int .i64 2, .int .i64 3, .int .i64 5, .int .i64 6, .int .i64 11, .int .i64 12, .int .i64 16, .int .i64 17, .int .i64 18, .int .i64 19, .int .i64 20, .int .i64 22] : Array Value).toList = hasAL.map fun (x : Nat) => Value.int .i64 (x : Int) := rfl
      rw [← Array.getElem?_toList, h, List.getElem?_map, hv]; rfl
    have hlt2 : (j : Int) < 13 := by omega
    have HV := hid hv
    clear hv hlt
    by_cases he : v = o
    · have e1 : ((v : Int) == (o : Int)) = true := by rw [he]; simp
      have HE := hid he
      clear he
      go_wp2_with fail
      go_ret
      have hm : hasAI o = true := by
       rw [hasA_mem, decide_eq_true_eq]
       exact List.mem_of_getElem? (by rw [← HE.out]; exact HV.out)
      refine ⟨?_, F0.out⟩
      rw [hm]
      try rfl
    · have e1 : ((v : Int) == (o : Int)) = false := beq_eq_false_iff_ne.2 (by omega)
      have HK2 := hid (show ∀ k < j + 1, hasAL[k]? ≠ some o from fun k hk => by
       by_cases e : k = j
       · subst e; rw [HV.out]; intro h; injection h with h; exact he h
       · exact HK.out k (by omega))
      clear he HK
      go_wp2_with fail
      go_roundw
      case rel => exact ⟨j + 1, by omega, by go_num, HK2, by first | rfl | trivial⟩
      case measure => simp [intOf]; omega
  · have hj2 : j = 13 := by omega
    subst hj2
    clear hlt hj
    go_wp2_with fail
    go_ret
    have hm : hasAI o = false := by
      rw [hasA_mem, decide_eq_false_iff_not]
      intro h
      obtain ⟨k, hk, e⟩ := List.getElem_of_mem h
      have hk2 : k < 13 := hk
      exact HK.out k hk2 (by rw [List.getElem?_eq_getElem hk]; exact congrArg some e)
    refine ⟨?_, F0.out⟩
    rw [hm]
    try rfl
theorem hasB_any (w : World) (o : Nat) : Calls Tryz.prog 47 #[.int .i64 (o : Nat)] w fun e w' => e = .returned (.bool (hasBI o)) ∧ Fr nob w w' := by
 unfold hasBI
 by_cases h5 : o = 5
 · subst h5
   go_enter Tryz.func47, Tryz.ntmps47
   go_wp2_with fail
   go_ret
   exact ⟨rfl, Fr.refl _ _⟩
 · have e5 : ((o : Int) == 5) = false := beq_eq_false_iff_ne.2 (by omega)
   by_cases h20 : o = 20
   · subst h20
     go_enter Tryz.func47, Tryz.ntmps47
     go_wp2_with fail
     go_ret
     exact ⟨rfl, Fr.refl _ _⟩
   · have e20 : ((o : Int) == 20) = false := beq_eq_false_iff_ne.2 (by omega)
     rw [decide_eq_false (by omega)]
     clear h5 h20
     go_enter Tryz.func47, Tryz.ntmps47
     go_wp2_with fail
     go_ret
     exact ⟨rfl, Fr.refl _ _⟩
theorem hasS_any (w : World) (o : Nat) : Calls Tryz.prog 48 #[.int .i64 (o : Nat)] w fun e w' => e = .returned (.bool (hasSI o)) ∧ Fr nob w w' := by
 unfold hasSI
 by_cases h5 : o = 4
 · subst h5
   go_enter Tryz.func48, Tryz.ntmps48
   go_wp2_with fail
   go_ret
   exact ⟨rfl, Fr.refl _ _⟩
 · have e5 : ((o : Int) == 4) = false := beq_eq_false_iff_ne.2 (by omega)
   by_cases h20 : o = 7
   · subst h20
     go_enter Tryz.func48, Tryz.ntmps48
     go_wp2_with fail
     go_ret
     exact ⟨rfl, Fr.refl _ _⟩
   · have e20 : ((o : Int) == 7) = false := beq_eq_false_iff_ne.2 (by omega)
     rw [decide_eq_false (by omega)]
     clear h5 h20
     go_enter Tryz.func48, Tryz.ntmps48
     go_wp2_with fail
     go_ret
     exact ⟨rfl, Fr.refl _ _⟩
theorem numberT_any (w : World) (n : Int) (h0 : 0 ≤ n) (h1 : n ≤ 1073741824) : Calls Tryz.prog 70 #[.bool true, .int .i64 n] w fun e w' => e = .returned (.bool true) ∧ Fr nob w w' := by
 go_enter Tryz.func70, Tryz.ntmps70
 go_wp2_with fail
 go_ret
 exact ⟨rfl, Fr.refl _ _⟩
theorem numberF_any (w : World) : Calls Tryz.prog 70 #[.bool false, .int .i64 0] w fun e w' => e = .returned (.bool true) ∧ Fr nob w w' := by
 go_enter Tryz.func70, Tryz.ntmps70
 go_wp2_with fail
 go_ret
 exact ⟨rfl, Fr.refl _ _⟩
theorem TyB : SlTy Tryz.prog 41 5 1 1 (.int .u8 0) := SlTy.mk' (by kernel_rfl) (by kernel_rfl) rfl (by decide)
structure BytesAt (w0 w : World) (v : Value) (n : Nat) (xs : List Value) : Prop where
 own : Own w 5 1 v n xs
 one : ∀ u ∈ xs, u.oneCell' = true
 new : ∀ b, blk v = some b → w0.heap.size ≤ b
theorem BytesAt.no {w0 w w' : World} {v : Value} {n : Nat} {xs : List Value} (h : BytesAt w0 w v n xs) (f : Fr nob w w') : BytesAt w0 w' v n xs := ⟨h.own.fr f (fun _ _ x => x), h.one, h.new⟩
theorem BytesAt.older {w0 w1 w : World} {v : Value} {n : Nat} {xs : List Value} (h : BytesAt w1 w v n xs) (f : Fr nob w0 w1) : BytesAt w0 w v n xs := ⟨h.own, h.one, fun b hb => Nat.le_trans f.size (h.new b hb)⟩
theorem BytesAt.app {w0 w w1 w2 : World} {v : Value} {n m : Nat} {xs ys : List Value} {A : Option Addr} {c : Nat} (h : BytesAt w0 w v n xs) (F : Fr nob w0 w) (hf0 : Fr nob w w1) (hy : ∀ u ∈ ys, u.oneCell' = true) (ho : Own w2 5 1 (.slice A (n + m) c) (n + m) (xs ++ ys)) (hf : Fr (obl (blk v)) w1 w2) (hv : blk (.slice A (n + m) c) = blk v ∨ blk (.slice A (n + m) c) = some w1.heap.size) :
   BytesAt w0 w2 (.slice A (n + m) c) (n + m) (xs ++ ys) ∧ Fr nob w0 w2 := by
 refine ⟨⟨ho, fun u hu => ?_, fun b hb => ?_⟩, (F.tr hf0).trans hf (fun _ _ x => x) (fun b hb hm => by have := h.new b hm; omega)⟩
 · rcases List.mem_append.1 hu with hu | hu
   · exact h.one u hu
   · exact hy u hu
 · rcases hv with e | e
   · exact h.new b (e ▸ hb)
   · rw [hb] at e; injection e with e
     have := (F.tr hf0).size; omega
set_option maxHeartbeats 2000000 in
set_option maxRecDepth 100000 in
theorem eight_any (w : World) (a : Int) : Calls Tryz.prog 44 #[.int .i64 a] w fun e w' => ∃ A c xs, e = .returned (.slice A 8 c) ∧ BytesAt w w' (.slice A 8 c) 8 xs ∧ Fr nob w w' := by
 go_enter Tryz.func44, Tryz.ntmps44
 go_wp2_with fail
 have B0 := hid (show BytesAt w (w.alloc (.cells #[] 5)) (.slice (some ⟨w.heap.size, 0, none⟩) 0 0) 0 [] from ⟨Own.empty _ _ _ _, fun u hu => (by simp at hu), fun b hb => (by simp [blk] at hb)⟩)
 have F0 := hid (show Fr nob w (w.alloc (.cells #[] 5)) from (Fr.refl nob w).alloc _)
 generalize w.alloc (.cells #[] 5) = w1 at *
 generalize w.heap.size = T at *
 go_loopw [3, 4] (fun v i wr => ∃ (j : Nat) (A : Option Addr) (c : Nat) (xs : List Value), j ≤ 8 ∧ v = .slice A j c ∧ i = .int .i64 (7 - (j : Int)) ∧ Hid (BytesAt w wr (.slice A j c) j xs) ∧ Hid (Fr nob w wr)) (fun _ i _ => (intOf i + 1).toNat)
 case atStart => exact ⟨0, _, _, [], Nat.zero_le _, rfl, by simp, B0, F0⟩
 case round =>
  obtain ⟨j, A, c, xs, hj, rfl, rfl, HB, HF⟩ := hrel
  clear B0 F0
  by_cases hlt : j < 8
  · have h1 : (0 : Int) ≤ 7 - (j : Int) := by omega
    have h2 : ¬ (7 - (j : Int)) < 0 := by omega
    have h3 : (0 : Int) ≤ 8 * (7 - (j : Int)) := by omega
    have h4 : IntKind.i64.wrap (8 * (7 - (j : Int))) = 8 * (7 - (j : Int)) := IntWalk.i64_in _ (by omega)
    have h5 : ¬ 8 * (7 - (j : Int)) < 0 := by omega
    have HJ := hid hlt
    go_wp2_with (at_builtin; revert HJ)
    intro HJ
    refine wpList_append (v := .slice A j c) (n := j) (m := 1) (xs := xs) (news := [_]) rfl _ _ rfl TyB rfl rfl (HB.out.own.alloc _) (Rd.ofBlk (n := 1) (cs := [_]) (Blk.new _ _ _) rfl (by decide)) (by simp [Value.oneCell']) (by omega) (by unfold maxLen; omega) ?_
    intro A3 c3 w3 ho3 hf3 hv3
    have X := HB.out.app HF.out ((Fr.refl nob wr).alloc _) (by simp [Value.oneCell']) ho3 hf3 hv3
    have X1 := hid X.1
    have X2 := hid X.2
    clear ho3 hf3 hv3 X HB HF
    go_wp2_with fail
    go_roundw
    case rel => exact ⟨j + 1, A3, c3, _, by have := HJ.out; omega, rfl, by go_num, X1, X2⟩
    case measure => simp [intOf]; have := HJ.out; omega
  · have hj8 : j = 8 := by omega
    subst hj8
    clear hlt hj
    go_wp2_with fail
    go_ret
    exact ⟨_, _, _, rfl, HB.out, HF.out⟩
set_option maxHeartbeats 4000000 in
set_option maxRecDepth 100000 in
theorem may_any (w : World) (x : InsM) (h : MayI x) : Calls Tryz.prog 45 #[.agg #[.int .i64 (x.op : Nat), .int .i64 x.a, .int .i64 (x.b : Nat), .string (bs x.s)]] w fun e w' => e = .returned (.bool true) ∧ Fr nob w w' := by
 obtain ⟨o, a, b, s⟩ := x
 obtain ⟨⟨o1, o2⟩, ha, hb, hs⟩ := h
 dsimp only at o1 o2 ha hb hs ⊢
 have B0 := hid (Blk.new w 45 #[.int .i64 (o : Nat), .int .i64 a, .int .i64 (b : Nat), .string (bs s)])
 have F0 := hid (show Fr nob w (w.alloc (.cells #[.int .i64 (o : Nat), .int .i64 a, .int .i64 (b : Nat), .string (bs s)] 45)) from (Fr.refl nob w).alloc _)
 have l1 : ¬ (o : Int) < 1 := by omega
 have l2 : ¬ (23 : Int) < (o : Int) := by omega
 have HS := hid (fun w' => hasS_any w' o)
 have HA := hid (fun w' => hasA_any w' o)
 have HB := hid (fun w' => hasB_any w' o)
 have hsz : (bs s).size = s.length := by show s.toArray.size = _; simp
 obtain ⟨sa, hsa⟩ : ∃ z, hasSI o = z := ⟨_, rfl⟩
 obtain ⟨aa, haa⟩ : ∃ z, hasAI o = z := ⟨_, rfl⟩
 obtain ⟨ba, hba⟩ : ∃ z, hasBI o = z := ⟨_, rfl⟩
 rw [hsa] at hs HS
 rw [haa] at ha HA
 rw [hba] at hb HB
 have HSS := hid (show (sa = true ∧ (s.length : Int) ≤ 40) ∨ (sa = false ∧ s = []) from by
  rcases hs with ⟨h1, h2⟩ | h1
  · exact .inl ⟨h1, by omega⟩
  · cases sa
    · exact .inr ⟨rfl, h1⟩
    · exact .inl ⟨rfl, by rw [h1]; decide⟩)
 have HNB := hid (show ∀ w' : World, Calls Tryz.prog 70 #[.bool ba, .int .i64 (b : Nat)] w' fun e w2 => e = .returned (.bool true) ∧ Fr nob w' w2 from fun w' => by
  rcases hb with ⟨h1, h2⟩ | ⟨h1, h2⟩
  · rw [h1]; exact numberT_any w' _ (by omega) (by omega)
  · rw [h1, h2]; exact numberF_any w')
 have HNA := hid (show o = 2 ∨ ∀ w' : World, Calls Tryz.prog 70 #[.bool aa, .int .i64 a] w' fun e w2 => e = .returned (.bool true) ∧ Fr nob w' w2 from by
  rcases ha with h1 | ⟨h1, h2, h3⟩ | ⟨h1, h2⟩
  · exact .inl h1
  · exact .inr (fun w' => by rw [h1]; exact numberT_any w' _ h2 h3)
  · exact .inr (fun w' => by rw [h1, h2]; exact numberF_any w'))
 have x0 : (w.alloc (.cells #[.int .i64 (o : Nat), .int .i64 a, .int .i64 (b : Nat), .string (bs s)] 45)).cell? ⟨w.heap.size, 0, none⟩ = some (.int .i64 (o : Nat)) := (B0.out.cell 0).trans rfl
 clear ha hb hs hsa haa hba o1 o2 hsz
 go_enter Tryz.func45, Tryz.ntmps45
 go_upto_region 3 with fail
 generalize w.alloc (.cells #[.int .i64 (o : Nat), .int .i64 a, .int .i64 (b : Nat), .string (bs s)] 45) = w1 at *
 generalize w.heap.size = T at *
 go_cut [3] (fun c wx => c = .bool true ∧ Hid (Fr nob w wx) ∧ Hid (Blk wx T 45 #[.int .i64 (o : Nat), .int .i64 a, .int .i64 (b : Nat), .string (bs s)]))
 case first =>
  go_wp2_with fail
  refine (HS.out _).mono ?_
  rintro e w2 ⟨rfl, hf⟩
  have B2 := hid (B0.out.fr hf (fun x => x))
  have F2 := hid (F0.out.tr hf)
  clear hf x0 B0 F0 HS
  have n3 : w2.cell? ⟨T, 3, none⟩ = some (.string (bs s)) := (B2.out.cell 3).trans rfl
  have hsz : (bs s).size = s.length := by show s.toArray.size = _; simp
  rcases HSS.out with ⟨rfl, h40⟩ | ⟨rfl, rfl⟩
  · have h41 : ((bs s).size : Int) ≤ 40 := by omega
    have h42 : (bs s).size ≤ 40 := by omega
    clear hsz h40
    go_wp2_with fail
    go_meet
    exact ⟨rfl, F2, B2⟩
  · have hem : ((bs []).toList == []) = true := by kernel_rfl
    clear hsz
    go_wp2_with fail
    go_meet
    exact ⟨rfl, F2, B2⟩
 case rest =>
  clear x0 B0 F0 HS
  obtain ⟨rfl, F2, B2⟩ := hcut
  go_upto_region 4 with fail
  have BD := hid (show Blk wc.drew T 45 #[.int .i64 (o : Nat), .int .i64 a, .int .i64 (b : Nat), .string (bs s)] from B2.out)
  have FD := hid (F2.out.drew)
  have K2 := hid (show wc.drew.cell? ⟨T, 0, none⟩ = some (.int .i64 (o : Nat)) ∧ wc.drew.cell? ⟨T, 1, none⟩ = some (.int .i64 a) from ⟨(BD.out.cell 0).trans rfl, (BD.out.cell 1).trans rfl⟩)
  go_cut [4] (fun c wx => c = .bool true ∧ Hid (Fr nob w wx) ∧ Hid (Blk wx T 45 #[.int .i64 (o : Nat), .int .i64 a, .int .i64 (b : Nat), .string (bs s)]))
  case first =>
    by_cases ho2 : o = 2
    · subst ho2
      have n0 : wc.cell? ⟨T, 0, none⟩ = some (.int .i64 2) := (B2.out.cell 0).trans rfl
      go_quiet (fail)
      go_wp2_with fail
      go_meet
      exact ⟨rfl, by first | exact F2 | exact hid (F2.out.drewN _), by first | exact B2 | exact hid (B2.out.drewN _)⟩
    · have e2 : ((o : Int) == 2) = false := beq_eq_false_iff_ne.2 (by omega)
      have HNA2 := hid (HNA.out.resolve_left ho2)
      clear ho2 HNA
      go_region_held3 (fun wx => wx.cell? ⟨T, 0, none⟩ = some (.int .i64 (o : Nat)) ∧ wx.cell? ⟨T, 1, none⟩ = some (.int .i64 a)) (first | exact K2.out | exact K3.out | exact K4.out) (first | (go_at_call 46; refine (HA.out _).mono ?_; go_loud (rintro e w3 ⟨rfl, hf⟩); go_loud (have B3 := hid (BD.out.fr hf (fun x => x))); go_loud (have F3 := hid (FD.out.tr hf)); go_loud (have K3 := hid (show w3.cell? ⟨T, 0, none⟩ = some (.int .i64 (o : Nat)) ∧ w3.cell? ⟨T, 1, none⟩ = some (.int .i64 a) from ⟨(B3.out.cell 0).trans rfl, (B3.out.cell 1).trans rfl⟩)); go_loud (clear hf)) | (go_at_call 70; refine (HNA2.out _).mono ?_; go_loud (rintro e w4 ⟨rfl, hf⟩); go_loud (have B4 := hid (B3.out.fr hf (fun x => x))); go_loud (have F4 := hid (F3.out.tr hf)); go_loud (have K4 := hid (show w4.cell? ⟨T, 0, none⟩ = some (.int .i64 (o : Nat)) ∧ w4.cell? ⟨T, 1, none⟩ = some (.int .i64 a) from ⟨(B4.out.cell 0).trans rfl, (B4.out.cell 1).trans rfl⟩)); go_loud (clear hf)))
      all_goals
       go_wp2_with fail
       go_meet
       exact ⟨rfl, by first | exact F4 | exact hid (F4.out.drewN _), by first | exact B4 | exact hid (B4.out.drewN _)⟩
  case rest =>
    clear HNA B2 F2 BD FD K2
    obtain ⟨rfl, F2, B2⟩ := hcut
    go_upto_region 5 with fail
    have BD := hid (show Blk wc.drew T 45 #[.int .i64 (o : Nat), .int .i64 a, .int .i64 (b : Nat), .string (bs s)] from B2.out)
    have FD := hid (F2.out.drew)
    have K2 := hid (show wc.drew.cell? ⟨T, 0, none⟩ = some (.int .i64 (o : Nat)) ∧ wc.drew.cell? ⟨T, 2, none⟩ = some (.int .i64 (b : Nat)) from ⟨(BD.out.cell 0).trans rfl, (BD.out.cell 2).trans rfl⟩)
    go_region_held3 (fun wx => wx.cell? ⟨T, 0, none⟩ = some (.int .i64 (o : Nat)) ∧ wx.cell? ⟨T, 2, none⟩ = some (.int .i64 (b : Nat))) (first | exact K2.out | exact K3.out | exact K4.out) (first | (go_at_call 47; refine (HB.out _).mono ?_; go_loud (rintro e w3 ⟨rfl, hf⟩); go_loud (have B3 := hid (BD.out.fr hf (fun x => x))); go_loud (have F3 := hid (FD.out.tr hf)); go_loud (have K3 := hid (show w3.cell? ⟨T, 0, none⟩ = some (.int .i64 (o : Nat)) ∧ w3.cell? ⟨T, 2, none⟩ = some (.int .i64 (b : Nat)) from ⟨(B3.out.cell 0).trans rfl, (B3.out.cell 2).trans rfl⟩)); go_loud (clear hf)) | (go_at_call 70; refine (HNB.out _).mono ?_; go_loud (rintro e w4 ⟨rfl, hf⟩); go_loud (have B4 := hid (B3.out.fr hf (fun x => x))); go_loud (have F4 := hid (F3.out.tr hf)); go_loud (have K4 := hid (show w4.cell? ⟨T, 0, none⟩ = some (.int .i64 (o : Nat)) ∧ w4.cell? ⟨T, 2, none⟩ = some (.int .i64 (b : Nat)) from ⟨(B4.out.cell 0).trans rfl, (B4.out.cell 2).trans rfl⟩)); go_loud (clear hf)))
    all_goals
      go_wp2_with fail
      go_ret
      exact ⟨rfl, by first | exact F4.out | exact F4.out.drewN _⟩
open Go.RowKit Go.Lib
theorem Fr.grown9 {w w' : World} {row : Option Nat} (h : w.grownBy w' row) : Fr (obl row) w w' :=
 ⟨h.os, h.tape, h.output, h.size, fun k hk hM => h.block k hk (fun e => hM e.symm)⟩
section
variable {w0 w : World} {v : Value} {n : Nat} {xs : List Value}
theorem BytesAt.row (h : BytesAt w0 w v n xs) (hn : 0 < n) : w.ownsRow w0.heap.size 5 1 v n xs := by
 obtain ⟨⟨hl, A, c, rfl, ⟨_, h0⟩ | ⟨g, cur, rfl, h0, hb, h1, h2, h3, h4⟩⟩, _, hnew⟩ := h
 · omega
 · exact ⟨hl, .inr ⟨g, c, cur, rfl, hnew g (blk_rowP hn h1), hb, h1, h2, h3, h4⟩⟩
theorem bytes_str (h : BytesAt w0 w v n xs) (F : Fr nob w0 w) (hn : 0 < n) (s : ByteArray) (ty : TypeId) (hb : n + s.size ≤ 140737488355328) :
   ∃ v' w' ys, (Builtin.append_ #[41, 9] ty #[v, .string s]).run Tryz.prog w = .ok v' w' ∧ BytesAt w0 w' v' (n + s.size) ys ∧ Fr nob w0 w' := by
 obtain ⟨i, hi, hz, hs, hby⟩ := TyB.hi
 obtain ⟨v', w', hr, h2, h3, _⟩ := Go.Lib.run_append_own_string (P := Tryz.prog) (w := w) w0.heap.size 41 9 ty 5 i TyB.ht (by kernel_rfl) hi hz hs hby v n xs (h.row hn) s (by unfold maxLen; omega) hb F.size
 have ho : Own w' 5 1 v' (n + s.size) (xs ++ strCells s) := Own.row h2 (.inl (by omega))
 refine ⟨v', w', _, hr, ⟨ho, fun u hu => ?_, fun b hb' => ?_⟩, F.trans (Fr.grown9 h3) (fun _ _ x => x) (fun b hb' hm => ?_)⟩
 · rcases List.mem_append.1 hu with hu | hu
   · exact h.one u hu
   · unfold strCells at hu
     simp only [List.mem_map] at hu
     obtain ⟨x, _, rfl⟩ := hu
     rfl
 · obtain ⟨_, ⟨rfl, h0⟩ | ⟨g, cap, cur, rfl, hbase, _⟩⟩ := h2
   · omega
   · simp [blk] at hb'; omega
 · obtain ⟨⟨_, A, c, rfl, ⟨_, h0⟩ | ⟨g, cur, rfl, h0, _, h1, _⟩⟩, _, hnew⟩ := h
   · omega
   · have hm : (Value.slice (some ⟨g, 0, none⟩) n c).ownBlock = some b := hm
     simp [Value.ownBlock] at hm
     have := hnew g (blk_rowP hn h1)
     omega
end
end Go.Proofs.YtlbjicjinnnboaaGreatDoor
namespace Go.Proofs.YtlbjicjinnnboaaGreatDoor
open Go.RowKit
open Pw
structure Pk (CB n m : Nat) (IA EA : Option Addr) (IC EC : Nat) (c : CodeM) (w : World) : Prop where
 cb : Blk w CB 37 #[.slice IA n IC, .slice EA m EC]
 ins : Own w 45 4 (.slice IA n IC) n (insCells c.ins)
 ent : Own w 3 1 (.slice EA m EC) m (ints c.entry)
theorem Pk.no {CB n m IC EC : Nat} {IA EA : Option Addr} {c : CodeM} {w w' : World} (h : Pk CB n m IA EA IC EC c w) (f : Fr nob w w') : Pk CB n m IA EA IC EC c w' := ⟨h.cb.fr f (fun x => x), h.ins.fr f (fun _ _ x => x), h.ent.fr f (fun _ _ x => x)⟩
theorem BytesAt.one1 {w : World} (u : Value) (hu : u.oneCell' = true) : BytesAt w (w.alloc (.cells #[u] 5)) (.slice (some ⟨w.heap.size, 0, none⟩) 1 1) 1 [u] :=
 ⟨⟨rfl, _, _, rfl, .inr ⟨_, _, rfl, by decide, Blk.new w _ #[u], by decide, by decide, rfl, rfl⟩⟩, fun x hx => by rw [List.mem_singleton.1 hx]; exact hu, fun b hb => by simp [blk] at hb; omega⟩
section
variable {o : Oper} {a : Act} {K : Act → World → Prop} {Q : Exit → Act → World → Prop} {ops : Array Oper} {E : Prop} {w0 w : World} {v : Value} {n : Nat} {xs : List Value} {str : ByteArray}
theorem step_append_str (hgd : o.guard = none) (s x : Operand) (ho : o.op = .call { callee := .builtin .append, args := #[s, x], argTypes := #[41, 9] })
  (hs : a.eval s = v) (hx : a.eval x = .string str) (hB : BytesAt w0 w v n xs) (F : Fr nob w0 w) (hn : 0 < n) (hb : n + str.size ≤ 140737488355328)
  (h : ∀ A' c' w' ys, BytesAt w0 w' (.slice A' (n + str.size) c') (n + str.size) ys → Fr nob w0 w' → K (a.put o.dst (.slice A' (n + str.size) c')) w') :
  if Region.wanted o (yielded ops a.tmps) = true then Oper.wp Tryz.prog o a w K Q else E := by
 have hw : Region.wanted o (yielded ops a.tmps) = true := by simp [Region.wanted, hgd]
 rw [if_pos hw]
 obtain ⟨v', w', ys, hr, h2, h3⟩ := bytes_str hB F hn str o.type hb
 unfold Oper.wp execOp
 simp only [ho, resolve, invoke, builtin, Sem.run_bind, Sem.run_pure, Result.andThen_ok, List.map_toArray, List.map_cons, List.map_nil, hs, hx, hr]
 obtain ⟨A', c', rfl, _, _⟩ := h2.own.cap
 exact h A' c' w' ys h2 h3
end
set_option maxHeartbeats 4000000 in
set_option maxRecDepth 100000 in
theorem put8_any (w : World) {IA EA : Option Addr} {IC EC n m : Nat} {c : CodeM} (hn : n = c.ins.length) (hm : m = c.entry.length) (hi : Own w 45 4 (.slice IA n IC) n (insCells c.ins)) (he : Own w 3 1 (.slice EA m EC) m (ints c.entry))
  (hn3 : n ≤ 1200) (hm3 : m ≤ 6) (hent : ∀ e ∈ c.entry, e ≤ n) (hmay : ∀ x ∈ c.ins, MayI x) :
  Calls Tryz.prog 21 #[.agg #[.slice IA n IC, .slice EA m EC]] w fun e w' => (∃ v, e = .returned (.tuple #[v, .int .i64 0])) ∧ Fr nob w w' := by
 have F0 := hid (show Fr nob w (w.alloc (.cells #[.slice IA n IC, .slice EA m EC] 37)) from (Fr.refl nob w).alloc _)
 have P0 := hid (show Pk w.heap.size n m IA EA IC EC c (w.alloc (.cells #[.slice IA n IC, .slice EA m EC] 37)) from ⟨Blk.new w _ _, hi.alloc _, he.alloc _⟩)
 have HN := hid hn
 have HM := hid hm
 have HE := hid hent
 have HY := hid hmay
 have l1 : ¬ (1200 : Int) < (n : Int) := by omega
 have l2 : ¬ (6 : Int) < (m : Int) := by omega
 have hn4 : (n : Int) ≤ 1200 := by omega
 have hm4 : (m : Int) ≤ 6 := by omega
 clear hi he hn hm hent hmay hn3 hm3
 go_enter Tryz.func21, Tryz.ntmps21
 go_upto_region 3 with fail
 generalize w.alloc (.cells #[.slice IA n IC, .slice EA m EC] 37) = w1 at *
 generalize w.heap.size = CB at *
 have c1 : w1.cell? ⟨CB, 1, none⟩ = some (.slice EA m EC) := (P0.out.cb.cell 1).trans rfl
 go_cut [4] (fun v wx => ∃ xs, v = .slice (some ⟨w1.heap.size, 0, none⟩) 1 1 ∧ Hid (BytesAt w1 wx (.slice (some ⟨w1.heap.size, 0, none⟩) 1 1) 1 xs) ∧ Hid (Fr nob w1 wx))
 case first =>
  go_wp2_with fail
  go_meet
  exact ⟨_, rfl, hid (BytesAt.one1 _ rfl), hid ((Fr.refl nob w1).alloc _)⟩
 case rest =>
  obtain ⟨xs, rfl, B1, F1⟩ := hcut
  clear c1
  go_wp2_with fail
  have PP := hid (fun (w' : World) (f : Fr nob w1 w') => P0.out.no f)
  generalize hsz : w1.heap.size = T at *
  clear hsz
  go_loopw [4, 5] (fun v i wr => ∃ (j k : Nat) (A : Option Addr) (cc : Nat) (xs : List Value), j ≤ m ∧ v = .slice A k cc ∧ i = .int .i64 j ∧ Hid (k = 1 + 8 * j) ∧ Hid (BytesAt w1 wr (.slice A k cc) k xs) ∧ Hid (Fr nob w1 wr)) (fun _ i _ => m - (intOf i).toNat)
  case atStart => exact ⟨0, 1, _, _, xs, Nat.zero_le _, rfl, rfl, hid rfl, B1, F1⟩
  case round =>
    clear B1 F1
    obtain ⟨j, k, A, cc, xs, hj, rfl, rfl, HK, B, F⟩ := hrel
    have P := hid (PP.out _ F.out)
    have c0 : wr.cell? ⟨CB, 0, none⟩ = some (.slice IA n IC) := (P.out.cb.cell 0).trans rfl
    have c1 : wr.cell? ⟨CB, 1, none⟩ = some (.slice EA m EC) := (P.out.cb.cell 1).trans rfl
    have clt := P.out.cb.lt
    by_cases hlt : j < m
    · obtain ⟨ee, hee⟩ : ∃ ee, c.entry[j]? = some ee := ⟨_, List.getElem?_eq_getElem (by have := HM.out; omega)⟩
      have hle := HE.out ee (List.mem_of_getElem? hee)
      obtain ⟨eb, rfl, hcell⟩ := P.out.ent.some (by omega)
      have x0 := hcell j (.int .i64 (ee : Nat)) (by unfold ints; rw [List.getElem?_map, hee]; rfl)
      have hlt2 : (j : Int) < (m : Int) := by omega
      have g1 : ¬ (ee : Int) < 0 := by omega
      have g2 : ¬ (n : Int) < (ee : Int) := by omega
      have g3 : ¬ n < ee := by omega
      have hk := HK.out
      have hk2 : (k : Int) ≤ 100 := by omega
      have HJ := hid hlt
      clear hee hle hcell hj hlt hk P
      go_wp2_with fail
      go_quiet (fail)
      go_wp2_with fail
      refine (eight_any _ _).mono ?_
      rintro e w6 ⟨A8, c8, ys, rfl, hb8, hf8⟩
      have HD := hid (show Fr nob wr w6 from ((Fr.refl nob wr).drewN _).tr hf8)
      have B6 := hid (B.out.no HD.out)
      have F6 := hid (F.out.tr HD.out)
      have Y6 := hid hb8
      clear hb8 hf8 B F HD c0 c1 clt x0
      go_wp2_with (at_builtin; revert HJ)
      intro HJ
      refine wpList_append (v := .slice A k cc) (n := k) (m := 8) (xs := xs) (news := ys) rfl _ _ rfl TyB rfl rfl B6.out.own Y6.out.own.rd Y6.out.one (by omega) (by unfold maxLen; omega) ?_
      intro A3 c3 w3 ho3 hf3 hv3
      have X := B6.out.app F6.out (Fr.refl nob w6) Y6.out.one ho3 hf3 hv3
      have X1 := hid X.1
      have X2 := hid X.2
      clear ho3 hf3 hv3 X B6 F6 Y6
      go_wp2_with fail
      go_roundw
      case rel => exact ⟨j + 1, k + 8, A3, c3, _, by have := HJ.out; omega, rfl, by go_num, hid (by have := HK.out; omega), X1, X2⟩
      case measure => simp [intOf]; have := HJ.out; omega
    · have hjm : j = m := by omega
      subst hjm
      have hlt2 : ¬ (j : Int) < (j : Int) := by omega
      have hk := HK.out
      have hk2 : (k : Int) ≤ 100 := by omega
      clear hlt hj hk P
      go_wp2_with fail
      refine (eight_any _ _).mono ?_
      rintro e w6 ⟨A8, c8, ys, rfl, hb8, hf8⟩
      have B6 := hid (B.out.no hf8)
      have F6 := hid (F.out.tr hf8)
      have Y6 := hid hb8
      clear hb8 hf8 B F c0 c1 clt
      go_wp2_with (at_builtin; revert HK)
      intro HK
      refine wpList_append (v := .slice A k cc) (n := k) (m := 8) (xs := xs) (news := ys) rfl _ _ rfl TyB rfl rfl B6.out.own Y6.out.own.rd Y6.out.one (by omega) (by unfold maxLen; omega) ?_
      intro A3 c3 w3 ho3 hf3 hv3
      have X := B6.out.app F6.out (Fr.refl nob w6) Y6.out.one ho3 hf3 hv3
      have X1 := hid X.1
      have X2 := hid X.2
      clear ho3 hf3 hv3 X B6 F6 Y6
      go_wp2_with fail
      have HNF := hid (show Fr nob w1 w3 from X2.out)
      go_loopw [4, 6] (fun v i wr => ∃ (q k : Nat) (A : Option Addr) (cc : Nat) (xs : List Value), q ≤ n ∧ v = .slice A k cc ∧ i = .int .i64 q ∧ Hid (0 < k ∧ k ≤ 200 + 60 * q) ∧ Hid (BytesAt w1 wr (.slice A k cc) k xs) ∧ Hid (Fr nob w1 wr)) (fun _ i _ => n - (intOf i).toNat)
      case atStart => exact ⟨0, k + 8, A3, c3, _, Nat.zero_le _, rfl, rfl, hid ⟨by omega, by omega⟩, X1, X2⟩
      case round =>
       clear X1 X2 HNF hk2 HK
       obtain ⟨q, k, A, cc, xs, hq, rfl, rfl, HK, B, F⟩ := hrel
       have P := hid (PP.out _ F.out)
       have c0 : wr.cell? ⟨CB, 0, none⟩ = some (.slice IA n IC) := (P.out.cb.cell 0).trans rfl
       have clt := P.out.cb.lt
       by_cases hlt : q < n
       · obtain ⟨x, hx⟩ : ∃ x, c.ins[q]? = some x := ⟨_, List.getElem?_eq_getElem (by have := HN.out; omega)⟩
         obtain ⟨ib, rfl, hcell⟩ := P.out.ins.some (by omega)
         obtain ⟨g0, g1, g2, g3⟩ := insCells_get hx
         have y0 := hcell _ _ g0
         have y1 := hcell _ _ g1
         have y2 := hcell _ _ g2
         have y3 := hcell _ _ g3
         have hmx := HY.out x (List.mem_of_getElem? hx)
         have HMX := hid hmx
         have HMY := hid (fun w' => may_any w' x hmx)
         have HA := hid (fun w' => hasA_any w' x.op)
         have HB := hid (fun w' => hasB_any w' x.op)
         have HS := hid (fun w' => hasS_any w' x.op)
         obtain ⟨o, a, b, sx⟩ := x
         dsimp only at y0 y1 y2 y3 HMY HA HB HS
         have hlt2 : (q : Int) < (n : Int) := by omega
         have HJ := hid hlt
         have FN := hid (show Fr nob wr (wr.alloc (.cells #[.int .i64 (o : Nat), .int .i64 a, .int .i64 (b : Nat), .string (bs sx)] 45)) from (Fr.refl nob wr).alloc _)
         have BX := hid (Blk.new wr 45 #[.int .i64 (o : Nat), .int .i64 a, .int .i64 (b : Nat), .string (bs sx)])
         clear hx hcell g0 g1 g2 g3 hmx hlt hq P
         go_wp2_with fail
         refine (HMY.out _).mono ?_
         rintro e w4 ⟨rfl, hf4⟩
         have FX := hid (FN.out.tr hf4)
         have B4 := hid (B.out.no FX.out)
         have F4 := hid (F.out.tr FX.out)
         have BX4 := hid (BX.out.fr hf4 (fun x => x))
         clear hf4 FN B F BX FX y0 y1 y2 y3 c0 clt
         generalize wr.heap.size = XB at *
         have x0 := (BX4.out.cell 0).trans rfl
         have hk9 : k ≤ 200 + 60 * q := HK.out.2
         go_wp2_with (at_builtin; revert HJ)
         intro HJ
         refine wpList_append (v := .slice A k cc) (n := k) (m := 1) (xs := xs) (news := [_]) rfl _ _ rfl TyB rfl rfl (B4.out.own.alloc _) (Rd.ofBlk (n := 1) (cs := [_]) (Blk.new _ _ _) rfl (by decide)) (by simp [Value.oneCell']) (by omega) (by unfold maxLen; omega) ?_
         intro A5 c5 w5 ho5 hf5 hv5
         have X := B4.out.app F4.out ((Fr.refl nob w4).alloc _) (by simp [Value.oneCell']) ho5 hf5 hv5
         have B5 := hid X.1
         have F5 := hid X.2
         have BX5 := hid ((BX4.out.alloc _).fr hf5 (fun hm => B4.out.own.blk_ne BX4.out (by decide) hm))
         clear X ho5 hf5 hv5 B4 F4 BX4 x0
         have x0 := (BX5.out.cell 0).trans rfl
         go_wp2_with fail
         refine (HA.out _).mono ?_
         rintro e w6 ⟨rfl, hf6⟩
         have B6 := hid (B5.out.no hf6)
         have F6 := hid (F5.out.tr hf6)
         have BX6 := hid (BX5.out.fr hf6 (fun x => x))
         clear hf6 B5 F5 BX5 x0 HA
         go_upto_if 86 with fail
         go_cut [4] (fun v wx => ∃ (k9 : Nat) (A9 : Option Addr) (c9 : Nat) (xs9 : List Value), v = .slice A9 k9 c9 ∧ Hid (0 < k9 ∧ k9 ≤ 200 + 60 * q + 9) ∧ Hid (BytesAt w1 wx (.slice A9 k9 c9) k9 xs9) ∧ Hid (Fr nob w1 wx) ∧ Hid (Blk wx XB 45 #[.int .i64 (o : Nat), .int .i64 a, .int .i64 (b : Nat), .string (bs sx)]))
         case first =>
          obtain ⟨ho, hho⟩ : ∃ ho, hasAI o = ho := ⟨_, rfl⟩
          rw [hho]
          clear hho HB HS HMX
          cases ho
          · go_wp2_with fail
            go_meet
            exact ⟨_, _, _, _, rfl, hid ⟨by omega, by omega⟩, B6, F6, BX6⟩
          · have x1 := (BX6.out.cell 1).trans rfl
            go_wp2_with fail
            refine (eight_any _ _).mono ?_
            rintro e w7 ⟨A8, c8, ys, rfl, hb8, hf8⟩
            have B7 := hid (B6.out.no hf8)
            have F7 := hid (F6.out.tr hf8)
            have BX7 := hid (BX6.out.fr hf8 (fun x => x))
            have Y7 := hid hb8
            clear hb8 hf8 B6 F6 BX6 x1
            go_wp2_with (at_builtin; revert HJ)
            intro HJ
            refine wpList_append (v := .slice A5 (k + 1) c5) (n := k + 1) (m := 8) (xs := _) (news := ys) rfl _ _ rfl TyB rfl rfl B7.out.own Y7.out.own.rd Y7.out.one (by omega) (by unfold maxLen; omega) ?_
            intro A3 c3 w3 ho3 hf3 hv3
            have X := B7.out.app F7.out (Fr.refl nob w7) Y7.out.one ho3 hf3 hv3
            have X1 := hid X.1
            have X2 := hid X.2
            have BX3 := hid (BX7.out.fr hf3 (fun hm => B7.out.own.blk_ne BX7.out (by decide) hm))
            clear ho3 hf3 hv3 X B7 F7 Y7 BX7
            go_wp2_with fail
            go_meet
            exact ⟨_, _, _, _, rfl, hid ⟨by omega, by omega⟩, X1, X2, BX3⟩
         case rest =>
          clear B6 F6 BX6 hk9
          obtain ⟨k9, A9, c9, xs9, rfl, HK9, B9, F9, BX9⟩ := hcut
          have x0 := (BX9.out.cell 0).trans rfl
          have hk9 : k9 ≤ 200 + 60 * q + 9 := HK9.out.2
          go_wp2_with fail
          refine (HB.out _).mono ?_
          rintro e w6 ⟨rfl, hf6⟩
          have B6 := hid (B9.out.no hf6)
          have F6 := hid (F9.out.tr hf6)
          have BX6 := hid (BX9.out.fr hf6 (fun x => x))
          clear hf6 B9 F9 BX9 x0 HB
          go_upto_if 94 with fail
          go_cut [4] (fun v wx => ∃ (k8 : Nat) (A8 : Option Addr) (c8 : Nat) (xs8 : List Value), v = .slice A8 k8 c8 ∧ Hid (0 < k8 ∧ k8 ≤ 200 + 60 * q + 17) ∧ Hid (BytesAt w1 wx (.slice A8 k8 c8) k8 xs8) ∧ Hid (Fr nob w1 wx) ∧ Hid (Blk wx XB 45 #[.int .i64 (o : Nat), .int .i64 a, .int .i64 (b : Nat), .string (bs sx)]))
          case first =>
            obtain ⟨ho, hho⟩ : ∃ ho, hasBI o = ho := ⟨_, rfl⟩
            rw [hho]
            clear hho HS HMX
            have hk0 := HK9.out.1
            cases ho
            · go_wp2_with fail
              go_meet
              exact ⟨_, _, _, _, rfl, hid ⟨by omega, by omega⟩, B6, F6, BX6⟩
            · have x1 := (BX6.out.cell 2).trans rfl
              go_wp2_with fail
              refine (eight_any _ _).mono ?_
              rintro e w7 ⟨A8, c8, ys, rfl, hb8, hf8⟩
              have B7 := hid (B6.out.no hf8)
              have F7 := hid (F6.out.tr hf8)
              have BX7 := hid (BX6.out.fr hf8 (fun x => x))
              have Y7 := hid hb8
              clear hb8 hf8 B6 F6 BX6 x1
              go_wp2_with (at_builtin; revert HJ)
              intro HJ
              refine wpList_append (v := .slice A9 k9 c9) (n := k9) (m := 8) (xs := _) (news := ys) rfl _ _ rfl TyB rfl rfl B7.out.own Y7.out.own.rd Y7.out.one (by omega) (by unfold maxLen; omega) ?_
              intro A3 c3 w3 ho3 hf3 hv3
              have X := B7.out.app F7.out (Fr.refl nob w7) Y7.out.one ho3 hf3 hv3
              have X1 := hid X.1
              have X2 := hid X.2
              have BX3 := hid (BX7.out.fr hf3 (fun hm => B7.out.own.blk_ne BX7.out (by decide) hm))
              clear ho3 hf3 hv3 X B7 F7 Y7 BX7
              go_wp2_with fail
              go_meet
              exact ⟨_, _, _, _, rfl, hid ⟨by omega, by omega⟩, X1, X2, BX3⟩
          case rest =>
            clear B6 F6 BX6 hk9 HK9
            obtain ⟨k8, A8, c8, xs8, rfl, HK8, B9, F9, BX9⟩ := hcut
            have x0 := (BX9.out.cell 0).trans rfl
            go_wp2_with fail
            refine (HS.out _).mono ?_
            rintro e w6 ⟨rfl, hf6⟩
            have B6 := hid (B9.out.no hf6)
            have F6 := hid (F9.out.tr hf6)
            have BX6 := hid (BX9.out.fr hf6 (fun x => x))
            have hs40 : (bs sx).size ≤ 40 := by
              have h := HMX.out.s
              have e : (bs sx).size = sx.length := by show sx.toArray.size = _; simp
              dsimp only at h
              rcases h with ⟨_, h⟩ | h
              · omega
              · rw [h]; decide
            obtain ⟨ho, hho⟩ : ∃ ho, hasSI o = ho := ⟨_, rfl⟩
            rw [hho]
            clear hho HS HMX hf6 B9 F9 BX9 x0
            have hk8 := HK8.out.2
            have hk0 := HK8.out.1
            cases ho
            · clear hs40
              go_wp2_with fail
              go_roundw
              case rel => exact ⟨q + 1, _, _, _, _, by have := HJ.out; omega, rfl, by go_num, hid ⟨by omega, by omega⟩, B6, F6⟩
              case measure => simp [intOf]; have := HJ.out; omega
            · have B7 := hid (B6.out.no (Fr.refl nob w6).drew)
              have F7 := hid (F6.out.tr (Fr.refl nob w6).drew)
              have BX7 := hid (BX6.out.fr (Fr.refl nob w6).drew (fun x => x))
              have x3 : w6.drew.cell? ⟨XB, 3, none⟩ = some (.string (bs sx)) := (BX7.out.cell 3).trans rfl
              have xn : ¬ XB = w6.drew.heap.size := by have := BX7.out.lt; omega
              have hs41 : ((bs sx).size : Int) ≤ 40 := by omega
              have FA := hid (show Fr nob w6 ((w6.alloc (.cells #[.int .u8 (IntKind.u8.wrap ((bs sx).size : Int))] 5)).drew) from ((Fr.refl nob w6).alloc _).drew)
              have HO := hid (show Own ((w6.alloc (.cells #[.int .u8 (IntKind.u8.wrap ((bs sx).size : Int))] 5)).drew) 5 1 (.slice A8 k8 c8) k8 xs8 from B6.out.own.fr FA.out (fun _ _ x => x))
              have HR := hid (show Rd ((w6.alloc (.cells #[.int .u8 (IntKind.u8.wrap ((bs sx).size : Int))] 5)).drew) 1 (.slice (some ⟨w6.heap.size, 0, none⟩) 1 1) 1 [.int .u8 (IntKind.u8.wrap ((bs sx).size : Int))] from Rd.ofBlk (n := 1) (cs := [_]) ((Blk.new w6 _ _).fr (Fr.refl nob _).drew (fun x => x)) rfl (by decide))
              have BXA := hid (BX6.out.fr FA.out (fun x => x))
              have x3A : ((w6.alloc (.cells #[.int .u8 (IntKind.u8.wrap ((bs sx).size : Int))] 5)).drew).cell? ⟨XB, 3, none⟩ = some (.string (bs sx)) := (BXA.out.cell 3).trans rfl
              have xn2 : ¬ XB = w6.heap.size := by have := BX6.out.lt; omega
              have x36 : w6.cell? ⟨XB, 3, none⟩ = some (.string (bs sx)) := (BX6.out.cell 3).trans rfl
              have HX := hid (fun (A : Option Addr) (c : Nat) (w2 : World) (h1 : Own w2 5 1 (.slice A (k8 + 1) c) (k8 + 1) (xs8 ++ [.int .u8 (IntKind.u8.wrap ((bs sx).size : Int))])) (h2 : Fr (obl (blk (.slice A8 k8 c8))) ((w6.alloc (.cells #[.int .u8 (IntKind.u8.wrap ((bs sx).size : Int))] 5)).drew) w2) h3 => B6.out.app F6.out FA.out (by simp [Value.oneCell']) h1 h2 h3)
              clear B6 F6 BX6
              go_wp2_with fail
              go_region_law (first | ((refine step_append_str (w0 := w1) rfl _ _ rfl rfl rfl R.out FR.out (by omega) (by omega) ?_); go_loud (intro A9 c9 w9 ys9 hb9 hf9); go_loud (have Z := hid hb9); go_loud (have FZ := hid hf9); go_loud (clear hb9 hf9)) | ((refine step_append (v := .slice A8 k8 c8) (n := k8) (m := 1) (xs := xs8) (news := [.int .u8 (IntKind.u8.wrap ((bs sx).size : Int))]) rfl _ _ rfl TyB rfl rfl HO.out HR.out (by simp [Value.oneCell']) (by omega) (by unfold maxLen; omega) ?_); go_loud (intro A5 c5 w5 ho5 hf5 hv5); go_loud (have R := hid (HX.out _ _ _ ho5 hf5 hv5).1); go_loud (have FR := hid (HX.out _ _ _ ho5 hf5 hv5).2); go_loud (have BX5 := hid (BXA.out.fr hf5 (fun hm => HO.out.blk_ne BXA.out (by decide) hm))); go_loud (have x5 : w5.cell? ⟨XB, 3, none⟩ = some (.string (bs sx)) := (BX5.out.cell 3).trans rfl); go_loud (clear ho5 hf5 hv5)))
              all_goals
                go_wp2_with fail
                go_roundw
                case rel => exact ⟨q + 1, _, _, _, _, by have := HJ.out; omega, rfl, by go_num, hid ⟨by omega, by omega⟩, by first | exact Z | exact hid (Z.out.no ((Fr.refl nob _).drewN _)), by first | exact FZ | exact hid (FZ.out.drewN _)⟩
                case measure => simp [intOf]; have := HJ.out; omega
       · have hqn : q = n := by omega
         subst hqn
         have hlt2 : ¬ (q : Int) < (q : Int) := by omega
         clear hlt hq P
         go_wp2_with fail
         go_ret2
         exact ⟨⟨_, rfl⟩, F0.out.tr F.out⟩
end Go.Proofs.YtlbjicjinnnboaaGreatDoor
