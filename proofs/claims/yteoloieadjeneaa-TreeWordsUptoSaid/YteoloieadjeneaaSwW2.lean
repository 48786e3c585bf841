/-
  Words: an iterator gone through (walked); the tree's edges (edges).
-/
import Derived.Test.YteoloieadjeneaaSwW1
set_option linter.unusedVariables false
set_option linter.unusedSimpArgs false
set_option maxRecDepth 100000
namespace Go.Sw.Words
open Go.Sw.Any
open Go.Sw.Tree (iv slV s_putAll s_newP s_getP s_getT s_putP eqI_self Placed cell_own cell_upd1 upd_trans ext_upd bool_false s_putTree s_newS minI_eq c_num)
variable {P : Program} {S : Ids} {h : Heap} {Q : Nat → List Value → Heap → Prop}

theorem eqS_self (a : ByteArray) : eqS a a = true := by unfold eqS; simp

abbrev fWd (S : Ids) (a b c d e : Option Addr) : Value := .func (.func S.f_law4_walked_1) #[] #[.pointer a, .pointer b, .pointer c, .pointer d, .pointer e]
/-- The program's function values. -/
structure ClosW (P : Program) (S : Ids) : Prop where
  tree : Clos P (word S)
  wd : ∀ (r : W1) (a b c d e : Option Addr), Dyn P (fWd S a b c d e) [.agg #[.string r.1]] (F_law4_walked_1 S r a b c d e)

structure Wd (n m' : Nat) (l : Sl) (stop : Bool) (i : Int) (over : Bool) (h : Heap) : Prop where
  sz : m' ≤ h.size
  ca : Sw.cell h ⟨n, 0, none⟩ = some (slV l)
  cs : Sw.cell h ⟨n + 1, 0, none⟩ = some (.bool stop)
  ci : Own n 1 h ⟨some ⟨n + 2, 0, none⟩, 1, 1⟩ [iv i]
  cg : Own n 1 h ⟨some ⟨n + 3, 0, none⟩, 1, 1⟩ [.bool true]
  co : Own n 1 h ⟨some ⟨n + 4, 0, none⟩, 1, 1⟩ [.bool over]
variable {n m' : Nat} {l : Sl} {stop : Bool} {i : Int} {over : Bool}
theorem Wd.ext {h' : Heap} (t : Wd n m' l stop i over h) (e : Ext h h') : Wd n m' l stop i over h' := ⟨Nat.le_trans t.sz e.size, e.cell t.ca, e.cell t.cs, t.ci.ext e, t.cg.ext e, t.co.ext e⟩
theorem flatv {v : Value} (hf : flat v = true) : ∀ u ∈ [v], flat u = true := fun u hu => by rw [List.mem_singleton.1 hu]; exact hf
theorem Wd.putI {j : Int} {K : Prog} (t : Wd n m' l stop i over h) (hk : ∀ h', Wd n m' l stop j over h' → Upd ⟨some ⟨n + 2, 0, none⟩, 1, 1⟩ h h' → wp P K h' Q) : wp P (.store (some ⟨n + 2, 0, none⟩) [iv j] K) h Q :=
  s_putAll [iv j] t.ci rfl (flatv rfl) fun h' o u => hk h' ⟨Nat.le_trans t.sz u.1, cell_upd1 u t.ca (by dsimp only; omega), cell_upd1 u t.cs (by dsimp only; omega), o, ob_upd t.cg u (by dsimp only; omega), ob_upd t.co u (by dsimp only; omega)⟩ u
theorem Wd.putG {K : Prog} (t : Wd n m' l stop i over h) (hk : ∀ h', Wd n m' l stop i over h' → Upd ⟨some ⟨n + 3, 0, none⟩, 1, 1⟩ h h' → wp P K h' Q) : wp P (.store (some ⟨n + 3, 0, none⟩) [.bool true] K) h Q :=
  s_putAll [.bool true] t.cg rfl (flatv rfl) fun h' o u => hk h' ⟨Nat.le_trans t.sz u.1, cell_upd1 u t.ca (by dsimp only; omega), cell_upd1 u t.cs (by dsimp only; omega), ob_upd t.ci u (by dsimp only; omega), o, ob_upd t.co u (by dsimp only; omega)⟩ u
theorem Wd.putO {b : Bool} {K : Prog} (t : Wd n m' l stop i over h) (hk : ∀ h', Wd n m' l stop i b h' → Upd ⟨some ⟨n + 4, 0, none⟩, 1, 1⟩ h h' → wp P K h' Q) : wp P (.store (some ⟨n + 4, 0, none⟩) [.bool b] K) h Q :=
  s_putAll [.bool b] t.co rfl (flatv rfl) fun h' o u => hk h' ⟨Nat.le_trans t.sz u.1, cell_upd1 u t.ca (by dsimp only; omega), cell_upd1 u t.cs (by dsimp only; omega), ob_upd t.ci u (by dsimp only; omega), ob_upd t.cg u (by dsimp only; omega), o⟩ u

theorem yields_walked (D : ClosW P S) {hm : Heap} {ws : List W1} {at_ : Nat} (hn : hm.size = n) (hm' : n + 5 ≤ m') (hits : Its (word S) hm l ws) (hroom : ws.length ≤ 4398046511104) :
    Any.Yields P (word S) (fWd S (some ⟨n + 3, 0, none⟩) (some ⟨n + 4, 0, none⟩) (some ⟨n + 2, 0, none⟩) (some ⟨n, 0, none⟩) (some ⟨n + 1, 0, none⟩)) n m' (ws.drop at_)
      (fun j h => Ext hm h ∧ (stop = true → j = 0) ∧ Wd n m' l stop ((at_ + j : Nat) : Int) false h) (fun h => stop = true ∧ 0 < (ws.drop at_).length ∧ Wd n m' l stop ((at_ + 1 : Nat) : Int) true h) := by
  rintro j r h hr hsz ⟨em, hj, t⟩
  have hjl := (List.getElem?_eq_some_iff.1 hr).1
  rw [List.getElem?_drop] at hr
  have hri := (List.getElem?_eq_some_iff.1 hr).1
  refine D.wd r _ _ _ _ _ h _ ?_
  unfold F_law4_walked_1
  refine s_newO (bs := [.str]) r (by decide) fun h1 e1 o1 => ?_
  have t1 := t.ext e1
  have s1 := e1.size
  have hlen := hits.len (word_ok (P := P))
  refine wp_bind (fun tg vs h' => tg = 0 ∧ vs = [] ∧ Upd ⟨some ⟨n + 3, 0, none⟩, 1, 1⟩ h1 h' ∧ Wd n m' l stop ((at_ + j : Nat) : Int) false h') ?_ ?_
  · refine wp_load1 (b := .bool) _ true rfl (cell_own t1.cg) (s_ifT (wp_load1 (b := .bool) _ false rfl (cell_own t1.co) (s_ifT (wp_load1 (b := .int .i64) _ _ rfl (cell_own t1.ci) (wp_load1 (b := .sl) _ l rfl t1.ca ?_)))))
    rw [show ltI ((at_ + j : Nat) : Int) (natI l.len) = true from ltI_iff.2 (by rw [natI_def]; omega)]
    refine s_ifT (s_getO (bs := [.str]) o1 (wp_load1 (b := .sl) _ l rfl t1.ca (wp_load1 (b := .int .i64) _ _ rfl (cell_own t1.ci) (s_atI word_ok (hits.ext (em.trans e1)) (by omega) (by omega) fun r' hr' => ?_))))
    rw [Int.toNat_natCast, hr] at hr'
    cases hr'
    rw [eqS_self]
    exact t1.putG fun h2 t2 u2 => s_ret ⟨rfl, rfl, u2, t2⟩
  rintro tg vs h2 ⟨rfl, rfl, u2, t2⟩
  refine s_tag (s_cast0 (wp_load1 (b := .int .i64) _ _ rfl (cell_own t2.ci) ?_))
  rw [add_ok (by omega) (by omega), show ((at_ + j : Nat) : Int) + 1 = ((at_ + (j + 1) : Nat) : Int) by omega]
  refine t2.putI fun h3 t3 u3 => ?_
  have fr3 : Tree.Fr n m' (m' + 2) h h3 := ((Tree.Fr.ext e1 (by omega) (by omega)).trans (Tree.Fr.upd u2 (by omega) (by omega) fun x hx => by cases hx; dsimp only; omega)).trans (Tree.Fr.upd u3 (by have := u2.1; omega) (by have := u2.1; omega) fun x hx => by cases hx; dsimp only; omega)
  refine wp_bind (fun tg vs h' => tg = 0 ∧ vs = [] ∧ Upd ⟨some ⟨n + 4, 0, none⟩, 1, 1⟩ h3 h' ∧ Wd n m' l stop ((at_ + (j + 1) : Nat) : Int) stop h') ?_ ?_
  · refine wp_load1 (b := .bool) _ stop rfl t3.cs ?_
    cases stop with
    | true => exact s_ifT (t3.putO fun h4 t4 u4 => s_ret ⟨rfl, rfl, u4, t4⟩)
    | false => exact s_ifF (wp_load1 (b := .bool) _ true rfl (cell_own t3.cg) (t3.putO (b := false) fun h4 t4 u4 => s_ret ⟨rfl, rfl, u4, t4⟩))
  rintro tg vs h4 ⟨rfl, rfl, u4, t4⟩
  have s3 := fr3.1
  have fr4 : Tree.Fr n m' (m' + 2) h h4 := fr3.trans (Tree.Fr.upd u4 (by omega) (by omega) fun x hx => by cases hx; dsimp only; omega)
  have em4 : Ext hm h4 := ⟨Nat.le_trans em.1 fr4.1, fun i hi => (fr4.2.1 i (.inl (by omega))).trans (em.2.1 i hi), fun a e => fr4.2.2 a (em.2.2 a e)⟩
  refine s_tag (s_cast0 (wp_load1 (b := .bool) _ stop rfl (cell_own t4.co) (s_ret ⟨rfl, _, rfl, fr4, fun hb => ?_, fun hb => ?_⟩)))
  · have hs := notB_iff.1 hb
    subst hs
    exact ⟨em4, fun h => (by cases h), t4⟩
  · have hs := notB_not.1 hb
    subst hs
    have := hj rfl
    subst this
    exact ⟨rfl, by omega, t4⟩

theorem putFrom_size (a : Addr) : ∀ (vs : List Value) (h : Heap) (i : Nat), (putFrom h a i vs).size = h.size := by
  intro vs
  induction vs with
  | nil => intro h i; rfl
  | cons v vs ih => intro h i; simp only [putFrom]; rw [ih]; unfold setCell; simp
/-- An object of one cell, made with a value; no more is there. -/
theorem s_put1Z {n : Nat} {a : Addr} {old : Value} (v : Value) {K : Prog} (ho : Own n 1 h ⟨some a, 1, 1⟩ [old]) (hf : flat v = true)
    (hk : ∀ h', h'.size = h.size → Own n 1 h' ⟨some a, 1, 1⟩ [v] → Upd ⟨some a, 1, 1⟩ h h' → wp P K h' Q) : wp P (.store (some a) [v] K) h Q := by
  obtain ⟨a', e, w, o, u⟩ := s_putAll (P := P) (K := .ret 0 []) (Q := fun _ _ h' => Own n 1 h' ⟨some a, 1, 1⟩ [v] ∧ Upd ⟨some a, 1, 1⟩ h h') [v] ho rfl (flatv hf) fun h' o u => s_ret ⟨o, u⟩
  cases e
  exact ⟨a, rfl, w, hk _ (putFrom_size _ _ _ _) o u⟩
theorem s_new1Z (v : Value) {K : Addr → Prog} (hk : ∀ h', h'.size = h.size + 1 → Ext h h' → Own h.size 1 h' ⟨some ⟨h.size, 0, none⟩, 1, 1⟩ [v] → wp P (K ⟨h.size, 0, none⟩) h' Q) : wp P (.alloc [v] K) h Q :=
  fun elem => hk _ (by simp) (Ext.push ..) (own_alloc rfl (by decide) (by decide))
theorem s_putZ (z v : Value) (hf : flat v = true) {K : Addr → Prog} (hk : ∀ h', h'.size = h.size + 1 → Ext h h' → Own h.size 1 h' ⟨some ⟨h.size, 0, none⟩, 1, 1⟩ [v] → wp P (K ⟨h.size, 0, none⟩) h' Q) : wp P (.alloc [z] fun a => .store (some a) [v] (K a)) h Q :=
  s_new1Z z fun h1 z1 e1 o1 => s_put1Z v o1 hf fun h2 z2 o2 u2 => hk h2 (by omega) (Upd.extN e1 u2 (by intro a ha; cases ha; exact Nat.le_refl _)) o2

theorem c_walked (D : ClosW P S) {it : Value} {ws : List W1} {at_ : Nat} {stop : Bool} (hi : Any.Iter P (word S) it h (ws.drop at_)) (hits : Its (word S) h l ws) (hat : at_ ≤ ws.length) (hroom : ws.length ≤ 4398046511104) :
    Gives P (F_law4_walked S it l ((at_ : Nat) : Int) stop) [.one .bool] h fun (y : Bool × Unit) _ => y.1 = true := by
  have hlen := hits.len (word_ok (P := P))
  unfold F_law4_walked Gives
  refine s_new1Z (slV l) fun h1 z1 e1 o1 => s_new1Z (.bool stop) fun h2 z2 e2 o2 => s_putZ (iv 0) (iv ((at_ : Nat) : Int)) rfl fun h3 z3 e3 o3 => s_putZ (.bool false) (.bool true) rfl fun h4 z4 e4 o4 => s_putZ (.bool false) (.bool false) rfl fun h5 z5 e5 o5 => ?_
  rw [z1] at o2 z2 ⊢
  rw [z2] at o3 z3 ⊢
  rw [z3] at o4 z4 ⊢
  rw [z4] at o5 z5 ⊢
  have e05 := (((e1.trans e2).trans e3).trans e4).trans e5
  have t5 : Wd h.size h5.size l stop ((at_ + 0 : Nat) : Int) false h5 := ⟨Nat.le_refl _, cell_own (o1.ext (((e2.trans e3).trans e4).trans e5)), cell_own (o2.ext ((e3.trans e4).trans e5)), (o3.ext (e4.trans e5)).mono (by omega), (o4.ext e5).mono (by omega), o5.mono (by omega)⟩
  refine hi h h5 _ (fun j h' => Ext h h' ∧ (stop = true → j = 0) ∧ Wd h.size h5.size l stop ((at_ + j : Nat) : Int) false h') (fun h' => stop = true ∧ 0 < (ws.drop at_).length ∧ Wd h.size h5.size l stop ((at_ + 1 : Nat) : Int) true h') _ _ (Ext.refl _) e05 rfl
    (fun j a b x e => ⟨x.1.trans e, x.2.1, x.2.2.ext e⟩) (yields_walked D rfl (by omega) hits hroom) ⟨e05, fun _ => rfl, t5⟩ fun h6 e6 s6 hf => ?_
  rw [List.length_drop] at hf
  cases stop with
  | true =>
    obtain ⟨m, ov, t6, hm⟩ : ∃ (m : Int) (ov : Bool), Wd h.size h5.size l true m ov h6 ∧ m = minI ((at_ : Int) + 1) ws.length := by
      rcases hf with ⟨_, a, t⟩ | ⟨_, a, t⟩
      · refine ⟨_, _, t, ?_⟩
        have := a rfl
        unfold minI; split <;> omega
      · refine ⟨_, _, t, ?_⟩
        unfold minI; split <;> omega
    refine wp_load1 (b := .bool) _ true rfl t6.cs (s_ifT (bind_val (tys := [.one .bool]) (fun (x : Bool × Unit) _ => x.1 = true) ?_ fun x k1 d1 hx => s_ret ⟨rfl, e6.trans d1, (x.1, ()), rfl, hx⟩))
    refine wp_load1 (b := .bool) _ true rfl (cell_own t6.cg) (s_ifT (wp_load1 (b := .int .i64) _ m rfl (cell_own t6.ci) (wp_load1 (b := .sl) _ l rfl t6.ca ?_)))
    rw [add_ok (by omega) (by omega), natI_def, hlen, hm, eqI_self]
    exact s_ret ⟨rfl, Ext.refl _, (true, ()), rfl, rfl⟩
  | false =>
    obtain ⟨ov, t6⟩ : ∃ (ov : Bool), Wd h.size h5.size l false (ws.length : Int) ov h6 := by
      rcases hf with ⟨_, a, t⟩ | ⟨a, _⟩
      · rw [show at_ + (ws.length - at_) = ws.length by omega] at t; exact ⟨_, t⟩
      · cases a
    refine wp_load1 (b := .bool) _ false rfl t6.cs (s_ifF (bind_val (tys := [.one .bool]) (fun (x : Bool × Unit) _ => x.1 = true) ?_ fun x k1 d1 hx => s_ret ⟨rfl, e6.trans d1, (x.1, ()), rfl, hx⟩))
    refine wp_load1 (b := .bool) _ true rfl (cell_own t6.cg) (s_ifT (wp_load1 (b := .int .i64) _ (ws.length : Int) rfl (cell_own t6.ci) (wp_load1 (b := .sl) _ l rfl t6.ca ?_)))
    rw [natI_def, hlen, eqI_self]
    exact s_ret ⟨rfl, Ext.refl _, (true, ()), rfl, rfl⟩

end Go.Sw.Words
