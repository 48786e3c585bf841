/-
  A function that ranges over an iterator and whose results lie in memory.
-/
import Derived.Test.YtaebgdhdldfigaaSwS10
set_option linter.unusedSimpArgs false
set_option linter.unusedVariables false
namespace Go.Sw
def Same (h h' : Heap) : Prop := ∀ a v, cell h a = some v → cell h' a = some v
theorem Same.cells {h h' : Heap} (s : Same h h') {a : Addr} : ∀ {vs : List Value} {i : Nat}, CellsFrom h a i vs → CellsFrom h' a i vs
 | [], _, _ => trivial
 | v :: vs, i, ⟨h1, h2⟩ => ⟨s _ _ h1, s.cells h2⟩
theorem Same.shut {h : Heap} {D : Nat} {o : Option (List Deferred)} (hD : h[D]? = some (.deferred o)) : Same h (h.setIfInBounds D (.deferred none)) := by
 intro a v hc
 unfold cell at hc ⊢
 by_cases e : D = a.block
 ·subst e; rw [hD] at hc; cases hc
 ·rw [Array.getElem?_setIfInBounds_ne e]; exact hc
variable {P : Program} {An : Ann}
theorem retVals_any {f : Fr} {a : Act} (hf : FrOk f a) : ∀ {rs : List ResultVar} {K : List Value → Prog} {Qp : Post} {h : Heap}, wp P (retVals P f rs K) h Qp →
  ∃ vs, (∀ w : World, Same h w.heap → (rs.mapM (resSem a.tmps)).run P w = .ok vs w) ∧ wp P (K vs) h Qp := by
 intro rs
 induction rs with
 | nil => intro K Qp h hw; exact ⟨[], fun w _ => by simp, hw⟩
 | cons r rs ih =>
  intro K Qp h hw
  cases r with
  | tmp t =>
   simp only [retVals] at hw
   split at hw
   ·rename_i v hv
    obtain ⟨vs, h1, h2⟩ := ih hw
    refine ⟨v :: vs, fun w hs => ?_, h2⟩
    have hv' : a.tmps.getD t undef = v := by simp [hf _ _ hv]
    simp only [List.mapM_cons, Sem.run_bind, resSem, Sem.run_pure, Result.andThen_ok, hv']
    simp only [h1 w hs, Result.andThen_ok]
   ·exact hw.elim
  | cell x t =>
   simp only [retVals] at hw
   split at hw
   ·rename_i p ty hx ht
    obtain ⟨ad, rfl, y, hc, hw⟩ := hw
    obtain ⟨vs, h1, h2⟩ := ih hw
    refine ⟨ty.inj y :: vs, fun w hs => ?_, h2⟩
    have hx' : a.tmps.getD x undef = .pointer (some ad) := by simp [hf _ _ hx]
    have hc' : Cells w.heap ad (ty.cells y) := hs.cells hc
    simp only [List.mapM_cons, Sem.run_bind, resSem, hx', asAddr, Sem.run_pure, Result.andThen_ok, loadVar_ok (P := P) ht hc']
    simp only [h1 w hs, Result.andThen_ok]
   ·exact hw.elim
theorem fn_soundR {Γ : Ctx} (hΓ : CtxOk P Γ) (hm : P.follows .mixedOrders = true) {i : FuncId} {fn : Func} {c : Code} (hf : P.funcs[i]? = some fn) (hb : fn.body = some c) {n : Nat} (hn : fn.ntmps = n) (hok : okC P An n c = true)
  {args : List Value} (ha : Nat.ble args.length n = true) {h : Heap} {Q : List Value → Heap → Prop} (hw : wp P (swTop P Γ An fn args) h (fun tag vs h' => tag = 0 ∧ Q vs h')) : CallsV P i args h Q := by
 intro w hwh
 subst hwh
 refine (callsIn_wide (n := 0)).1 (callsIn_of_wp_marks (F := Fence.wide) hf hb trivial ?_)
 rw [← Fen_none]
 simp only [swTop, hb] at hw
 have hle : args.length ≤ n := Nat.le_of_ble_eq_true ha
 have hsz : (args.toArray ++ Array.replicate (fn.ntmps - args.toArray.size) undef).size = n := by simp [hn]; omega
 refine swC_sound (w0 := w) (df := []) (G := fun _ => True) hΓ hm c hok (fun _ _ _ _ h => h) (fun _ _ h => h) (fun _ => rfl) ⟨?_, hsz, Env.refl w, trivial, rfl⟩ hw fun e f a w' df' Qp' m1 n1 hs hw' => ?_
 ·intro k v hv
  obtain ⟨h0, h1⟩ := initFr_get hv
  have hlt : k < args.length := (List.getElem?_eq_some_iff.1 h1).1
  simp only [Nat.sub_zero] at h1
  have h2 : args[k] = v := by rw [List.getElem?_eq_getElem hlt] at h1; exact Option.some.inj h1
  simp [Array.getElem?_append, hlt, h2]
 ·have key : wp P (retVals P f fn.results.toList fun vs => .ret 0 vs) w'.heap Qp' → LeavesInM (Fen none) 0 P fn a.tmps (fun e w'' => ∃ vs, e = .returned (resV vs) ∧ Env w w'' ∧ Q vs w''.heap) a.defers .returning w' := by
   intro hx
   rw [hs.g.2]
   obtain ⟨vs, h1, h2⟩ := retVals_any hs.fr hx
   have gen : ∀ {d : List Deferred} {q : Post}, Marks [] (fun tag vs h' => tag = 0 ∧ Q vs h') d q → ∀ w3 : World, Same w'.heap w3.heap → q 0 vs w3.heap → Env w w3 → LeavesInM (Fen none) 0 P fn a.tmps (fun e w'' => ∃ vs, e = .returned (resV vs) ∧ Env w w'' ∧ Q vs w''.heap) d .returning w3 := by
    intro d q m
    induction m with
    | refl => exact fun w3 hsame hq henv => ⟨resV vs, results_ok (h1 w3 hsame), vs, rfl, henv, hq.2⟩
    | push D m ih =>
     intro w3 hsame hq henv
     refine ⟨by simp, .inl ⟨D, _, rfl, run_takeDeferred hq.1, ?_⟩⟩
     exact ih _ (fun x v hc => Same.shut hq.1 x v (hsame x v hc)) hq.2 (henv.trans (putObj_env _ _ _))
   exact gen m1 w' (fun _ _ h => h) h2 hs.env
  cases e with
  | nrm => exact key hw'
  | ret => exact key hw'
  | ex id => exact hw'.elim
theorem fn_okR {P : Program} (hm : P.follows .mixedOrders = true) {l : List (Nat × Shallow)} (hΓ : CtxL P l) {An : Ann} {i : FuncId} {fn : Func} {c : Code} (hf : P.funcs[i]? = some fn) (hb : fn.body = some c) {n : Nat}
  (hn : fn.ntmps = n) (hok : okC P An n c = true) (hcall : ∀ as (w : World), (callFunc i as).run P w = .ok (.enter i as) w) (e : Shallow) (hlen : Nat.ble e.tys.length n = true)
  (heq : ∀ x, swTop P (ctxOf l) An fn (Ts.inj e.tys x) = e.prog x) : FnOk P i e :=
 ⟨hcall, fun x h Q hw => fn_soundR (ctxOf_ok hΓ) hm hf hb hn hok (by rw [Ts.inj_length]; exact hlen) (by rw [heq]; exact hw)⟩
end Go.Sw
