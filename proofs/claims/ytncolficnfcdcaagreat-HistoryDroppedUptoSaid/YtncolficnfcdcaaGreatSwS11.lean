/-
  A function that ranges over an iterator and whose results lie in memory.
-/
import Derived.Test.YtncolficnfcdcaaGreatSwS10
import Derived.KernelRfl
set_option linter.unusedSimpArgs false
set_option linter.unusedVariables false
namespace Go.Sw
variable {P:Program} {An:Ann}
theorem fn_soundD {Γ:Ctx} (hΓ:CtxOk P Γ) (hm:P.follows .mixedOrders=true) {i:FuncId} {fn:Func} {c:Code} (hf:P.funcs[i]? = some fn) (hb:fn.body=some c) {n:Nat} (hn:fn.ntmps=n) (hok:okC P An n c=true)
  (hr:hasRange c=false) (hdf:hasDef c=false)
  {args:List Value} (ha:Nat.ble args.length n=true) {h:Heap} {Q:Heap→Prop} (hw:wp P (swTop P Γ An fn args) h (fun tag _ h'=>tag=0∧Q h')):DefersV P i args h Q:=by
 intro u w hwh
 subst hwh
 refine CallsDIn.mono (callsDIn_of_wp (F:=Fence.wide) (R:=fun e w'=>∃ v,e = .returned v∧Env w w'∧Q w'.heap) hf hb trivial ?_) fun e u' w' h=>h
 rw [← Fen_none]
 simp only [swTop,hb] at hw
 have hle:args.length≤n:=Nat.le_of_ble_eq_true ha
 have hsz:(args.toArray++Array.replicate (fn.ntmps-args.toArray.size) undef).size=n:=by simp [hn]; omega
 refine swC_sound (D:=False) (w0:=w) (df:=[]) (G:=fun _=>True) hΓ hm c hok (fun _ _ _ _ h=>h) (fun _ _ h=>h) (fun _=>rfl) (fun h=>by rw [hdf] at h; cases h) ⟨?_,hsz,Env.refl w,trivial,rfl⟩ hw fun e f a w' df' Qp' m1 n1 hs hw'=>?_
 ·intro k v hv
  obtain ⟨h0,h1⟩:=initFr_get hv
  have hlt:k<args.length:=(List.getElem?_eq_some_iff.1 h1).1
  simp only [Nat.sub_zero] at h1
  have h2:args[k]=v:=by rw [List.getElem?_eq_getElem hlt] at h1; exact Option.some.inj h1
  simp [Array.getElem?_append,hlt,h2]
 ·obtain ⟨rfl,rfl⟩:=n1 hr
  have key:wp P (retVals P f fn.results.toList fun vs=>.ret 0 vs) w'.heap (fun tag _ h'=>tag=0∧Q h')→a.defers=[]∧∃ v,(results fn a.tmps).run P w' = .ok v w'∧∃ v',Ending.returned v = .returned v'∧Env w w'∧Q w'.heap:=by
   intro hx
   obtain ⟨vs,h1,h2, -⟩:=retVals_sound hs.fr hx
   exact ⟨hs.g.2,resV vs,results_ok h1,resV vs,rfl,hs.env,h2.2⟩
  cases e with
  | nrm=>exact key hw'
  | ret=>exact key hw'
  | ex id=>exact hw'.elim
def FnOkD (P:Program) (i:FuncId) (e:Shallow):Prop:=
 ∀ x h Q,wp P (e.prog x) h (fun tag _ h'=>tag=0∧Q h')→DefersV P i (Ts.inj e.tys x) h Q
theorem fn_okD {P:Program} (hm:P.follows .mixedOrders=true) {l:List (Nat×Shallow)} (hΓ:CtxL P l) {An:Ann} {i:FuncId} {fn:Func} {c:Code} (hf:P.funcs[i]? = some fn) (hb:fn.body=some c) {n:Nat}
  (hn:fn.ntmps=n) (hok:okC P An n c=true) (e:Shallow) (hlen:Nat.ble e.tys.length n=true)
  (heq:∀ x,swTop P (ctxOf l) An fn (Ts.inj e.tys x)=e.prog x) (hr:hasRange c=false) (hdf:hasDef c=false):FnOkD P i e:=
 fun x h Q hw=>fn_soundD (ctxOf_ok hΓ) hm hf hb hn hok hr hdf (by rw [Ts.inj_length]; exact hlen) (by rw [heq]; exact hw)
end Go.Sw
