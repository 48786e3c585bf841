import Derived.Test.YtncolficnfcdcaaGreatSwS9
set_option linter.unusedSimpArgs false
set_option linter.unusedVariables false
namespace Go.Sw
def FnOk (P:Program) (i:FuncId) (e:Shallow):Prop:=
 (∀ as (w:World),(callFunc i as).run P w = .ok (.enter i as) w) ∧
 ∀ x h Q,wp P (e.prog x) h (fun tag vs h'=>tag=0∧Q vs h')→CallsV P i (Ts.inj e.tys x) h Q
theorem Ts.inj_length:∀ {ts:List Ty} (x:Ts.den ts),(Ts.inj ts x).length=ts.length:=by
 intro ts
 induction ts with
 | nil=>intro x; rfl
 | cons t ts ih=>intro x; simp [Ts.inj,ih]
def CtxL (P:Program):List (Nat×Shallow)→Prop
 | []=>True
 | (i,e)::r=>FnOk P i e∧CtxL P r
theorem look_ok {P:Program}:∀ {l:List (Nat×Shallow)} {i:Nat} {e:Shallow},CtxL P l→look l i=some e→FnOk P i e:=by
 intro l
 induction l with
 | nil=>intro i e _ h; simp [look] at h
 | cons p l ih=>
  intro i e hl h
  obtain ⟨k,f⟩:=p
  simp only [look] at h
  cases hb:Nat.beq k i
  ·simp only [hb,cond_false] at h; exact ih hl.2 h
  ·simp only [hb,cond_true,Option.some.injEq] at h
   obtain rfl:=nbeq_iff.1 hb
   subst h
   exact hl.1
theorem ctxOf_ok {P:Program} {l:List (Nat×Shallow)} (h:CtxL P l):CtxOk P (ctxOf l):=by
 intro i args m tys hm
 unfold ctxOf at hm
 split at hm
 ·rename_i e he
  split at hm
  ·rename_i x hx
   obtain ⟨rfl,rfl⟩:=Prod.mk.inj (Option.some.inj hm)
   obtain ⟨h1,h2⟩:=look_ok h he
   refine ⟨h1,fun h Q hw=>?_⟩
   rw [Ts.prj_inj hx]
   exact h2 x h Q hw
  ·cases hm
 ·cases hm
theorem fn_ok {P:Program} (hm:P.follows .mixedOrders=true) {l:List (Nat×Shallow)} (hΓ:CtxL P l) {An:Ann} {i:FuncId} {fn:Func} {c:Code} (hf:P.funcs[i]? = some fn) (hb:fn.body=some c) {n:Nat}
  (hn:fn.ntmps=n) (hok:okC P An n c=true) (hcall:∀ as (w:World),(callFunc i as).run P w = .ok (.enter i as) w) (e:Shallow) (hlen:Nat.ble e.tys.length n=true)
  (heq:∀ x,swTop P (ctxOf l) An fn (Ts.inj e.tys x)=e.prog x) (hres:(!hasRange c || tmpOnly fn.results.toList)=true:=by rfl):FnOk P i e:=
 ⟨hcall,fun x h Q hw=>fn_sound (ctxOf_ok hΓ) hm hf hb hn hok hres (by rw [Ts.inj_length]; exact hlen) (by rw [heq]; exact hw)⟩
theorem fn_ex {P:Program} {i:FuncId} {tys res:List Ty} {R:Nat→Ts.den tys→Prog} (h0:∀ x,R 0 x = .fail) (hcall:∀ as (w:World),(callFunc i as).run P w = .ok (.enter i as) w)
  (hs:∀ n,FnOk P i ⟨tys,res,R n⟩→FnOk P i ⟨tys,res,R (n+1)⟩):FnOk P i ⟨tys,res,fun x=>.ex fun n=>R n x⟩:=by
 have h:∀ n,FnOk P i ⟨tys,res,R n⟩:=by
  intro n
  induction n with
  | zero=>exact ⟨hcall,fun x h Q hw=>by
    have hw':wp P (R 0 x) h (fun tag vs h'=>tag=0∧Q vs h'):=hw
    rw [h0] at hw'; exact hw'.elim⟩
  | succ n ih=>exact hs n ih
 exact ⟨hcall,fun x hp Q ⟨n,hw⟩=>(h n).2 x hp Q hw⟩
def methName (P:Program) (t i:Nat):String:=
 match P.types[t]? with
 | some ti=>match ti.methods[i]? with
  | some m=>m.name
  | none=> ""
 | none=> ""
end Go.Sw
