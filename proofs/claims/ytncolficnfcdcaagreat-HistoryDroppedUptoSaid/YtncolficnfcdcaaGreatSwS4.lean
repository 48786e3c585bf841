import Derived.Test.YtncolficnfcdcaaGreatSwS3
set_option linter.unusedSimpArgs false
set_option linter.unusedVariables false
namespace Go.Sw
def wh (w:World) (h:Heap):World:={ w with heap:=h }
theorem wh_env (w:World) (h:Heap):Env w (wh w h):=⟨rfl,rfl,rfl⟩
theorem wh_self (w:World):wh w w.heap=w:=rfl
theorem drew_env (w:World):Env w w.drew:=⟨rfl,rfl,rfl⟩
section
variable {P:Program}
theorem run_cell {w:World} {a:Addr} {v:Value} (h:cell w.heap a=some v):(load a).run P w = .ok v w:=by
 have h':w.cell? a=some v:=h
 simp [run_load,h']
theorem loadFrom_ok {w:World} {a:Addr}:∀ {vs:List Value} {i:Nat} (acc:Array Value),CellsFrom w.heap a i vs →
  (loadCellsFrom a i vs.length acc).run P w = .ok (acc++vs.toArray) w:=by
 intro vs
 induction vs with
 | nil=>intro i acc h; simp [loadCellsFrom]
 | cons v vs ih=>
  intro i acc h
  obtain ⟨h1,h2⟩:=h
  simp only [List.length_cons,loadCellsFrom,Sem.run_bind,run_cell h1,Result.andThen_ok,ih _ h2]
  congr 1
  apply Array.toList_inj.1
  simp
theorem loadCells_ok {w:World} {a:Addr} {vs:List Value} (h:Cells w.heap a vs):(loadCells a vs.length).run P w = .ok vs.toArray w:=by
 simpa [loadCells] using loadFrom_ok (P:=P) #[] h
theorem aggD_isAgg {t:TypeId} {b:Bool} {w:World} (h:aggD (P.underlying t)=some b):(isAgg t).run P w = .ok b w:=by
 cases hu:P.underlying t <;> simp only [hu,aggD] at h
 ·cases h
 ·rename_i d
  simp only [isAgg,Sem.run_bind,run_und hu,Result.andThen_ok]
  cases d <;> simp [aggD] at h <;> subst h <;> rfl
theorem inj_length (bs:List B):∀ x,(Bs.inj bs x).length=bs.length:=by
 induction bs with
 | nil=>intro x; rfl
 | cons b bs ih=>intro x; simp [Bs.inj,ih]
theorem tyOf_sound {t:TypeId} {ty:Ty} (h:tyOf P t=some ty):∃ i,P.info? t=some i∧∀ x:ty.den,(ty.cells x).length=i.size ∧
  ((aggD (P.underlying t)=some true∧ty.inj x = .agg (ty.cells x).toArray)∨(aggD (P.underlying t)=some false∧ty.cells x=[ty.inj x])):=by
 unfold tyOf at h
 split at h
 ·rename_i i hi
  refine ⟨i,hi,?_⟩
  split at h
  ·rename_i cs hd hz
   cases hb:Nat.beq cs.toList.length i.size
   ·simp only [hb,cond_false] at h; cases h
   ·simp only [hb,cond_true] at h
    obtain rfl:=Option.some.inj h
    intro x
    refine ⟨?_, .inl ⟨hd,rfl⟩⟩
    rw [← nbeq_iff.1 hb]
    exact (inj_length _ _).trans (by simp)
  ·rename_i v hd hz
   cases hb:Nat.beq i.size 1
   ·simp only [hb,cond_false] at h; cases h
   ·simp only [hb,cond_true] at h
    obtain rfl:=Option.some.inj h
    intro x
    exact ⟨(nbeq_iff.1 hb).symm, .inr ⟨hd,rfl⟩⟩
  ·cases h
 ·cases h
theorem loadVar_ok {w:World} {t:TypeId} {ty:Ty} {a:Addr} (ht:tyOf P t=some ty) {x:ty.den} (h:Cells w.heap a (ty.cells x)) :
  (loadVar t a).run P w = .ok (ty.inj x) w:=by
 obtain ⟨i,hi,hx⟩:=tyOf_sound ht
 obtain ⟨hl,⟨hd,he⟩ | ⟨hd,he⟩⟩:=hx x
 ·have:=loadCells_ok (P:=P) h
  rw [hl] at this
  simp only [loadVar,Sem.run_bind,aggD_isAgg hd,Result.andThen_ok,if_true,run_size hi,this,Sem.run_pure,he]
 ·rw [he] at h
  have h0:=h.1
  simp only [Addr.add,if_true] at h0
  simp only [loadVar,Sem.run_bind,aggD_isAgg hd,Result.andThen_ok,Bool.false_eq_true,if_false,run_cell h0]
def W (h:Heap):World:={ (default:World) with heap:=h }
theorem cell_setCell_same {h:Heap} {a:Addr} {u v:Value} (ha:cell h a=some u):cell (setCell h a v) a=some v:=
 World.cell?_setCell_same (W h) a v ha
theorem cell_setCell_other {h:Heap} {a b:Addr} {v:Value} (hab:a≠b):cell (setCell h a v) b=cell h b:=
 World.cell?_setCell_other (W h) a b v hab
theorem cell_setCell_some {h:Heap} {a b:Addr} {u v:Value} (hb:cell h b=some u):∃ u',cell (setCell h a v) b=some u':=by
 by_cases e:a=b
 ·subst e; exact ⟨v,cell_setCell_same hb⟩
 ·exact ⟨u,by rw [cell_setCell_other e]; exact hb⟩
theorem frz_setCell {h:Heap} {a b:Addr} {v:Value}:frz (setCell h a v) b=frz h b:=
 World.frozen?_setCell (W h) a b v
theorem writes_setCell {h:Heap} {a:Addr} {b:Addr} {v:Value}:∀ {vs:List Value} {i:Nat},WritesFrom h a i vs→WritesFrom (setCell h b v) a i vs:=by
 intro vs
 induction vs with
 | nil=>intro i h; trivial
 | cons u vs ih=>
  intro i hw
  obtain ⟨⟨⟨u',h1⟩,h2,h3⟩,h4⟩:=hw
  exact ⟨⟨cell_setCell_some h1,by rw [frz_setCell]; exact h2,h3⟩,ih h4⟩
theorem storeFrom_ok {a:Addr}:∀ {vs:List Value} {i:Nat} {w:World},WritesFrom w.heap a i vs →
  (storeCells a vs i).run P w = .ok () (wh w (putFrom w.heap a i vs)):=by
 intro vs
 induction vs with
 | nil=>intro i w h; simp [storeCells,putFrom,wh_self]
 | cons v vs ih=>
  intro i w h
  obtain ⟨⟨⟨u,h1⟩,h2,h3⟩,h4⟩:=h
  have h1':w.cell? (a.add i)=some u:=h1
  have h2':w.frozen? (a.add i)=false:=h2
  have hs:(store (a.add i) v).run P w = .ok () (w.setCell (a.add i) v):=by
   rw [run_store P w _ v .plain (by rw [← flat_oneCell]; exact h3)]
   simp [h1',h2']
  simp only [storeCells,Sem.run_bind,hs,Result.andThen_ok]
  rw [ih (w:=w.setCell (a.add i) v) (writes_setCell h4)]
  rfl
theorem storeVar_ok {w:World} {t:TypeId} {v:Value} {c:Bool} {vs:List Value} {a:Addr} (ht:cellsOf P t v=some (c,vs)) (hc:c=true) (h:Writes w.heap a vs) :
  (storeVar t a v).run P w = .ok () (wh w (puts w.heap a vs)):=by
 obtain ⟨i,hi,hv,hl⟩:=cellsOf_sound ht hc
 have:(v.cells.size≠i.size)=False:=by simp [hv,hl]
 simp only [storeVar,Sem.run_bind,run_size hi,Result.andThen_ok,this,if_false]
 simp only [hv]
 exact storeFrom_ok h
theorem newVar_ok {w:World} {t:TypeId} {v:Value} {vs:List Value} (hv:v.cells=vs.toArray) :
  (newVar t v).run P w = .ok ⟨w.heap.size,0,none⟩ (wh w (w.heap.push (.cells vs.toArray t))):=by
 simp [newVar,newRow,hv,wh]
theorem firsts_ok {w:World} {p:Option Addr} {n m c size:Nat} {vs:List Value} (h:Firsts w.heap p (n*size) vs) :
  (Builtin.firstCells size n (.slice p m c)).run P w = .ok vs.toArray w:=by
 cases p with
 | none=>simp only [Firsts] at h; subst h; rfl
 | some a=>
  obtain ⟨hl,hc⟩:=h
  have:=loadCells_ok (P:=P) hc
  rw [hl] at this
  exact this
end
end Go.Sw
