/-
  Operations on maps of ints to ints, as the model runs them; a slice that is cleared.
-/
import Derived.Test.YtncolficnfcdcaaSwS5
set_option linter.unusedSimpArgs false
set_option linter.unusedVariables false
namespace Go.Sw
variable {P : Program} {w : World}
theorem isIntMap_sound {t : TypeId} (h : isIntMap P t = true) : ∃ k e, P.underlying t = some (.map k e) ∧ P.underlying k = some (.int .i64) ∧ ∀ w : World, (zeroValue e).run P w = .ok (.int .i64 0) w := by
 unfold isIntMap at h
 split at h
 ·rename_i k e hu
  split at h
  ·rename_i i hk he
   split at h
   ·rename_i z hz
    have : z = 0 := Int.natAbs_eq_zero.1 (nbeq_iff.1 h)
    subst this
    exact ⟨k, e, hu, hk, fun w => by simp [zeroValue, run_info he, hz]⟩
   ·cases h
  ·cases h
 ·cases h
theorem run_getObj {r : Nat} {o : Obj} (h : w.heap[r]? = some o) (hc : ∀ a b c, o ≠ .cells a b c) : (getObj r).run P w = .ok o w := by
 unfold getObj
 cases o <;> first | exact absurd rfl (hc _ _ _) | simp [Sem.run, h]
theorem run_setObj {r : Nat} {o : Obj} (o' : Obj) (h : w.heap[r]? = some o) (hc : ∀ a b c, o ≠ .cells a b c) : (setObj r o').run P w = .ok () (wh w (w.heap.setIfInBounds r o')) := by
 unfold setObj
 cases o <;> first | exact absurd rfl (hc _ _ _) | simp [Sem.run, h, wh]
theorem mapO_ne {l : Ents} {c : Nat} : ∀ a b d, mapO l c ≠ .cells a b d := by intro a b d h; cases h
def midx (k : Int) : Ents → Nat → Option (Nat × Value)
 | [], _ => none
 | e :: l, i => if e.1 = k then some (i, .int .i64 e.2.1) else midx k l (i + 1)
theorem findNow_eq (k : Int) : ∀ (l : Ents) (i : Nat), Instr.findNow (.int .i64) (.int .i64 k) (l.map entO) i = some (midx k l i) := by
 intro l
 induction l with
 | nil => intro i; rfl
 | cons e l ih =>
  intro i
  simp only [List.map_cons, Instr.findNow, entO, Instr.sameNow, if_true]
  by_cases he : e.1 = k
  ·have : (k == e.1) = true := by simp [he]
   simp [this, midx, he]
  ·have : (k == e.1) = false := by simp [Ne.symm he]
   simp only [this, midx, he, if_false]
   exact ih _
theorem midx_find (k : Int) : ∀ (l : Ents) (i : Nat), (midx k l i).map (·.2) = (mfind k l).map (Value.int .i64) := by
 intro l
 induction l with
 | nil => intro i; rfl
 | cons e l ih => intro i; simp only [midx, mfind]; split <;> simp_all
theorem findKey_eq {t : TypeId} (hk : P.underlying t = some (.int .i64)) (k : Int) (l : Ents) : (Instr.findKey t (.int .i64 k) (l.map entO)).run P w = .ok (midx k l 0) w := by
 simp [Instr.findKey, run_und hk, findNow_eq]
theorem checkKey_eq {t : TypeId} (hk : P.underlying t = some (.int .i64)) (b : Bool) (n : Nat) (k : Int) : (Instr.checkKey b (n + 1) t (.int .i64 k)).run P w = .ok () w := by
 simp [Instr.checkKey, run_und hk]
theorem run_makeMap (t : TypeId) : (Instr.makeMap t none).run P w = .ok (.map (some w.heap.size)) (wh w (w.heap.push (mapO [] 0))) := by
 simp [Instr.makeMap, newObj, Sem.run, wh, mapO]
theorem run_lookup {t : TypeId} (ht : isIntMap P t = true) {r : Option Nat} {l : Ents} (hr : MapAt w.heap r l) (k : Int) (ok : Bool) :
  (Instr.lookup t (.map r) (.int .i64 k) ok).run P w = .ok (bif ok then .tuple #[.int .i64 ((mfind k l).getD 0), .bool (mfind k l).isSome] else .int .i64 ((mfind k l).getD 0)) w := by
 obtain ⟨kt, et, hu, hk, hz⟩ := isIntMap_sound ht
 have hf := findKey_eq (w := w) hk k l
 have hm := midx_find k l 0
 have hmid : (mfind k l = none ∧ midx k l 0 = none) ∨ ∃ i u, mfind k l = some u ∧ midx k l 0 = some (i, .int .i64 u) := by
  cases hx : midx k l 0 with
  | none =>
   rw [hx] at hm
   exact .inl ⟨by cases hy : mfind k l <;> simp [hy] at hm ⊢, rfl⟩
  | some p =>
   rw [hx] at hm
   obtain ⟨i, v⟩ := p
   cases hy : mfind k l with
   | none => simp [hy] at hm
   | some u => simp [hy] at hm; subst hm; exact .inr ⟨i, u, rfl, rfl⟩
 cases r with
 | none =>
  have hl : l = [] := hr
  subst hl
  simp only [Instr.lookup, Sem.run_bind, run_und hu, Result.andThen_ok, Sem.run_pure, checkKey_eq (n := 9999) hk]
  have hf : (Instr.findKey kt (.int .i64 k) #[].toList).run P w = .ok (midx k [] 0) w := hf
  simp only [hf, Result.andThen_ok]
  cases ok <;> simp [midx, mfind, hz]
 | some m =>
  obtain ⟨c, hc⟩ := hr
  simp only [Instr.lookup, Sem.run_bind, run_und hu, Result.andThen_ok, Sem.run_pure, run_getObj hc mapO_ne, mapO, checkKey_eq (n := 9999) hk, hf]
  rcases hmid with ⟨h1, h2⟩ | ⟨i, u, h1, h2⟩
  ·cases ok <;> simp [h1, h2, hz]
  ·cases ok <;> simp [h1, h2]
theorem mset_eq (k v : Int) : ∀ (l : Ents) (i j : Nat) (u : Value), midx k l j = some (i + j, u) → (l.map entO).modify i (fun e => { e with key := .int .i64 k, val := .int .i64 v }) = (mset k v l).map entO ∧ ((l.map entO)[i]?).map (·.key) = some (.int .i64 k) := by
 intro l
 induction l with
 | nil => intro i j u h; cases h
 | cons e l ih =>
  intro i j u h
  simp only [midx] at h
  by_cases he : e.1 = k
  ·simp only [he, if_true, Option.some.injEq, Prod.mk.injEq] at h
   have : i = 0 := by omega
   subst this
   simp [mset, he, entO]
  ·simp only [he, if_false] at h
   have hle : ∀ (l : Ents) (j n : Nat) (u : Value), midx k l j = some (n, u) → j ≤ n := by
    intro l
    induction l with
    | nil => intro j n u h; cases h
    | cons e l ih =>
     intro j n u h
     simp only [midx] at h
     split at h
     ·simp only [Option.some.injEq, Prod.mk.injEq] at h; omega
     ·have := ih _ _ _ h; omega
   have hi := hle _ _ _ _ h
   obtain ⟨i, rfl⟩ : ∃ i', i = i' + 1 := ⟨i - 1, by omega⟩
   have h' : midx k l (j + 1) = some (i + (j + 1), u) := by rw [h]; congr 2; omega
   obtain ⟨h1, h2⟩ := ih _ _ _ h'
   exact ⟨by simp [mset, he, h1], by simpa using h2⟩
theorem run_mapUpdate {t : TypeId} (ht : isIntMap P t = true) {m : Nat} {l : Ents} {c : Nat} (hm : w.heap[m]? = some (mapO l c)) (k v : Int) :
  (Instr.mapUpdate t (.map (some m)) (.int .i64 k) (.int .i64 v)).run P w = .ok () (wh w (w.heap.setIfInBounds m (mputO k v l c))) := by
 obtain ⟨kt, et, hu, hk, hz⟩ := isIntMap_sound ht
 have hf := findKey_eq (w := w) hk k l
 have hx := midx_find k l 0
 simp only [Instr.mapUpdate, Sem.run_bind, run_und hu, Result.andThen_ok, run_getObj hm mapO_ne]
 simp only [mapO, Sem.run_bind, checkKey_eq (n := 9999) hk, Result.andThen_ok, hf]
 cases hi : midx k l 0 with
 | none =>
  rw [hi] at hx
  have : mfind k l = none := by cases hy : mfind k l <;> simp [hy] at hx ⊢
  simp only [run_setObj _ hm mapO_ne, mputO, this]
  simp [mapO, entO]
 | some p =>
  obtain ⟨i, u⟩ := p
  rw [hi] at hx
  obtain ⟨h1, h2⟩ := mset_eq k v l i 0 u hi
  have hsome : ∃ y, mfind k l = some y := by cases hy : mfind k l with
   | none => simp [hy] at hx
   | some y => exact ⟨y, rfl⟩
  obtain ⟨y, hy⟩ := hsome
  have h2' : (((l.map entO).toArray[i]?).map (·.key)).getD (.int .i64 k) = .int .i64 k := by
   have : ((l.map entO).toArray[i]?) = (l.map entO)[i]? := by simp
   rw [this, h2]; rfl
  have hst : (Instr.keyThatStays (.int .i64 k) (.int .i64 k)).run P w = .ok (.int .i64 k) w := by simp [Instr.keyThatStays, Instr.sameBits]
  simp only [Sem.run_bind, h2', hst, Result.andThen_ok, run_setObj _ hm mapO_ne]
  simp only [mputO, hy]
  congr 3
  unfold mapO
  congr 1
  apply Array.toList_inj.1
  simpa using h1
theorem run_range {t : TypeId} (ht : isIntMap P t = true) {m : Nat} {l : Ents} {c : Nat} (hm : w.heap[m]? = some (mapO l c)) :
  (Instr.range t (.map (some m))).run P w = .ok (.pointer (some ⟨w.heap.size, 0, none⟩)) (wh w (w.heap.push (.mapIter (some m) c #[] c))) := by
 obtain ⟨kt, et, hu, hk, hz⟩ := isIntMap_sound ht
 simp only [Instr.range, Sem.run_bind, run_und hu, Result.andThen_ok, run_getObj hm mapO_ne]
 simp [mapO, newObj, Sem.run, wh]
theorem run_len {ts : Array TypeId} (hts : mapArg P ts.toList = true) {r : Option Nat} {l : Ents} (hr : MapAt w.heap r l) (ty : TypeId) :
  (Builtin.len_ ts ty #[.map r]).run P w = .ok (.int .i64 (l.length : Int)) w := by
 obtain ⟨ts⟩ := ts
 cases ts with
 | nil => cases hts
 | cons t ts =>
  simp only [mapArg] at hts
  split at hts
  ·rename_i k e hu
   cases r with
   | none =>
    have hl : l = [] := hr
    subst hl
    simp [Builtin.len_, run_und hu, goInt]
   | some m =>
    obtain ⟨c, hc⟩ := hr
    simp only [Builtin.len_]
    simp [run_und hu, run_getObj hc mapO_ne, mapO, goInt]
  ·cases hts
theorem run_choose (n : Nat) (hn : 0 < n) : ∃ i w', (choose (.mapNext n)).run P w = .ok i w' ∧ i < n ∧ Env w w' ∧ w'.heap = w.heap := by
 unfold choose
 simp only [Sem.run]
 by_cases hf : (Question.mapNext n).forced = true
 ·exact ⟨0, w, by simp [hf], hn, Env.refl w, rfl⟩
 ·refine ⟨_, { w with drawn := w.drawn + 1 }, by simp only [hf]; rfl, ?_, ⟨rfl, rfl, rfl⟩, rfl⟩
  exact Nat.mod_lt _ hn
theorem run_next {i m since : Nat} {seen : Array Nat} {last : Nat} {l : Ents} {c : Nat} (hi : w.heap[i]? = some (.mapIter (some m) since seen last)) (hm : w.heap[m]? = some (mapO l c))
  (hu : seen = #[] ∨ l = [] ∨ ∃ e ∈ l, e.2.2 < last) (ty : TypeId) :
  (∃ e ∈ l, seen.contains e.2.2 = false ∧ ∃ w', (Instr.next (.pointer (some ⟨i, 0, none⟩)) false ty).run P w = .ok (.tuple #[.bool true, .int .i64 e.1, .int .i64 e.2.1]) w' ∧ Env w w' ∧
   w'.heap = w.heap.setIfInBounds i (.mapIter (some m) since (seen.push e.2.2) c)) ∨
  ((∀ e ∈ l, seen.contains e.2.2 = false → since ≤ e.2.2) ∧ ∃ w', (Instr.next (.pointer (some ⟨i, 0, none⟩)) false ty).run P w = .ok (.tuple #[.bool false]) w' ∧ Env w w' ∧ w'.heap = w.heap) := by
 have hne : ∀ a b d, Obj.mapIter (some m) since seen last ≠ .cells a b d := by intro a b d h; cases h
 let es := (l.map entO).toArray
 let left := es.filter fun e => !seen.contains e.born
 let old := left.filter (·.born < since)
 let new := left.filter (·.born ≥ since)
 let cands := (if old.isEmpty then #[none] else #[]) ++ (old ++ new).map some
 have hcond : (!seen.isEmpty && !es.isEmpty && es.all (·.born ≥ last)) = false := by
  rcases hu with rfl | rfl | ⟨e, he, hlt⟩
  ·simp
  ·simp [es]
  ·have : es.all (·.born ≥ last) = false := by
    rw [← Bool.not_eq_true, Array.all_eq_true_iff_forall_mem]
    intro h
    have := h (entO e) (by simp only [es, List.mem_toArray]; exact List.mem_map_of_mem he)
    simp only [entO, ge_iff_le, decide_eq_true_eq] at this
    omega
   simp [this]
 have hpos : 0 < cands.size := by
  simp only [cands]
  by_cases ho : old.isEmpty = true
  ·simp [ho]; omega
  ·have : 0 < old.size := by
    rw [Array.isEmpty_iff] at ho
    exact Array.size_pos_iff.2 ho
   simp [ho]
   omega
 obtain ⟨n, w1, hc, hn, henv, hh⟩ := run_choose (P := P) (w := w) cands.size hpos
 obtain ⟨z0,hbody⟩:∃z0:String,(Instr.next (.pointer (some ⟨i, 0, none⟩)) false ty).run P w = (match cands[n]? with
   | some (some e) => do setObj i (.mapIter (some m) since (seen.push e.born) c); pure (.tuple #[.bool true, e.key, e.val])
   | some none => pure (.tuple #[.bool false])
   | none => stuck z0 : Sem Value).run P w1:=by
  apply Exists.intro
  simp only [Instr.next, Sem.run_bind, run_getObj hi hne, Result.andThen_ok, run_getObj hm mapO_ne]
  simp only [mapO]
  simp only [es] at hcond
  simp only [hcond, Bool.false_eq_true, if_false, Sem.run_bind, Sem.run_pure, Result.andThen_ok]
  simp only [cands, old, new, left, es] at hc
  rw [hc]
  simp only [Result.andThen_ok]
  rfl
 have hel : cands[n]? = some cands[n] := Array.getElem?_eq_getElem hn
 rw [hbody, hel]
 have hmem : cands[n] ∈ cands := Array.getElem_mem hn
 cases hcn : cands[n] with
 | none =>
  right
  rw [hcn] at hmem
  have hold : old.isEmpty = true := by
   by_cases ho : old.isEmpty = true
   ·exact ho
   ·simp [cands, ho] at hmem
  refine ⟨fun e he hs => ?_, w1, rfl, henv, hh⟩
  by_cases hlt : since ≤ e.2.2
  ·exact hlt
  ·exfalso
   have hin : entO e ∈ old := by
    simp only [old, left, es, Array.mem_filter, List.mem_toArray]
    exact ⟨⟨List.mem_map_of_mem he, by simp only [entO, hs, Bool.not_false]⟩, decide_eq_true (Nat.lt_of_not_le hlt)⟩
   rw [Array.isEmpty_iff] at hold
   rw [hold] at hin
   simp at hin
 | some e =>
  left
  rw [hcn] at hmem
  have hin : e ∈ old ∨ e ∈ new := by
   by_cases ho : old.isEmpty = true
   ·simp only [cands, ho, if_true, Array.mem_append, Array.mem_map, Option.some.injEq, exists_eq_right] at hmem
    rcases hmem with h | h
    ·simp at h
    ·exact h
   ·simp only [cands, ho, if_false, Array.mem_append, Array.mem_map, Option.some.injEq, exists_eq_right] at hmem
    rcases hmem with h | h
    ·simp at h
    ·exact h
  have hleft : e ∈ left := by
   rcases hin with h | h
   ·exact (Array.mem_filter.1 h).1
   ·exact (Array.mem_filter.1 h).1
  obtain ⟨h1, h2⟩ := Array.mem_filter.1 hleft
  simp only [es, List.mem_toArray, List.mem_map] at h1
  obtain ⟨x, hx, rfl⟩ := h1
  have hi1 : w1.heap[i]? = some (.mapIter (some m) since seen last) := by rw [hh]; exact hi
  refine ⟨x, hx, by simpa [entO] using h2, wh w1 (w1.heap.setIfInBounds i (.mapIter (some m) since (seen.push x.2.2) c)), ?_, henv.trans (wh_env _ _), by simp [wh, hh]⟩
  simp only [Sem.run_bind, entO, run_setObj _ hi1 hne, Result.andThen_ok, Sem.run_pure]
theorem run_entry {i m since : Nat} {seen : Array Nat} {stamp : Nat} {l : Ents} {c : Nat} (hi : w.heap[i]? = some (.mapIter (some m) since (seen.push stamp) c)) (hm : w.heap[m]? = some (mapO l c))
  {e : Int × Int × Nat} (he : l.find? (fun e => e.2.2 == stamp) = some e) :
  (Instr.entry (.pointer (some ⟨i, 0, none⟩))).run P w = .ok (.tuple #[.int .i64 e.1, .int .i64 e.2.1]) w := by
 have hne : ∀ a b d, Obj.mapIter (some m) since (seen.push stamp) c ≠ .cells a b d := by intro a b d h; cases h
 have hf : (l.map entO).toArray.find? (fun x => x.born == stamp) = some (entO e) := by
  rw [List.find?_toArray, List.find?_map]
  show Option.map entO (List.find? (fun e => e.2.2 == stamp) l) = _
  rw [he]; rfl
 simp only [Instr.entry, Sem.run_bind, run_getObj hi hne, Result.andThen_ok, Array.back?_push, run_getObj hm mapO_ne, mapO]
 simp [hf, entO]
theorem zeroCells_list (z : List Value) (n : Nat) : (Builtin.zeroCells z.toArray n).toList = zeros z n := by
 rw [zeroCells_eq]
theorem run_clear {ts : List TypeId} {t e : TypeId} {size bytes : Nat} {z : List Value} (he : elemOf P t = some (e, size, bytes, z)) {p : Option Addr} {n m : Nat} {K : Heap → Prop} (hw : clearWp z ⟨p, n, m⟩ w.heap K) (ty : TypeId) :
  ∃ w', (Builtin.clear_ (t :: ts).toArray ty #[.slice p n m]).run P w = .ok (.tuple #[]) w' ∧ Env w w' ∧ K w'.heap := by
 obtain ⟨i, hu, hi, hsz, hby, hzl, hzv⟩ := elemOf_sound he
 obtain ⟨zv, hzr, hzc⟩ := hzv w
 cases p with
 | none => exact ⟨w, by simp [Builtin.clear_, run_und hu], Env.refl w, hw⟩
 | some a =>
  obtain ⟨hwr, hk⟩ := hw
  refine ⟨wh w (puts w.heap a (zeros z n)), ?_, wh_env _ _, hk⟩
  cases n with
  | zero => simp [Builtin.clear_, run_und hu, zeros, puts, putFrom, wh_self]
  | succ n =>
   have := storeFrom_ok (P := P) hwr
   simp only [puts]
   simp [Builtin.clear_, run_und hu, hzr, hzc, zeroCells_list, this]
end Go.Sw
