/-
  A text: Breaks, Seek.
-/
import Derived.Test.YtaebgdhdldfigaaSwG0
import Derived.Test.YtaebgdhdldfigaaSwCE
set_option linter.unusedVariables false
set_option linter.unusedSimpArgs false
set_option maxRecDepth 100000
namespace Go.Sw.Piece
open Go.Sw.Any Go.Sw.Codec
open Go.Sw.Tree (iv s_putAll s_newP s_getP s_getT s_putP eqI_self Placed cell_own wp_whileG minI_eq)
variable {P : Program} {S : Ids} {h : Heap} {Q : Nat → List Value → Heap → Prop}
def isE (A : List Int) (i : Nat) : Bool := decide (A.getD i 0 = 10 ∨ (A.getD i 0 = 13 ∧ A.getD (i + 1) 0 ≠ 10))
def cntE (A : List Int) : Nat → Nat
 | 0 => 0
 | n + 1 => cntE A n + if isE A n = true then 1 else 0
theorem cntE_succ (A : List Int) (n : Nat) : cntE A (n + 1) = cntE A n + if isE A n = true then 1 else 0 := rfl
def seam (A : List Int) (n : Nat) : Nat := if 1 ≤ n ∧ A.getD (n - 1) 0 = 13 ∧ A.getD n 0 = 10 then 1 else 0
theorem cntE_mono (A : List Int) {m n : Nat} (h : m ≤ n) : cntE A m ≤ cntE A n := by
 induction n with
 | zero => rw [show m = 0 by omega]; exact Nat.le_refl _
 | succ n ih =>
  by_cases e : m = n + 1
  ·rw [e]; exact Nat.le_refl _
  ·have := ih (by omega); rw [cntE_succ]; omega
theorem getD_end {A : List Int} {i : Nat} (h : A.length ≤ i) : A.getD i 0 = 0 := by rw [List.getD_eq_getElem?_getD, List.getElem?_eq_none h]; rfl
theorem cntE_le (A : List Int) (n : Nat) : cntE A n ≤ n := by
 induction n with
 | zero => exact Nat.le_refl _
 | succ n ih => rw [cntE_succ]; split <;> omega
theorem seam_end (A : List Int) : seam A A.length = 0 := by unfold seam; rw [getD_end (Nat.le_refl _), if_neg (by omega)]
abbrev rawE (A : List Int) (n : Nat) : Nat := cntE A n + seam A n
theorem rawE_succ (A : List Int) (n : Nat) : rawE A (n + 1) = cntE A n + if A.getD n 0 = 10 ∨ A.getD n 0 = 13 then 1 else 0 := by
 unfold rawE seam
 rw [cntE_succ, Nat.add_sub_cancel]
 unfold isE
 generalize A.getD n 0 = a
 generalize A.getD (n + 1) 0 = b
 by_cases h1 : a = 10
 ·subst h1; simp
 ·by_cases h2 : a = 13
  ·subst h2
   by_cases h3 : b = 10 <;> simp [h3]
  ·simp [h1, h2]
theorem raw_is {ts : List (Int × Int)} : ∀ n, n ≤ ts.length → (sumT (ts.take n)).2.2.1 = rawE (ts.map (·.1)) n ∧ (sumT (ts.take n)).2.2.2.2.1 = decide (1 ≤ n ∧ (ts.map (·.1)).getD (n - 1) 0 = 13) ∧ (sumT (ts.take n)).1 = n
 | 0, _ => ⟨rfl, by simp; rfl, rfl⟩
 | n + 1, hn => by
  obtain ⟨i1, i2, i3⟩ := raw_is (ts := ts) n (by omega)
  obtain ⟨t, ht⟩ : ∃ t, ts[n]? = some t := ⟨ts[n]'(by omega), List.getElem?_eq_getElem (by omega)⟩
  have htk : ts.take (n + 1) = ts.take n ++ [t] := by rw [List.take_add_one, ht]; rfl
  have ha : (ts.map (·.1)).getD n 0 = t.1 := by rw [List.getD_eq_getElem?_getD, List.getElem?_map, ht]; rfl
  rw [htk, sumT_snoc, rawE_succ, ha]
  generalize sumT (ts.take n) = s at i1 i2 i3
  unfold addS
  by_cases h0 : n = 0
  ·subst h0
   have i3 : s.1 = 0 := i3
   rw [if_pos i3]
   refine ⟨?_, ?_, rfl⟩
   ·show (if t.1 = 10 ∨ t.1 = 13 then (1 : Int) else 0) = _
    by_cases h : t.1 = 10 ∨ t.1 = 13
    ·rw [if_pos h, if_pos h]; rfl
    ·rw [if_neg h, if_neg h]; rfl
   ·show decide (t.1 = 13) = _
    rw [Nat.add_sub_cancel, ha]; simp
  ·rw [if_neg (by omega), if_neg (show (oneS t).1 ≠ 0 by show (1 : Int) ≠ 0; decide)]
   refine ⟨?_, ?_, by show s.1 + 1 = _; omega⟩
   ·show s.2.2.1 + (if t.1 = 10 ∨ t.1 = 13 then (1 : Int) else 0) - brk s (oneS t) = _
    have hbr : brk s (oneS t) = (seam (ts.map (·.1)) n : Int) := by
     unfold brk seam
     rw [i2, ha]
     show (if decide (1 ≤ n ∧ (ts.map (·.1)).getD (n - 1) 0 = 13) = true ∧ decide (t.1 = 10) = true then (1 : Int) else 0) = _
     by_cases h : 1 ≤ n ∧ (ts.map (·.1)).getD (n - 1) 0 = 13 ∧ t.1 = 10
     ·rw [if_pos h, if_pos ⟨decide_eq_true ⟨h.1, h.2.1⟩, decide_eq_true h.2.2⟩]; rfl
     ·rw [if_neg h, if_neg (fun k => h ⟨(of_decide_eq_true k.1).1, (of_decide_eq_true k.1).2, of_decide_eq_true k.2⟩)]; rfl
    rw [hbr, i1]
    unfold rawE
    by_cases h : t.1 = 10 ∨ t.1 = 13
    ·rw [if_pos h, if_pos h]; omega
    ·rw [if_neg h, if_neg h]; omega
   ·show decide (t.1 = 13) = _
    rw [Nat.add_sub_cancel, ha]; simp
def SeekP (A : List Int) (k : Int) (y : Int) : Prop := ∃ m : Nat, y = m ∧ 1 ≤ m ∧ m ≤ A.length ∧ (cntE A m : Int) = k ∧ (cntE A (m - 1) : Int) + 1 = k
theorem SeekP.fn {A : List Int} {k y y' : Int} (h : SeekP A k y) (h' : SeekP A k y') : y = y' := by
 obtain ⟨m, rfl, a, b, c, d⟩ := h
 obtain ⟨m', rfl, a', b', c', d'⟩ := h'
 by_cases h1 : m < m'
 ·have := cntE_mono A (m := m) (n := m' - 1) (by omega); omega
 ·by_cases h2 : m' < m
  ·have := cntE_mono A (m := m') (n := m - 1) (by omega); omega
  ·omega
theorem seek_fin {A : List Int} {k : Int} {n : Nat} (h1 : 1 ≤ n) (hn : n ≤ A.length) (hk : k ≤ rawE A n) (hlt : (rawE A (n - 1) : Int) < k) : SeekP A k (if A.getD (n - 1) 0 = 13 ∧ A.getD n 0 = 10 then (n : Int) + 1 else n) := by
 obtain ⟨q, rfl⟩ : ∃ q, n = q + 1 := ⟨n - 1, by omega⟩
 rw [rawE_succ] at hk
 rw [Nat.add_sub_cancel] at hlt ⊢
 unfold rawE at hlt
 have hin : A.getD q 0 = 10 ∨ A.getD q 0 = 13 := by
  by_cases h : A.getD q 0 = 10 ∨ A.getD q 0 = 13
  ·exact h
  ·rw [if_neg h] at hk; omega
 rw [if_pos hin] at hk
 have hq : (cntE A q : Int) + 1 = k := by omega
 by_cases hs : A.getD q 0 = 13 ∧ A.getD (q + 1) 0 = 10
 ·rw [if_pos hs]
  have he : isE A q = false := decide_eq_false fun h => by rcases h with h | h <;> omega
  have he2 : isE A (q + 1) = true := decide_eq_true (.inl hs.2)
  have c1 : cntE A (q + 1) = cntE A q := by rw [cntE_succ, he]; simp
  have c2 : cntE A (q + 2) = cntE A (q + 1) + 1 := by rw [cntE_succ, he2]; simp
  have hl : q + 2 ≤ A.length := by
   by_cases h : q + 1 < A.length
   ·omega
   ·have := hs.2; rw [getD_end (by omega)] at this; omega
  exact ⟨q + 2, by omega, by omega, hl, by omega, by show (cntE A (q + 1) : Int) + 1 = k; omega⟩
 ·rw [if_neg hs]
  have he : isE A q = true := by
   unfold isE
   rw [decide_eq_true_iff]
   rcases hin with h | h
   ·exact .inl h
   ·exact .inr ⟨h, fun h2 => hs ⟨h, h2⟩⟩
  have c1 : cntE A (q + 1) = cntE A q + 1 := by rw [cntE_succ, he]; simp
  exact ⟨q + 1, by omega, by omega, hn, by omega, by rw [Nat.add_sub_cancel]; exact hq⟩
theorem cut_one (E : List El) (n : Nat) (hE : E.length ≤ 1099511627776) : (cutL E (n : Int) ((n : Int) + 1)).map (fun x : El => x.1) = ((E.map (·.1)).drop n).take 1 := by
 unfold cutL
 rw [show (max (n : Int) 0).toNat = n by omega]
 by_cases h : n < E.length
 ·rw [show (min ((n : Int) + 1) (E.length : Int)).toNat = n + 1 by omega, List.drop_take, Nat.add_sub_cancel_left, List.map_take, List.map_drop]
 ·rw [List.drop_eq_nil_of_le (by rw [List.length_take]; omega), List.drop_eq_nil_of_le (by rw [List.length_map]; omega)]; rfl
theorem els_atoms (enc : Int) (ps : List Pc) : (els enc ps).map (fun x : El => x.1) = (toksL enc ps).map (·.1) := els_fst enc ps
theorem c_Breaks (M : Meth0 P S) (C : Cl0 P S) {n : Nat} {T : TX} {at_ : Int} (t : TextR S n h T) (hat : fitsI .i64 at_) :
  Gives P (F_Text_Breaks S (some T.p) at_) [.one (.int .i64)] h fun (y : Int × Unit) _ => y.1 = cntE ((els T.enc T.cur.ps).map (·.1)) (min (max at_ 0) (els T.enc T.cur.ps).length).toNat := by
 unfold F_Text_Breaks Gives
 have hf := t.cur.few t.lim.2
 have hEl := els_len T.enc T.cur.ps
 have hat := fits_i64.1 hat
 rw [els_atoms]
 have ri := fun n (hn : n ≤ (toksL T.enc T.cur.ps).length) => raw_is (ts := toksL T.enc T.cur.ps) n hn
 generalize hA : (toksL T.enc T.cur.ps).map (fun x : Int × Int => x.1) = A at ri ⊢
 have hAl : A.length = (els T.enc T.cur.ps).length := by rw [← hA, List.length_map, hEl]
 refine wp_ifB (fun hc => ?_) fun hc => ?_
 ·rw [leI_iff] at hc
  refine s_ret ⟨rfl, Ext.refl _, (0, ()), rfl, ?_⟩
  show (0 : Int) = _
  rw [show (min (max at_ 0) (els T.enc T.cur.ps).length).toNat = 0 by omega]; rfl
 rw [leI_not] at hc
 refine wp_call (c_Len t) fun ⟨(L : Int), _⟩ h1 e1 hL => ?_
 have hL : L = (els T.enc T.cur.ps).length := hL
 subst hL
 have t1 := t.ext e1
 refine wp_ifB (fun hd => ?_) fun hd => ?_
 ·rw [geI_iff] at hd
  dsimp only at hd
  refine s_root t1 (wp_call (c_TSum t1) fun x h2 e2 hx => s_ret ⟨rfl, e1.trans e2, (_, ()), rfl, ?_⟩)
  have hx : x.1 = _ := hx
  show x.1.2.2.1 = _
  rw [hx, show (min (max at_ 0) (els T.enc T.cur.ps).length).toNat = A.length by omega]
  have := (ri (toksL T.enc T.cur.ps).length (Nat.le_refl _)).1
  rw [List.take_length, ← hEl, ← hAl] at this
  rw [this]
  unfold rawE
  rw [seam_end]; rfl
 rw [geI_not] at hd
 dsimp only at hd
 refine wp_call (c_ahead M t1 (by omega) (by rw [← hEl]; omega)) fun ⟨(s : Sums), _⟩ h2 e2 hs => ?_
 have hs : s = sumT ((toksL T.enc T.cur.ps).take at_.toNat) := hs
 obtain ⟨r1, r2, r3⟩ := ri at_.toNat (by omega)
 rw [← hs] at r1 r2 r3
 refine s_putO (bs := SB) (z := zS) s (by decide) (flatS _) fun h3 e3 o3 => ?_
 have t3 := (t1.ext e2).ext e3
 refine bind_bool (A.getD (at_.toNat - 1) 0 = 13 ∧ A.getD at_.toNat 0 = 10) ?_ fun bb h4 e4 hb4 => ?_
 ·refine wp_load1 (b := .bool) _ s.2.2.2.2.1 rfl (cells_iff.1 o3.cells 4 _ rfl) (wp_ifB (fun hx => ?_) fun hx => ?_)
  ·rw [r2] at hx
   have hx := of_decide_eq_true hx
   have hadd : addI .i64 at_ 1 = at_ + 1 := add_ok (by omega) (by omega)
   rw [hadd]
   refine wp_call (c_Atoms M C (from_ := at_) t3 (fits_i64.2 (by omega))) fun ⟨(sa : Sl), _⟩ h4 e4 oa => ?_
   have oa : OwnL h3.size .i64 h4 sa ((cutL (els T.enc T.cur.ps) at_ (at_ + 1)).map (·.1)) := oa
   have hcut := cut_one (els T.enc T.cur.ps) at_.toNat (by omega)
   rw [show ((at_.toNat : Nat) : Int) = at_ by omega, els_atoms, hA] at hcut
   rw [hcut] at oa
   have hlt : at_.toNat < A.length := by omega
   have hone : (A.drop at_.toNat).take 1 = [A.getD at_.toNat 0] := by
    rw [List.drop_eq_getElem_cons hlt, List.getD_eq_getElem?_getD, List.getElem?_eq_getElem hlt]; rfl
   rw [hone] at oa
   dsimp only
   refine s_at0 oa.lst (n := 0) (by simp) fun _ => s_ret ⟨rfl, e4, _, rfl, ?_⟩
   show eqI (A.getD at_.toNat 0) 10 = true ↔ _
   rw [eqI_iff]
   exact ⟨fun h => ⟨hx.2, h⟩, fun h => h.2⟩
  ·rw [r2] at hx
   have hx := of_decide_eq_false hx
   exact s_ret ⟨rfl, Ext.refl _, false, rfl, Iff.intro (fun h => by cases h) fun h => absurd ⟨by omega, h.1⟩ hx⟩
 have o4 := o3.ext e4
 have e04 := ((e1.trans e2).trans e3).trans e4
 have hmin : (min (max at_ 0) (els T.enc T.cur.ps).length).toNat = at_.toNat := by omega
 rw [hmin]
 have hcl := cntE_le A at_.toNat
 refine wp_ifB (fun hx => ?_) fun hx => ?_
 ·have hx := hb4.1 hx
  have hs1 : seam A at_.toNat = 1 := by unfold seam; rw [if_pos ⟨by omega, hx⟩]
  refine wp_load1 (b := .int .i64) _ s.2.2.1 rfl (cells_iff.1 o4.cells 2 _ rfl) ?_
  rw [r1]
  unfold rawE
  rw [hs1, sub_ok (by omega) (by omega)]
  exact s_ret ⟨rfl, e04, (_, ()), rfl, by show (((cntE A at_.toNat + 1 : Nat) : Int) - 1) = _; omega⟩
 ·have hx : ¬ (A.getD (at_.toNat - 1) 0 = 13 ∧ A.getD at_.toNat 0 = 10) := fun h => by rw [hb4.2 h] at hx; cases hx
  have hs1 : seam A at_.toNat = 0 := by unfold seam; rw [if_neg fun h => hx h.2]
  refine wp_load1 (b := .int .i64) _ s.2.2.1 rfl (cells_iff.1 o4.cells 2 _ rfl) (s_ret ⟨rfl, e04, (_, ()), rfl, ?_⟩)
  show s.2.2.1 = _
  rw [r1]; unfold rawE; rw [hs1]; rfl
theorem c_Seek (M : Meth0 P S) (C : Cl0 P S) {n : Nat} {T : TX} {k : Int} (t : TextR S n h T) :
  Gives P (F_Text_Seek S (some T.p) k) [.one (.int .i64)] h fun (y : Int × Unit) _ => (k = 0 → y.1 = 0) ∧ ((k < 0 ∨ (cntE ((els T.enc T.cur.ps).map (·.1)) (els T.enc T.cur.ps).length : Int) < k) → y.1 = -1) ∧ (0 < k → k ≤ cntE ((els T.enc T.cur.ps).map (·.1)) (els T.enc T.cur.ps).length → SeekP ((els T.enc T.cur.ps).map (·.1)) k y.1) := by
 unfold F_Text_Seek Gives
 have hf := t.cur.few t.lim.2
 have hEl := els_len T.enc T.cur.ps
 rw [els_atoms]
 have ri := fun n (hn : n ≤ (toksL T.enc T.cur.ps).length) => raw_is (ts := toksL T.enc T.cur.ps) n hn
 have okt : okT (toksL T.enc T.cur.ps) := okT_toksL t.cur.bytes
 generalize hA : (toksL T.enc T.cur.ps).map (fun x : Int × Int => x.1) = A at ri ⊢
 have hAl : A.length = (toksL T.enc T.cur.ps).length := by rw [← hA, List.length_map]
 have hAE : (els T.enc T.cur.ps).length = A.length := by rw [hEl, hAl]
 rw [hAE]
 have hcnt := cntE_le A A.length
 refine wp_ifB (fun hc => ?_) fun hc => ?_
 ·rw [eqI_iff] at hc
  exact s_ret ⟨rfl, Ext.refl _, (0, ()), rfl, fun _ => rfl, fun h => by omega, fun h => by omega⟩
 rw [eqI_not] at hc
 have O := part_ok S T.Z (P := P)
 have hrl : ((sumT (toksL T.enc T.cur.ps)).2.2.1 : Int) = cntE A A.length := by
  have := (ri (toksL T.enc T.cur.ps).length (Nat.le_refl _)).1
  rw [List.take_length, ← hAl] at this
  rw [this]; unfold rawE; rw [seam_end]; rfl
 refine bind_bool (k < 0 ∨ (cntE A A.length : Int) < k) ?_ fun bb h1 e1 hb1 => wp_ifB (fun hx => ?_) fun hx => ?_
 ·refine wp_ifB (fun hd => s_ret ⟨rfl, Ext.refl _, true, rfl, Iff.intro (fun _ => .inl (ltI_iff.1 hd)) fun _ => rfl⟩) fun hd => s_root t (wp_call (c_TSum t) fun x h1 e1 hx => s_ret ⟨rfl, e1, _, rfl, ?_⟩)
  rw [ltI_not] at hd
  have hx : x.1 = _ := hx
  rw [gtI_iff, hx, hrl]
  omega
 ·have := hb1.1 hx
  exact s_ret ⟨rfl, e1, (-1, ()), rfl, fun h => absurd h hc, fun _ => rfl, fun h h2 => by omega⟩
 have hk : 0 < k ∧ k ≤ (cntE A A.length : Int) := by
  have : ¬ (k < 0 ∨ (cntE A A.length : Int) < k) := fun h => by rw [hb1.2 h] at hx; cases hx
  omega
 have t1 := t.ext e1
 refine s_root t1 (wp_call (R := fun (x : Int × Unit) _ => Any.Found (part S T.Z) T.cur.t.list (Int.ofNat 1) k x.1) (c_Find O t1.cur.nd t1.cur.wf (t1.cur.room t1.lim.2)) fun ⟨(f : Int), _⟩ h2 e2 hx => ?_)
 have t2 := t1.ext e2
 have hlenP : T.cur.t.list.length = T.cur.ps.length := by rw [t.cur.ls, List.length_map]
 have key : ∀ i, keyS (sumPs (T.cur.t.list.take i)) (Int.ofNat 1) = rawE A (toksL T.enc (T.cur.ps.take i)).length := fun i => by
  rw [t.cur.ls, ← List.map_take, sum_ps fun q hq => t.cur.pcs q (List.mem_of_mem_take hq)]
  have hpre : toksL T.enc (T.cur.ps.take i) = (toksL T.enc T.cur.ps).take (toksL T.enc (T.cur.ps.take i)).length := by
   have : toksL T.enc T.cur.ps = toksL T.enc (T.cur.ps.take i) ++ toksL T.enc (T.cur.ps.drop i) := by unfold toksL; rw [← List.flatMap_append, List.take_append_drop]
   rw [this, List.take_left' rfl]
  have h1 := (ri _ (toksL_take_le T.cur.ps i)).1
  rw [← hpre] at h1
  exact h1
 have hx : (f = 0 ∧ k ≤ 0) ∨ (1 ≤ f ∧ f ≤ T.cur.t.list.length ∧ k ≤ keyS (sumPs (T.cur.t.list.take f.toNat)) (Int.ofNat 1) ∧ keyS (sumPs (T.cur.t.list.take (f.toNat - 1))) (Int.ofNat 1) < k) ∨ (f = T.cur.t.list.length + 1 ∧ keyS (sumPs T.cur.t.list) (Int.ofNat 1) < k) := hx
 have kall : keyS (sumPs T.cur.t.list) (Int.ofNat 1) = cntE A A.length := by
  have := key T.cur.ps.length
  rw [List.take_of_length_le (by omega), List.take_of_length_le (Nat.le_refl _), ← hAl] at this
  rw [this]; unfold rawE; rw [seam_end]; rfl
 rw [key, key, kall, hlenP] at hx
 obtain ⟨f1, f2, f3, f4⟩ : 1 ≤ f ∧ f ≤ T.cur.ps.length ∧ k ≤ rawE A (toksL T.enc (T.cur.ps.take f.toNat)).length ∧ (rawE A (toksL T.enc (T.cur.ps.take (f.toNat - 1))).length : Int) < k := by
  rcases hx with h | h | h
  ·omega
  ·exact h
  ·omega
 obtain ⟨i, rfl⟩ : ∃ i : Nat, f = (i : Int) + 1 := ⟨f.toNat - 1, by omega⟩
 rw [show ((i : Int) + 1).toNat = i + 1 by omega] at f3 f4
 rw [Nat.add_sub_cancel] at f4
 have hil : i < T.cur.ps.length := by omega
 obtain ⟨q, hq⟩ : ∃ q, T.cur.ps[i]? = some q := ⟨T.cur.ps[i]'hil, List.getElem?_eq_getElem hil⟩
 have hqm := List.mem_of_getElem? hq
 have hpsl : T.cur.ps.length ≤ 1099511627776 := by
  have h1 := W_len O T.cur.t.list; have h2 := Nat.le_trans h1 hf.2; rw [← hlenP]; exact h2
 have hsub : subI .i64 ((i : Int) + 1) 1 = (i : Int) := by rw [sub_ok (by omega) (by omega)]; omega
 dsimp only
 rw [hsub]
 refine s_root t2 (wp_call (R := fun (x : Sums × Unit) _ => x.1 = sumPs (T.cur.t.list.take ((i : Int)).toNat)) (c_Upto' O t2.cur.nd t2.cur.wf (t2.cur.room t2.lim.2)) fun ⟨(s : Sums), _⟩ h3 e3 hs => ?_)
 have hs : s = sumT (toksL T.enc (T.cur.ps.take i)) := by
  have hs : s = _ := hs
  rw [hs, Int.toNat_natCast, t.cur.ls, ← List.map_take, sum_ps fun q hq => t.cur.pcs q (List.mem_of_mem_take hq)]
 subst hs
 dsimp only
 refine s_putO (bs := SB) (z := zS) (sumT (toksL T.enc (T.cur.ps.take i))) (by decide) (flatS _) fun h4 e4 o4 => ?_
 have t4 := (t2.ext e3).ext e4
 have hx4 : T.cur.t.list[((i : Int)).toNat]? = some q.1 := by rw [Int.toNat_natCast, t.cur.ls, List.getElem?_map, hq]; rfl
 refine s_root t4 (wp_call (R := fun (y : Part × Bool × Unit) _ => y.1 = q.1 ∧ y.2.1 = true) (c_At O t4.cur.nd t4.cur.wf (Nat.le_of_lt (t4.cur.room t4.lim.2)) (by omega) hx4) fun ⟨(y : Part), (ok : Bool), _⟩ h5 e5 ⟨hy, hok⟩ => ?_)
 have hy : y = q.1 := hy
 subst hy
 dsimp only
 refine s_newO (bs := PB) zP (by decide) fun h6 e6 o6 => s_stoO (bs := PB) q.1 o6 (flatP _) fun h7 o7 u7 => ?_
 have e57 : Ext h4 h7 := Upd.extN (e5.trans e6) u7 (by intro x hx; cases hx; have := e5.size; dsimp only; omega)
 have t7 := t4.ext e57
 have q34 : h3.size < h4.size := (o4.lt rfl).2
 have o47 : Own h3.size 1 h7 ⟨some ⟨h3.size, 0, none⟩, 5, 5⟩ (Bs.inj SB (sumT (toksL T.enc (T.cur.ps.take i)))) := o4.ext e57
 have e07 := (((e1.trans e2).trans e3).trans e4).trans e57
 have pc := t7.cur.pcs q hqm
 generalize hn0 : (toksL T.enc (T.cur.ps.take i)).length = n0 at f4
 have hsucc := toksL_succ (enc := T.enc) hq
 have hn1 : (toksL T.enc (T.cur.ps.take (i + 1))).length = n0 + (toks T.enc q.2).length := by rw [hsucc, List.length_append, hn0]
 rw [hn1] at f3
 have hall : toksL T.enc T.cur.ps = toksL T.enc (T.cur.ps.take i) ++ (toks T.enc q.2 ++ toksL T.enc (T.cur.ps.drop (i + 1))) := by
  rw [← List.append_assoc, ← hsucc]
  unfold toksL; rw [← List.flatMap_append, List.take_append_drop]
 have hle1 : n0 + (toks T.enc q.2).length ≤ (toksL T.enc T.cur.ps).length := by rw [hall, List.length_append, List.length_append, hn0]; omega
 have htk : ∀ j, j ≤ (toks T.enc q.2).length → (toksL T.enc T.cur.ps).take (n0 + j) = toksL T.enc (T.cur.ps.take i) ++ (toks T.enc q.2).take j := fun j hj => by
  rw [hall, List.take_append, List.take_of_length_le (by omega), hn0, Nat.add_sub_cancel_left, List.take_append_of_le_length hj]
 have hby : isBytes q.2 := pc.bytes
 have tl := toks_len (enc := T.enc) hby
 have hof := toks_offs (enc := T.enc) hby
 have hqlen := pc.lst.len
 have hqle := pc.len
 refine wp_whileG (G := Nat) (fun j (r : Int × Unit) h' => j ≤ (toks T.enc q.2).length ∧ r.1 = offs ((toks T.enc q.2).take j) ∧ (1 ≤ j → (rawE A (n0 + j - 1) : Int) < k) ∧ Ext h3 h' ∧ Ext h h' ∧ TextR S n h' T ∧ Own h3.size 1 h' ⟨some ⟨h3.size, 0, none⟩, 5, 5⟩ (Bs.inj SB (sumT ((toksL T.enc T.cur.ps).take (n0 + j)))) ∧ Own h5.size 1 h' ⟨some ⟨h5.size, 0, none⟩, 7, 7⟩ (Bs.inj PB q.1)) (fun j => (toks T.enc q.2).length - j)
  (fun tag vs h' => tag = 3 ∧ vs = [] ∧ ∃ N : Nat, 1 ≤ N ∧ N ≤ (toksL T.enc T.cur.ps).length ∧ k ≤ rawE A N ∧ (rawE A (N - 1) : Int) < k ∧ Ext h h' ∧ TextR S n h' T ∧ Own h3.size 1 h' ⟨some ⟨h3.size, 0, none⟩, 5, 5⟩ (Bs.inj SB (sumT ((toksL T.enc T.cur.ps).take N))))
  0 ⟨Nat.zero_le _, rfl, fun h => by omega, e4.trans e57, e07, t7, by rw [htk 0 (Nat.zero_le _), List.take_zero, List.append_nil]; exact o47, o7⟩ ?_ ?_
 ·rintro j ⟨(r : Int), u⟩ h8 ⟨hj, hr, hprev, e8, e08, t8, o8, p8⟩
  dsimp only at hr ⊢
  subst hr
  obtain ⟨rj1, rj2, rj3⟩ := ri (n0 + j) (by omega)
  have hto := toks_at (enc := T.enc) hby j hj
  have hsp : offs (toks T.enc q.2) = offs ((toks T.enc q.2).take j) + offs ((toks T.enc q.2).drop j) := by rw [← offs_append, List.take_append_drop]
  refine bind_bool (offs ((toks T.enc q.2).take j) < q.2.length ∧ (rawE A (n0 + j) : Int) < k) ?_ fun bb h9 e9 hb9 => wp_ifB (fun hx => ?_) fun hx => ?_
  ·refine wp_load1 (b := .sl) _ q.1.1 rfl (cells_iff.1 p8.cells 0 _ rfl) (wp_ifB (fun hd => ?_) fun hd => s_ret ⟨rfl, Ext.refl _, false, rfl, Iff.intro (fun h => by cases h) fun h => ?_⟩)
   ·rw [ltI_iff, natI_def, hqlen] at hd
    refine wp_load1 (b := .int .i64) _ _ rfl (cells_iff.1 o8.cells 2 _ rfl) (s_ret ⟨rfl, Ext.refl _, _, rfl, ?_⟩)
    rw [ltI_iff, rj1]
    exact ⟨fun h => ⟨by omega, h⟩, fun h => h.2⟩
   ·rw [ltI_not, natI_def, hqlen] at hd
    omega
  ·obtain ⟨c1, c2⟩ := hb9.1 hx
   have t9 := t8.ext e9
   have o9 := o8.ext e9; have p9 := p8.ext e9
   have hjl : j < (toks T.enc q.2).length := by
    by_cases h : j < (toks T.enc q.2).length
    ·exact h
    ·rw [List.drop_eq_nil_of_le (by omega), offs_nil] at hsp; omega
   obtain ⟨tt, htt⟩ : ∃ tt, (toks T.enc q.2)[j]? = some tt := ⟨(toks T.enc q.2)[j]'hjl, List.getElem?_eq_getElem hjl⟩
   have hdl : 0 < (q.2.drop (offs ((toks T.enc q.2).take j))).length := by rw [List.length_drop]; omega
   have hft : firstF T.enc (q.2.drop (offs ((toks T.enc q.2).take j))) = tt := by
    have h1 := toks_cons (enc := T.enc) (hby.drop (offs ((toks T.enc q.2).take j))) hdl
    rw [hto.2, List.drop_eq_getElem_cons hjl, (List.getElem?_eq_some_iff.1 htt).2] at h1
    exact (List.cons.inj h1).1.symm
   have hts := toks_size (enc := T.enc) hby tt (List.mem_of_getElem? htt)
   have hoff : offs ((toks T.enc q.2).take (j + 1)) = offs ((toks T.enc q.2).take j) + tt.2.toNat := by rw [List.take_add_one, htt, offs_append]; simp [offs]
   have hsn : (toksL T.enc T.cur.ps).take (n0 + (j + 1)) = (toksL T.enc T.cur.ps).take (n0 + j) ++ [tt] := by
    rw [htk (j + 1) hjl, htk j hj, List.append_assoc]; congr 1
    rw [List.take_add_one, htt]; rfl
   refine s_enc t9 (wp_load1 (b := .sl) _ q.1.1 rfl (cells_iff.1 p9.cells 0 _ rfl) (wp_call (c_Next M (t9.cur.pcs q hqm).lst) fun ⟨(y1 : Int), (y2 : Int), _⟩ h10 e10 hy => ?_))
   have hy : y1 = tt.1 ∧ y2 = tt.2 := by
    rcases hy with ⟨hn, _, _⟩ | ⟨_, _, _, hy⟩
    ·rcases hn with h | h | h
     ·exact absurd t.enc h
     ·omega
     ·omega
    ·rw [Int.toNat_natCast, hft] at hy
     exact ⟨congrArg Prod.fst hy, congrArg Prod.snd hy⟩
   obtain ⟨rfl, rfl⟩ := hy
   dsimp only
   refine s_getO (bs := SB) (o9.ext e10) (wp_call c_single fun ⟨(o : Sums), _⟩ h11 e11 ho => ?_)
   have ho : o = oneS (tt.1, tt.2) := ho
   subst ho
   dsimp only
   refine s_ckO (bs := SB) ((o9.ext e10).ext e11) (wp_call (c_Add (VS.sumT (okt.take (n0 + j))) (VS.one hts) (by rw [List.length_take]; omega)) fun ⟨(o : Sums), _⟩ h12 e12 ho => ?_)
   have ho : o = _ := ho
   subst ho
   have e812 := ((e9.trans e10).trans e11).trans e12
   refine s_stoO (bs := SB) (addS (sumT ((toksL T.enc T.cur.ps).take (n0 + j))) (oneS (tt.1, tt.2))) (o8.ext e812) (flatS _) fun h13 o13 u13 => ?_
   have c13 : Chg (fun i => i = h3.size) h12 h13 := upd_chg u13
   have e813 : Ext h3 h13 := Upd.extN (e8.trans e812) u13 (by intro z hz; cases hz; exact Nat.le_refl _)
   have q03 : h.size ≤ h3.size := ((e1.trans e2).trans e3).size
   have e013 : Ext h h13 := Upd.extN (e08.trans e812) u13 (by intro z hz; cases hz; exact q03)
   have nz : ∀ i, T.Z i → i < h3.size := fun i hi => by have := (t.lo i hi).2; omega
   have t13 := (t8.ext e812).chg c13 fun i hi (f : i = h3.size) => by have := nz i hi; omega
   have p13 := ob_upd (p8.ext e812) u13 (by have : h3.size < h4.size := q34; have := e5.size; show h3.size ≠ h5.size; omega)
   rw [← sumT_snoc, ← hsn] at o13
   rw [add_ok (by omega) (by omega)]
   exact s_ret ⟨fun _ => ⟨j + 1, (((offs ((toks T.enc q.2).take j) : Nat) : Int) + tt.2, ()), rfl, ⟨hjl, by dsimp only; omega, fun _ => by rw [show n0 + (j + 1) - 1 = n0 + j by omega]; exact c2, e813, e013, t13, o13, p13⟩, by omega⟩, fun hh => absurd rfl hh⟩
  ·have hno : ¬ (offs ((toks T.enc q.2).take j) < q.2.length ∧ (rawE A (n0 + j) : Int) < k) := fun h => by rw [hb9.2 h] at hx; cases hx
   have hge : k ≤ rawE A (n0 + j) := by
    by_cases h : (rawE A (n0 + j) : Int) < k
    ·have h2 : ¬ offs ((toks T.enc q.2).take j) < q.2.length := fun h3 => hno ⟨h3, h⟩
     have hjl : j = (toks T.enc q.2).length := by
      by_cases h4 : j < (toks T.enc q.2).length
      ·obtain ⟨tt, htt⟩ : ∃ tt, (toks T.enc q.2)[j]? = some tt := ⟨(toks T.enc q.2)[j]'h4, List.getElem?_eq_getElem h4⟩
       have hts := toks_size (enc := T.enc) hby tt (List.mem_of_getElem? htt)
       rw [List.drop_eq_getElem_cons h4, (List.getElem?_eq_some_iff.1 htt).2, offs_cons] at hsp
       omega
      ·omega
     subst hjl; omega
    ·omega
   have hj1 : 1 ≤ j := by
    by_cases h : 1 ≤ j
    ·exact h
    ·rw [show j = 0 by omega, Nat.add_zero] at hge; omega
   exact s_ret ⟨fun hh => absurd hh (by decide), fun _ => ⟨rfl, rfl, n0 + j, by omega, by omega, hge, hprev hj1, e08.trans e9, t8.ext e9, o8.ext e9⟩⟩
 ·rintro tag vs h8 ⟨rfl, rfl, N, hN1, hN2, hN3, hN4, e08, t8, o8⟩
  obtain ⟨r1, r2, r3⟩ := ri N hN2
  have hfin := seek_fin hN1 (by omega) hN3 hN4
  refine s_tag (s_cast0 (wp_load1 (b := .int .i64) _ _ rfl (cells_iff.1 o8.cells 0 _ rfl) (wp_load1 (b := .int .i64) _ _ rfl (cells_iff.1 o8.cells 0 _ rfl) ?_)))
  rw [r3, add_ok (by omega) (by omega)]
  refine wp_call (c_Atoms M C (from_ := (N : Int)) t8 (fits_i64.2 (by omega))) fun ⟨(sa : Sl), _⟩ h9 e9 oa => ?_
  have oa : OwnL h8.size .i64 h9 sa ((cutL (els T.enc T.cur.ps) N ((N : Int) + 1)).map (·.1)) := oa
  have hcut := cut_one (els T.enc T.cur.ps) N (by omega)
  rw [els_atoms, hA] at hcut
  rw [hcut] at oa
  have hsl := oa.len
  rw [List.length_take, List.length_drop] at hsl
  have o9 := o8.ext e9
  refine bind_bool (A.getD (N - 1) 0 = 13 ∧ A.getD N 0 = 10) ?_ fun bb h10 e10 hb10 => ?_
  ·refine wp_load1 (b := .bool) _ _ rfl (cells_iff.1 o9.cells 4 _ rfl) (wp_ifB (fun hx => ?_) fun hx => ?_)
   ·rw [r2] at hx
    have hx := of_decide_eq_true hx
    refine wp_ifB (fun hy => ?_) fun hy => s_ret ⟨rfl, Ext.refl _, false, rfl, Iff.intro (fun h => by cases h) fun h => ?_⟩
    ·rw [eqI_iff, natI_def] at hy
     dsimp only at hy
     have hlt : N < A.length := by omega
     have hone : (A.drop N).take 1 = [A.getD N 0] := by
      rw [List.drop_eq_getElem_cons hlt, List.getD_eq_getElem?_getD, List.getElem?_eq_getElem hlt]; rfl
     rw [hone] at oa
     refine s_at0 oa.lst (n := 0) (by simp) fun _ => s_ret ⟨rfl, Ext.refl _, _, rfl, ?_⟩
     show eqI (A.getD N 0) 10 = true ↔ _
     rw [eqI_iff]
     exact ⟨fun h => ⟨hx.2, h⟩, fun h => h.2⟩
    ·rw [eqI_not, natI_def] at hy
     dsimp only at hy
     have := h.2
     rw [getD_end (by omega)] at this
     omega
   ·rw [r2] at hx
    have hx := of_decide_eq_false hx
    exact s_ret ⟨rfl, Ext.refl _, false, rfl, Iff.intro (fun h => by cases h) fun h => absurd ⟨by omega, h.1⟩ hx⟩
  have o10 := o9.ext e10
  refine wp_ifB (fun hx => ?_) fun hx => ?_
  ·rw [if_pos (hb10.1 hx)] at hfin
   refine wp_load1 (b := .int .i64) _ _ rfl (cells_iff.1 o10.cells 0 _ rfl) ?_
   rw [r3, add_ok (by omega) (by omega)]
   exact s_ret ⟨rfl, (e08.trans e9).trans e10, ((N : Int) + 1, ()), rfl, fun h => absurd h hc, fun h => by omega, fun _ _ => hfin⟩
  ·rw [if_neg (fun h => by rw [hb10.2 h] at hx; cases hx)] at hfin
   refine wp_load1 (b := .int .i64) _ _ rfl (cells_iff.1 o10.cells 0 _ rfl) ?_
   rw [r3]
   exact s_ret ⟨rfl, (e08.trans e9).trans e10, ((N : Int), ()), rfl, fun h => absurd h hc, fun h => by omega, fun _ _ => hfin⟩
end Go.Sw.Piece

set_option linter.unusedVariables false
set_option linter.unusedSimpArgs false
set_option maxRecDepth 100000
namespace Go.Sw.Piece
open Go.Sw.Any Go.Sw.Codec
open Go.Sw.Tree (iv s_putAll s_newP s_getP s_getT s_putP eqI_self Placed cell_own wp_whileG minI_eq)
variable {P : Program} {S : Ids} {h : Heap} {Q : Nat → List Value → Heap → Prop}
def endsUp (A : List Int) : Nat → List Int
 | 0 => []
 | n + 1 => endsUp A n ++ if isE A n = true then [((n + 1 : Nat) : Int)] else []
theorem ends_succ (A : List Int) (n : Nat) : endsUp A (n + 1) = endsUp A n ++ if isE A n = true then [((n + 1 : Nat) : Int)] else [] := rfl
theorem ends_len (A : List Int) (n : Nat) : (endsUp A n).length = cntE A n := by
 induction n with
 | zero => rfl
 | succ n ih => rw [ends_succ, cntE_succ, List.length_append, ih]; split <;> rfl
theorem ends_at {A : List Int} : ∀ {n j : Nat}, j < cntE A n → ∃ p : Nat, (endsUp A n)[j]? = some (p : Int) ∧ 1 ≤ p ∧ p ≤ n ∧ cntE A p = j + 1 ∧ cntE A (p - 1) = j
 | 0, j, hj => by simp [cntE] at hj
 | n + 1, j, hj => by
  rw [ends_succ]
  by_cases h : j < cntE A n
  ·obtain ⟨p, h1, h2, h3, h4, h5⟩ := ends_at (A := A) h
   exact ⟨p, by rw [List.getElem?_append_left (List.getElem?_eq_some_iff.1 h1).1]; exact h1, h2, by omega, h4, h5⟩
  ·rw [cntE_succ] at hj
   by_cases he : isE A n = true
   ·rw [if_pos he] at hj
    have hjn : j = cntE A n := by omega
    refine ⟨n + 1, ?_, by omega, Nat.le_refl _, by rw [cntE_succ, if_pos he]; omega, by rw [Nat.add_sub_cancel]; omega⟩
    rw [if_pos he, List.getElem?_append_right (by rw [ends_len]; omega), ends_len, hjn, Nat.sub_self]; rfl
   ·rw [if_neg he] at hj; omega
end Go.Sw.Piece

set_option linter.unusedVariables false
set_option linter.unusedSimpArgs false
set_option maxRecDepth 100000
namespace Go.Sw.Piece
open Go.Sw.Any Go.Sw.Codec
open Go.Sw.Tree (iv s_putAll s_newP s_getP s_getT s_putP eqI_self Placed cell_own wp_whileG minI_eq)
variable {P : Program} {S : Ids} {h : Heap} {Q : Nat → List Value → Heap → Prop}
def nch (L sz : Nat) : Nat := (L + sz - 1) / sz
structure ChR (S : Ids) (Z : Nat → Prop) (h : Heap) (root : Option Addr) (t : Bt Part) (ps : List Pc) : Prop where
 nd : Nd (part S Z) h root t
 ls : t.list = ps.map (·.1)
 room : (part S Z).W t.list ≤ 4398046511104
 lst : ∀ q, q ∈ ps → Lst .u8 h q.1.1 q.2 ∧ ∀ a, q.1.1.base = some a → Z a.block ∧ a.block < h.size
 small : (bytesL ps).length ≤ 1099511627776
structure CS (J : Nat → Heap → Prop) (Z : Nat → Prop) (h0 h : Heap) (B : List Int) (sz : Nat) (y : Value) (n c : Nat) (s : Sl) (hp h' : Heap) : Prop where
 j : J c hp
 hp1 : h.size + 8 ≤ hp.size ∨ s.base = none
 hp0 : h.size ≤ hp.size
 chg : Chg (own h.size 8) hp h'
 held : Held Z h0 h'
 cy : Cel h.size h' ⟨h.size, 0, none⟩ y
 ca : Cel (h.size + 1) h' ⟨h.size + 1, 0, none⟩ (slv s)
 lo : c * sz ≤ n
 hi : n < c * sz + sz
 o : OwnL hp.size .u8 h' s ((B.drop (c * sz)).take (n - c * sz))
variable {J : Nat → Heap → Prop} {Z : Nat → Prop} {h0 hs hp h' : Heap} {B : List Int} {sz n c : Nat} {y : Value} {s : Sl}
end Go.Sw.Piece

set_option linter.unusedVariables false
set_option linter.unusedSimpArgs false
set_option maxRecDepth 100000
namespace Go.Sw.Piece
open Go.Sw.Any Go.Sw.Codec
open Go.Sw.Tree (iv s_putAll s_newP s_getP s_getT s_putP eqI_self Placed cell_own wp_whileG minI_eq)
variable {P : Program} {S : Ids} {h : Heap} {Q : Nat → List Value → Heap → Prop}
end Go.Sw.Piece

set_option linter.unusedVariables false
set_option linter.unusedSimpArgs false
set_option maxRecDepth 100000
namespace Go.Sw.Piece
open Go.Sw.Any Go.Sw.Codec
open Go.Sw.Tree (iv s_putAll s_newP s_getP s_getT s_putP eqI_self Placed cell_own wp_whileG minI_eq)
variable {P : Program} {S : Ids} {h : Heap} {Q : Nat → List Value → Heap → Prop}
end Go.Sw.Piece

set_option linter.unusedVariables false
set_option linter.unusedSimpArgs false
set_option maxRecDepth 100000
namespace Go.Sw.Piece
open Go.Sw.Any Go.Sw.Codec
open Go.Sw.Tree (iv s_putAll s_newP s_getP s_getT s_putP eqI_self Placed cell_own wp_whileG minI_eq)
variable {P : Program} {S : Ids} {h : Heap} {Q : Nat → List Value → Heap → Prop}
def partL (l : List Int) (a b : Int) : List Int := (l.take (min b l.length).toNat).drop (max a 0).toNat
theorem part_map (E : List El) (f : El → Int) (a b : Int) : (cutL E a b).map f = partL (E.map f) a b := by
 unfold cutL partL; rw [List.map_drop, List.map_take, List.length_map]
end Go.Sw.Piece

set_option linter.unusedVariables false
set_option linter.unusedSimpArgs false
set_option maxRecDepth 100000
namespace Go.Sw.Piece
open Go.Sw.Any Go.Sw.Codec
open Go.Sw.Tree (iv s_putAll s_newP s_getP s_getT s_putP eqI_self Placed cell_own wp_whileG minI_eq)
variable {P : Program} {S : Ids} {h : Heap} {Q : Nat → List Value → Heap → Prop}
theorem s_pushV {n bytes : Nat} {z v : Value} {o : Sl} {vs : List Value} {K : Sl → Prog} (ho : Own n 1 h o vs) (hn : n ≤ h.size) (hf : flat v = true) (hroom : (vs.length + 1) * bytes ≤ 140737488355328) (hlen : vs.length + 1 < 2 ^ 63)
  (hk : ∀ r h', Keep n h h' → Own n 1 h' r (vs ++ [v]) → Upd o h h' → (∀ a, r.base = some a → o.base = some a ∨ h.size ≤ a.block) → wp P (K r) h' Q) :
  wp P (.alloc [v] fun a => .append 1 bytes [z] o ⟨some a, 1, 1⟩ K) h Q := by
 have hl := ho.1
 rw [Nat.mul_one] at hl
 exact wp_push ho hn rfl (by intro x hx; rw [List.mem_singleton.1 hx]; exact hf) rfl (by rw [hl]; exact hroom) (by rw [hl]; exact hlen) fun r h' a b c d => hk r h' (Upd.keep ho hn c) a c d
theorem s_ldV {n i : Nat} {b : B} {w : Sl} {vs : List Value} {x : b.den} {K : b.den → Prog} (o : Own n 1 h w vs) (hi : vs[i]? = some (b.inj x)) (hk : wp P (K x) h Q) :
  wp P (grd (andB (someB w.base) (inB (i : Int) w.len)) <| .load (.one b) (shiftTo w.base (mulN (toN (i : Int)) 1)) K) h Q := by
 obtain ⟨a, ea, c⟩ := o.rd.2 i _ hi
 have hl := o.1
 have hlt := (List.getElem?_eq_some_iff.1 hi).1
 refine wp_grd (andB_iff.2 ⟨by simp [someB, ea], inB_is.2 ⟨by omega, by omega⟩⟩) ?_
 exact wp_load1 (a.add i) x (by simp [shiftTo, ea, mulN, toN]) c hk
structure CkI (h0 : Heap) (B : List Int) (sz i : Nat) (h : Heap) (o c : Sl) (ss : List Sl) : Prop where
 e : Ext h0 h
 oo : Own h0.size 1 h o (ss.map fun x => slv x)
 oc : OwnL h0.size .u8 h c ((B.drop (ss.length * sz)).take (i - ss.length * sz))
 el : ∀ (j : Nat) (x : Sl), ss[j]? = some x → OwnL h0.size .u8 h x ((B.drop (j * sz)).take sz)
 dc : ∀ a b, c.base = some a → o.base = some b → b.block ≠ a.block
 de : ∀ x, x ∈ ss → ∀ a, x.base = some a → (∀ b, c.base = some b → b.block ≠ a.block) ∧ ∀ b, o.base = some b → b.block ≠ a.block
 few : ss.length ≤ i
 pos : (i < B.length → ss.length * sz ≤ i ∧ i < ss.length * sz + sz) ∧ (i = B.length → ss.length = nch B.length sz)
structure CbI (hc : Heap) (aN aS : Addr) (k : Nat) (st : Bool) (h' : Heap) : Prop where
 c : Chg (fun i => i = aN.block ∨ i = aS.block) hc h'
 n : Cel 0 h' aN (i64v k)
 s : Cel 0 h' aS (.bool st)
end Go.Sw.Piece

set_option linter.unusedVariables false
set_option linter.unusedSimpArgs false
set_option maxRecDepth 100000
namespace Go.Sw.Piece
open Go.Sw.Any Go.Sw.Codec
open Go.Sw.Tree (iv s_putAll s_newP s_getP s_getT s_putP eqI_self Placed cell_own wp_whileG minI_eq)
variable {P : Program} {S : Ids} {h : Heap} {Q : Nat → List Value → Heap → Prop}
def nB (A : List Int) : Nat := cntE A A.length
def endN (A : List Int) (j : Nat) : Nat := ((endsUp A A.length).getD j 0).toNat
def startN (A : List Int) (i : Nat) : Nat := if i = 0 then 0 else endN A (i - 1)
abbrev LnD := Int × Int × Int × Int × Unit
def brkN (A : List Int) (x : Nat) : Nat := if A.getD (x - 1) 0 = 13 then 3 else if 2 ≤ x ∧ A.getD (x - 2) 0 = 13 then 2 else 1
def lineD (A : List Int) (i : Nat) : LnD :=
 if i < nB A then ((startN A i : Int), ((endN A i - (if brkN A (endN A i) = 2 then 2 else 1) : Nat) : Int), (endN A i : Int), (brkN A (endN A i) : Int), ())
 else ((startN A i : Int), (A.length : Int), (A.length : Int), 0, ())
def nLines (A : List Int) : Nat := if A.length = 0 ∨ startN A (nB A) < A.length then nB A + 1 else nB A
theorem end_at {A : List Int} {j : Nat} (hj : j < nB A) : (endsUp A A.length)[j]? = some (endN A j : Int) ∧ 1 ≤ endN A j ∧ endN A j ≤ A.length ∧ cntE A (endN A j) = j + 1 ∧ cntE A (endN A j - 1) = j := by
 obtain ⟨p, h1, h2, h3, h4, h5⟩ := ends_at (A := A) (n := A.length) (j := j) hj
 have : endN A j = p := by unfold endN; rw [List.getD_eq_getElem?_getD, h1]; simp
 rw [this]; exact ⟨h1, h2, h3, h4, h5⟩
theorem start_at {A : List Int} {i : Nat} (hi : i ≤ nB A) : startN A i ≤ A.length ∧ cntE A (startN A i) = i := by
 unfold startN
 split
 ·rename_i h; exact ⟨Nat.zero_le _, h.symm⟩
 ·obtain ⟨_, h2, h3, h4, _⟩ := end_at (A := A) (j := i - 1) (by omega)
  exact ⟨h3, by omega⟩
theorem start_succ (A : List Int) (i : Nat) : startN A (i + 1) = endN A i := if_neg (by omega)
theorem cnt_lt {A : List Int} {m n : Nat} (h : cntE A m < cntE A n) : m < n := by
 by_cases hm : m < n
 ·exact hm
 ·have := cntE_mono A (show n ≤ m by omega); omega
theorem start_lt {A : List Int} {i : Nat} (hi : i < nB A) : startN A i < endN A i := by
 have h1 := start_at (A := A) (i := i) (by omega)
 have h2 := end_at hi
 exact cnt_lt (A := A) (by omega)
theorem end_is {A : List Int} {j : Nat} (hj : j < nB A) : isE A (endN A j - 1) = true := by
 obtain ⟨_, h2, h3, h4, h5⟩ := end_at hj
 have h := cntE_succ A (endN A j - 1)
 rw [show endN A j - 1 + 1 = endN A j by omega, h4, h5] at h
 by_cases he : isE A (endN A j - 1) = true
 ·exact he
 ·rw [if_neg he] at h; omega
theorem isE_is {A : List Int} {i : Nat} : isE A i = true ↔ (A.getD i 0 = 10 ∨ (A.getD i 0 = 13 ∧ A.getD (i + 1) 0 ≠ 10)) := decide_eq_true_iff
theorem start_seam {A : List Int} {i : Nat} (hi : i ≤ nB A) (h1 : 1 ≤ startN A i) (h13 : A.getD (startN A i - 1) 0 = 13) : A.getD (startN A i) 0 ≠ 10 := by
 have hi0 : i ≠ 0 := fun h => by subst h; exact absurd h1 (by unfold startN; rw [if_pos rfl]; decide)
 have he : startN A i = endN A (i - 1) := if_neg hi0
 have h := isE_is.1 (end_is (A := A) (j := i - 1) (by omega))
 rw [← he, h13, show startN A i - 1 + 1 = startN A i by omega] at h
 rcases h with h | h
 ·exact absurd h (by decide)
 ·exact h.2
theorem crlf_in {A : List Int} {i : Nat} (hi : i < nB A) (h2 : 2 ≤ endN A i) (h13 : A.getD (endN A i - 2) 0 = 13) (h10 : A.getD (endN A i - 1) 0 ≠ 13) : startN A i ≤ endN A i - 2 := by
 have h := isE_is.1 (end_is hi)
 have h10 : A.getD (endN A i - 1) 0 = 10 := by rcases h with h | h; exact h; exact absurd h.1 h10
 have hlt := start_lt hi
 by_cases hs : startN A i ≤ endN A i - 2
 ·exact hs
 ·have hs1 : startN A i = endN A i - 1 := by omega
  have := start_seam (A := A) (i := i) (by omega) (by omega) (by rw [hs1, show endN A i - 1 - 1 = endN A i - 2 by omega]; exact h13)
  rw [hs1] at this
  exact absurd h10 this
theorem seek_is {A : List Int} {k y : Int} (h0 : 0 ≤ k) (hk : k ≤ nB A) (z : k = 0 → y = 0) (s : 0 < k → k ≤ nB A → SeekP A k y) : y = (startN A k.toNat : Int) := by
 by_cases hk0 : k = 0
 ·rw [z hk0, hk0]; rfl
 ·have h := s (by omega) hk
  obtain ⟨_, h2, h3, h4, h5⟩ := end_at (A := A) (j := k.toNat - 1) (by omega)
  have hs : startN A k.toNat = endN A (k.toNat - 1) := if_neg (by omega)
  rw [hs]
  exact h.fn ⟨endN A (k.toNat - 1), rfl, h2, h3, by omega, by omega⟩
def txA (T : TX) : List Int := (els T.enc T.cur.ps).map (·.1)
theorem txA_len (T : TX) : (txA T).length = (els T.enc T.cur.ps).length := List.length_map ..
theorem nB_txA (T : TX) : nB (txA T) = cntE ((els T.enc T.cur.ps).map (·.1)) (els T.enc T.cur.ps).length := by unfold nB; rw [txA_len]; rfl
theorem c_lSeek (M : Meth0 P S) (C : Cl0 P S) {n : Nat} {T : TX} {k : Int} (t : TextR S n h T) :
  Gives P (F_Text_Seek S (some T.p) k) [.one (.int .i64)] h fun (y : Int × Unit) _ => (0 ≤ k ∧ k ≤ nB (txA T) → y.1 = (startN (txA T) k.toNat : Int)) ∧ (¬ (0 ≤ k ∧ k ≤ nB (txA T)) → y.1 = -1) :=
 (c_Seek M C t).mono fun y h' e ⟨h1, h2, h3⟩ => by
  rw [← nB_txA] at h2 h3
  exact ⟨fun ⟨a, b⟩ => seek_is (A := txA T) a b h1 h3, fun hn => h2 (by by_cases h : k < 0; exact .inl h; exact .inr (by omega))⟩
theorem c_lBreaks (M : Meth0 P S) (C : Cl0 P S) {n : Nat} {T : TX} (t : TextR S n h T) : Gives P (F_Text_Breaks S (some T.p) ((els T.enc T.cur.ps).length : Int)) [.one (.int .i64)] h fun (y : Int × Unit) _ => y.1 = nB (txA T) := by
 have := (t.cur.few t.lim.2).1
 have hl := els_len T.enc T.cur.ps
 refine (c_Breaks M C t (fits_i64.2 (by omega))).mono fun y h' e hy => ?_
 rw [hy, nB_txA, show (min (max (((els T.enc T.cur.ps).length : Nat) : Int) 0) (els T.enc T.cur.ps).length).toNat = (els T.enc T.cur.ps).length by omega]
theorem c_closed (M : Meth0 P S) (C : Cl0 P S) {n i : Nat} {T : TX} (t : TextR S n h T) (hi : i < nB (txA T)) :
  Gives P (F_lines_closed S (some T.p) (startN (txA T) i : Int) (endN (txA T) i : Int)) [.agg [.int .i64, .int .i64, .int .i64, .int .i64]] h fun (y : LnD × Unit) _ => y.1 = lineD (txA T) i := by
 unfold F_lines_closed Gives
 obtain ⟨_, e1, e2, _, _⟩ := end_at hi
 have hst := start_lt hi
 have hcr := crlf_in hi
 have hbig := (t.cur.few t.lim.2).1
 have hel := els_len T.enc T.cur.ps
 have hAl := txA_len T
 unfold lineD
 rw [if_pos hi]
 unfold brkN
 refine s_newO (bs := [.int .i64, .int .i64, .int .i64, .int .i64]) (0, 0, 0, 0, ()) (by decide) fun h1 ex o1 => ?_
 rw [sub_ok (by omega) (by omega), maxI_eq]
 refine wp_call (c_Atoms M C (t.ext ex) (fits_i64.2 (by omega))) fun ⟨(s : Sl), _⟩ h2 ex2 os => ?_
 have os : OwnL h1.size .i64 h2 s ((cutL (els T.enc T.cur.ps) (max (startN (txA T) i : Int) ((endN (txA T) i : Int) - 2)) (endN (txA T) i : Int)).map (·.1)) := os
 rw [part_map] at os
 have hA : (els T.enc T.cur.ps).map (fun x : El => x.1) = txA T := rfl
 rw [hA] at os
 generalize txA T = A at *
 generalize endN A i = x at *
 generalize startN A i = f at *
 have hp : partL A (max (f : Int) ((x : Int) - 2)) (x : Int) = (A.take x).drop (max f (x - 2)) := by
  unfold partL
  rw [show (min (x : Int) A.length).toNat = x by omega, show (max (max (f : Int) ((x : Int) - 2)) 0).toNat = max f (x - 2) by omega]
 rw [hp] at os
 have hll : ((A.take x).drop (max f (x - 2))).length = x - max f (x - 2) := by rw [List.length_drop, List.length_take]; omega
 have hge : ∀ j, j < x - max f (x - 2) → ((A.take x).drop (max f (x - 2))).getD j 0 = A.getD (max f (x - 2) + j) 0 := fun j hj => by
  rw [List.getD_eq_getElem?_getD, List.getElem?_drop, List.getElem?_take, if_pos (by omega), ← List.getD_eq_getElem?_getD]
 have ls := os.len
 rw [hll] at ls
 have tell : ∀ {h' : Heap} (y : LnD), Own h.size 1 h' ⟨some ⟨h.size, 0, none⟩, 4, 4⟩ (Bs.inj [.int .i64, .int .i64, .int .i64, .int .i64] ((0, 0, 0, 0, ()) : LnD)) → Ext h h' → ∀ z : LnD, y = z → wp P (.store (some ⟨h.size, 0, none⟩) (Bs.inj [.int .i64, .int .i64, .int .i64, .int .i64] y) <| .load (.agg [.int .i64, .int .i64, .int .i64, .int .i64]) (some ⟨h.size, 0, none⟩) fun (r : LnD) => .ret 0 [.agg (Bs.inj [.int .i64, .int .i64, .int .i64, .int .i64] r).toArray]) h'
   (fun tag vs h'' => tag = 0 ∧ Ext h h'' ∧ ∃ w : LnD × Unit, vs = Ts.inj [.agg [.int .i64, .int .i64, .int .i64, .int .i64]] w ∧ w.1 = z) := fun {h'} y o e z hz =>
  s_tellO (bs := [.int .i64, .int .i64, .int .i64, .int .i64]) (x := ((0, 0, 0, 0, ()) : LnD)) y o (Nat.le_refl _) e (by intro v hv; simp [Bs.inj] at hv; rcases hv with rfl | rfl | rfl | rfl <;> rfl) fun h'' e' => ⟨rfl, e', (y, ()), rfl, hz⟩
 have hsub : subI .i64 (natI s.len) 1 = ((x - max f (x - 2) - 1 : Nat) : Int) := by rw [natI_def, ls, sub_ok (by omega) (by omega)]; omega
 rw [hsub]
 refine s_at os.lst (by omega) (by omega) fun _ => ?_
 rw [Int.toNat_natCast, hge _ (by omega), show max f (x - 2) + (x - max f (x - 2) - 1) = x - 1 by omega]
 refine wp_ifB (fun hc => ?_) fun hc => ?_
 ·rw [eqI_iff] at hc
  have h13 : ¬ ((if A.getD (x - 1) 0 = 13 then 3 else if 2 ≤ x ∧ A.getD (x - 2) 0 = 13 then 2 else 1) = 2) := by rw [if_pos hc]; decide
  rw [sub_ok (by omega) (by omega)]
  refine tell ((f : Int), (x : Int) - 1, (x : Int), 3, ()) (o1.ext ex2) (ex.trans ex2) _ ?_
  rw [if_neg h13, if_pos hc, show ((x - 1 : Nat) : Int) = (x : Int) - 1 by omega]; rfl
 rw [eqI_not] at hc
 refine bind_bool (2 ≤ x ∧ A.getD (x - 2) 0 = 13) ?_ fun bb h3 ex3 hb3 => wp_ifB (fun hd => ?_) fun hd => ?_
 ·refine wp_ifB (fun hd => ?_) fun hd => s_ret ⟨rfl, Ext.refl _, false, rfl, Iff.intro (fun h => by cases h) fun h => ?_⟩
  ·rw [gtI_iff] at hd
   have hsub2 : subI .i64 ((x - max f (x - 2) - 1 : Nat) : Int) 1 = ((x - max f (x - 2) - 2 : Nat) : Int) := by rw [sub_ok (by omega) (by omega)]; omega
   rw [hsub2]
   refine s_at os.lst (by omega) (by omega) fun _ => s_ret ⟨rfl, Ext.refl _, _, rfl, ?_⟩
   rw [Int.toNat_natCast, hge _ (by omega), show max f (x - 2) + (x - max f (x - 2) - 2) = x - 2 by omega, eqI_iff]
   exact ⟨fun h => ⟨by omega, h⟩, fun h => h.2⟩
  ·rw [gtI_not] at hd
   have := hcr h.1 h.2 hc
   omega
 ·have hd := hb3.1 hd
  refine tell ((f : Int), (x : Int) - 2, (x : Int), 2, ()) ((o1.ext ex2).ext ex3) ((ex.trans ex2).trans ex3) _ ?_
  rw [if_neg hc, if_pos hd, if_pos rfl, show ((x - 2 : Nat) : Int) = (x : Int) - 2 by omega]; rfl
 ·have hd : ¬ (2 ≤ x ∧ A.getD (x - 2) 0 = 13) := fun h => by have hd : bb = false := hd; rw [hb3.2 h] at hd; cases hd
  rw [sub_ok (by omega) (by omega)]
  refine tell ((f : Int), (x : Int) - 1, (x : Int), 1, ()) ((o1.ext ex2).ext ex3) ((ex.trans ex2).trans ex3) _ ?_
  rw [if_neg hc, if_neg hd, if_neg (by decide), show ((x - 1 : Nat) : Int) = (x : Int) - 1 by omega]; rfl
end Go.Sw.Piece

set_option linter.unusedVariables false
set_option linter.unusedSimpArgs false
set_option maxRecDepth 100000
namespace Go.Sw.Piece
open Go.Sw.Any Go.Sw.Codec
open Go.Sw.Tree (iv s_putAll s_newP s_getP s_getT s_putP eqI_self Placed cell_own wp_whileG minI_eq)
variable {P : Program} {S : Ids} {h : Heap} {Q : Nat → List Value → Heap → Prop}
abbrev b4 : List B := [.int .i64, .int .i64, .int .i64, .int .i64]
abbrev t4 : Ty := .agg b4
abbrev Own4 (m : Nat) (h : Heap) (a : Addr) (x : LnD) : Prop := Own m 1 h ⟨some a, 4, 4⟩ (Bs.inj b4 x)
theorem flat4 {x : LnD} : ∀ v, v ∈ Bs.inj b4 x → flat v = true := by intro v hv; simp [Bs.inj] at hv; rcases hv with rfl | rfl | rfl | rfl <;> rfl
theorem s_new4 (x : LnD) {K : Addr → Prog} (hk : ∀ h', Ext h h' → Own4 h.size h' ⟨h.size, 0, none⟩ x → wp P (K ⟨h.size, 0, none⟩) h' Q) : wp P (.alloc (Bs.inj b4 x) K) h Q := s_newO (bs := b4) x (by decide) hk
theorem s_sto4 {m : Nat} {a : Addr} {x : LnD} (y : LnD) {K : Prog} (o : Own4 m h a x) (hk : ∀ h', Own4 m h' a y → Upd ⟨some a, 4, 4⟩ h h' → wp P K h' Q) : wp P (.store (some a) (Bs.inj b4 y) K) h Q := s_stoO (bs := b4) y o flat4 hk
theorem s_put4 {m : Nat} {h0 : Heap} {a : Addr} {x : LnD} (y : LnD) {K : LnD → Prog} (o : Own4 m h a x) (e : Ext h0 h) (hm : h0.size ≤ m) (hk : ∀ h', Own4 m h' a y → Ext h0 h' → wp P (K y) h' Q) : wp P (.store (some a) (Bs.inj b4 y) <| .load t4 (some a) K) h Q :=
 s_sto4 y o fun h' o' u => s_getO (bs := b4) o' (hk h' o' (Upd.extN e u (by intro z hz; cases hz; have := (o.lt rfl).1; omega)))
theorem s_newput4 (z y : LnD) {K : Addr → Prog} (hk : ∀ h', Ext h h' → Own4 h.size h' ⟨h.size, 0, none⟩ y → wp P (K ⟨h.size, 0, none⟩) h' Q) : wp P (.alloc (Bs.inj b4 z) fun a => .store (some a) (Bs.inj b4 y) (K a)) h Q := s_putO (bs := b4) y (by decide) flat4 hk
abbrev z4 : LnD := (0, 0, 0, 0, ())
def AtR (A : List Int) (line : Int) (y : LnD × Int × Unit) : Prop := (0 ≤ line ∧ line ≤ nB A → y.1 = lineD A line.toNat ∧ y.2.1 = 0) ∧ (¬ (0 ≤ line ∧ line ≤ nB A) → y.1 = z4 ∧ y.2.1 = 2)
theorem c_lAt (M : Meth0 P S) (C : Cl0 P S) {n : Nat} {T : TX} {line : Int} (t : TextR S n h T) : Gives P (F_lines_At S (some T.p) line) [t4, .one (.int .i64)] h fun (y : LnD × Int × Unit) _ => AtR (txA T) line y := by
 unfold F_lines_At Gives
 have hAl := txA_len T
 have hbig := (t.cur.few t.lim.2).1
 have hel := els_len T.enc T.cur.ps
 have hnB : nB (txA T) ≤ (txA T).length := cntE_le _ _
 refine s_new4 z4 fun h1 e1 o1 => ?_
 refine wp_ifB (fun hc => ?_) fun hc => ?_
 ·rw [ltI_iff] at hc
  exact s_put4 z4 o1 e1 (Nat.le_refl _) fun h' o' e' => s_ret ⟨rfl, e', (z4, 2, ()), rfl, fun h => by omega, fun _ => ⟨rfl, rfl⟩⟩
 rw [ltI_not] at hc
 refine wp_call (c_lSeek M C (t.ext e1)) fun ⟨(f : Int), _⟩ h2 e2 ⟨hf1, hf2⟩ => ?_
 have hf1 : 0 ≤ line ∧ line ≤ nB (txA T) → f = (startN (txA T) line.toNat : Int) := hf1
 have hf2 : ¬ (0 ≤ line ∧ line ≤ nB (txA T)) → f = -1 := hf2
 have e02 := e1.trans e2
 refine wp_ifB (fun hd => ?_) fun hd => ?_
 ·rw [ltI_iff] at hd
  have hd : f < 0 := hd
  have hn : ¬ (0 ≤ line ∧ line ≤ nB (txA T)) := fun h => by have := hf1 h; omega
  exact s_put4 z4 (o1.ext e2) e02 (Nat.le_refl _) fun h' o' e' => s_ret ⟨rfl, e', (z4, 2, ()), rfl, fun h => absurd h hn, fun _ => ⟨rfl, rfl⟩⟩
 rw [ltI_not] at hd
 have hd : 0 ≤ f := hd
 have hin : 0 ≤ line ∧ line ≤ nB (txA T) := Classical.byContradiction fun h => by have := hf2 h; omega
 have hff := hf1 hin
 subst hff
 refine wp_call (c_Len (t.ext e02)) fun ⟨(L : Int), _⟩ h3 e3 hL => ?_
 have hL : L = (els T.enc T.cur.ps).length := hL
 subst hL
 refine wp_call (c_lBreaks M C ((t.ext e02).ext e3)) fun ⟨(B : Int), _⟩ h4 e4 hB => ?_
 have hB : B = nB (txA T) := hB
 subst hB
 have e24 := e3.trans e4
 have e04 := e02.trans e24
 have t4' := t.ext e04
 refine wp_ifB (fun hlt => ?_) fun hlt => ?_
 ·rw [ltI_iff] at hlt
  have hlt : line < nB (txA T) := hlt
  rw [add_ok (by omega) (by omega)]
  refine wp_call (c_lSeek M C (k := line + 1) t4') fun ⟨(g : Int), _⟩ h5 e5 ⟨hg, _⟩ => ?_
  have hg : g = (startN (txA T) (line + 1).toNat : Int) := hg ⟨by omega, by omega⟩
  rw [show (line + 1).toNat = line.toNat + 1 by omega, start_succ] at hg
  subst hg
  refine wp_call (c_closed M C (i := line.toNat) (t4'.ext e5) (by omega)) fun ⟨(y : LnD), _⟩ h6 e6 hy => ?_
  have hy : y = lineD (txA T) line.toNat := hy
  exact s_put4 y ((o1.ext e2).ext (e24.trans (e5.trans e6))) (e04.trans (e5.trans e6)) (Nat.le_refl _) fun h' o' e' => s_ret ⟨rfl, e', (y, 0, ()), rfl, fun _ => ⟨hy, rfl⟩, fun h => absurd hin h⟩
 ·rw [ltI_not] at hlt
  have hlt : (nB (txA T) : Int) ≤ line := hlt
  refine wp_call (c_Len t4') fun ⟨(L : Int), _⟩ h5 e5 hL => ?_
  have hL : L = (els T.enc T.cur.ps).length := hL
  refine wp_call (c_Len (t4'.ext e5)) fun ⟨(L2 : Int), _⟩ h6 e6 hL2 => ?_
  have hL2 : L2 = (els T.enc T.cur.ps).length := hL2
  refine s_put4 ((startN (txA T) line.toNat : Int), L, L2, 0, ()) ((o1.ext e2).ext (e24.trans (e5.trans e6))) (e04.trans (e5.trans e6)) (Nat.le_refl _) fun h' o' e' => s_ret ⟨rfl, e', (_, 0, ()), rfl, fun _ => ⟨?_, rfl⟩, fun h => absurd hin h⟩
  unfold lineD
  rw [if_neg (by omega), hL, hL2, ← hAl]
theorem c_ended (M : Meth0 P S) (C : Cl0 P S) {n : Nat} {T : TX} (t : TextR S n h T) : Gives P (F_lines_ended S (some T.p)) [.one .bool] h fun (y : Bool × Unit) _ => (y.1 = true ↔ 0 < (txA T).length ∧ startN (txA T) (nB (txA T)) = (txA T).length) := by
 unfold F_lines_ended Gives
 have hAl := txA_len T
 have hnB : nB (txA T) ≤ (txA T).length := cntE_le _ _
 refine wp_call (c_Len t) fun ⟨(L : Int), _⟩ h1 e1 hL => ?_
 have hL : L = (els T.enc T.cur.ps).length := hL
 subst hL
 refine bind_bool (0 < (txA T).length ∧ startN (txA T) (nB (txA T)) = (txA T).length) ?_ fun bb h2 e2 hb2 => s_ret ⟨rfl, e1.trans e2, (bb, ()), rfl, hb2⟩
 refine wp_ifB (fun hc => ?_) fun hc => s_ret ⟨rfl, Ext.refl _, false, rfl, Iff.intro (fun h => by cases h) fun h => ?_⟩
 ·refine wp_call (c_lBreaks M C (t.ext e1)) fun ⟨(B : Int), _⟩ h2 e2 hB => ?_
  have hB : B = nB (txA T) := hB
  subst hB
  refine wp_call (c_lSeek M C ((t.ext e1).ext e2)) fun ⟨(f : Int), _⟩ h3 e3 ⟨hf, _⟩ => s_ret ⟨rfl, e2.trans e3, _, rfl, ?_⟩
  have hf : f = (startN (txA T) ((nB (txA T) : Int)).toNat : Int) := hf ⟨by omega, by omega⟩
  rw [Int.toNat_natCast] at hf
  rw [eqI_iff]
  rw [gtI_iff] at hc
  dsimp only at hc ⊢
  rw [hf]
  exact ⟨fun h => ⟨by omega, by omega⟩, fun h => by omega⟩
 ·rw [gtI_not] at hc
  dsimp only at hc
  omega
theorem c_lCount (M : Meth0 P S) (C : Cl0 P S) {n : Nat} {T : TX} (t : TextR S n h T) : Gives P (F_lines_Count S (some T.p)) [.one (.int .i64)] h fun (y : Int × Unit) _ => y.1 = nLines (txA T) := by
 unfold F_lines_Count Gives
 have hAl := txA_len T
 have hbig := (t.cur.few t.lim.2).1
 have hel := els_len T.enc T.cur.ps
 have hnB : nB (txA T) ≤ (txA T).length := cntE_le _ _
 have hst := (start_at (A := txA T) (Nat.le_refl (nB (txA T)))).1
 refine wp_call (c_Len t) fun ⟨(L : Int), _⟩ h1 e1 hL => ?_
 have hL : L = (els T.enc T.cur.ps).length := hL
 subst hL
 refine wp_call (c_lBreaks M C (t.ext e1)) fun ⟨(B : Int), _⟩ h2 e2 hB => ?_
 have hB : B = nB (txA T) := hB
 subst hB
 refine bind_val (tys := [.one (.int .i64)]) (fun (x : Int × Unit) _ => x.1 = nLines (txA T)) ?_ fun ⟨(z : Int), _⟩ h3 e3 hz => s_ret ⟨rfl, (e1.trans e2).trans e3, (z, ()), rfl, hz⟩
 refine wp_call (c_ended M C ((t.ext e1).ext e2)) fun ⟨(b : Bool), _⟩ h3 e3 hb => ?_
 have hb : b = true ↔ _ := hb
 refine wp_ifB (fun hc => ?_) fun hc => s_ret ⟨rfl, e3, (_, ()), rfl, ?_⟩
 ·rw [notB_iff] at hc
  have hc : b = false := hc
  have hn : ¬ (0 < (txA T).length ∧ startN (txA T) (nB (txA T)) = (txA T).length) := fun h => by rw [hb.2 h] at hc; cases hc
  rw [add_ok (by dsimp only; omega) (by dsimp only; omega)]
  refine s_ret ⟨rfl, e3, (_, ()), rfl, ?_⟩
  show (nB (txA T) : Int) + 1 = _
  unfold nLines
  rw [if_pos (by omega)]; rfl
 ·rw [notB_not] at hc
  have hn := hb.1 hc
  show (nB (txA T) : Int) = _
  unfold nLines
  rw [if_neg (by omega)]
theorem c_lOf (M : Meth0 P S) (C : Cl0 P S) {n : Nat} {T : TX} {at_ : Int} (t : TextR S n h T) : Gives P (F_lines_Of S (some T.p) at_) [.one (.int .i64)] h fun (y : Int × Unit) _ => y.1 = cntE (txA T) (min (max at_ 0) (txA T).length).toNat := by
 unfold F_lines_Of Gives
 have hAl := txA_len T
 have hbig := (t.cur.few t.lim.2).1
 have hel := els_len T.enc T.cur.ps
 refine wp_call (c_Len t) fun ⟨(L : Int), _⟩ h1 e1 hL => ?_
 have hL : L = (els T.enc T.cur.ps).length := hL
 subst hL
 rw [maxI_eq, minI_eq]
 refine wp_call (c_Breaks M C (t.ext e1) (fits_i64.2 (by omega))) fun ⟨(z : Int), _⟩ h2 e2 hz => s_ret ⟨rfl, e1.trans e2, (z, ()), rfl, ?_⟩
 have hz : z = cntE (txA T) (min (max (min (max at_ 0) ((els T.enc T.cur.ps).length : Int)) 0) (els T.enc T.cur.ps).length).toNat := hz
 show z = _
 rw [hz, show (min (max (min (max at_ 0) ((els T.enc T.cur.ps).length : Int)) 0) (els T.enc T.cur.ps).length).toNat = (min (max at_ 0) (txA T).length).toNat by omega]
def nativeF (A : List Int) (fb : Int) : Int := if (lineD A 0).2.2.2.1 ≠ 0 then (lineD A 0).2.2.2.1 else fb
theorem c_lNative (M : Meth0 P S) (C : Cl0 P S) {n : Nat} {T : TX} {fb : Int} (t : TextR S n h T) : Gives P (F_lines_Native S (some T.p) fb) [.one (.int .i64)] h fun (y : Int × Unit) _ => y.1 = nativeF (txA T) fb := by
 unfold F_lines_Native Gives
 refine wp_call (c_lAt M C (line := Int.ofNat 0) t) fun ⟨(y : LnD), (e : Int), _⟩ h1 e1 hy => ?_
 obtain ⟨hy', he⟩ := hy.1 ⟨Int.le_refl _, Int.natCast_nonneg _⟩
 replace hy : y = lineD (txA T) 0 := hy'
 have he : e = 0 := he
 subst he
 refine s_newput4 z4 y fun h2 e2 o2 => ?_
 refine bind_bool (y.2.2.2.1 ≠ 0) ?_ fun bb h3 e3 hb3 => wp_ifB (fun hx => s_cell (b := .int .i64) y.2.2.2.1 rfl (o2.ext e3).cells rfl (s_ret ⟨rfl, (e1.trans e2).trans e3, (_, ()), rfl, ?_⟩)) fun hx => s_ret ⟨rfl, (e1.trans e2).trans e3, (_, ()), rfl, ?_⟩
 ·refine wp_ifB (fun _ => s_cell (b := .int .i64) y.2.2.2.1 rfl o2.cells rfl (s_ret ⟨rfl, Ext.refl _, _, rfl, neI_iff⟩)) fun hc => ?_
  rw [eqI_not] at hc; exact absurd rfl hc
 ·have hx := hb3.1 hx
  show y.2.2.2.1 = _
  unfold nativeF
  rw [← hy, if_pos hx]
 ·have hx : ¬ (y.2.2.2.1 ≠ 0) := fun h => by have hx : bb = false := hx; rw [hb3.2 h] at hx; cases hx
  show fb = _
  unfold nativeF
  rw [← hy, if_neg hx]
structure ClL (P : Program) (S : Ids) : Prop where
 all : ∀ (y : Value) (a : Option Addr), Dyn P (.func (.func S.f_lines_All_1) #[] #[.pointer a]) [y] (F_lines_All_1 S y a)
theorem nLines_le (A : List Int) : 1 ≤ nLines A ∧ nLines A ≤ nB A + 1 ∧ (nLines A = nB A → startN A (nB A) = A.length ∧ A.length ≠ 0) ∧ nB A ≤ nLines A := by
 have h1 := (start_at (A := A) (Nat.le_refl (nB A))).1
 unfold nLines
 split
 ·exact ⟨by omega, by omega, fun h => by omega, by omega⟩
 ·rename_i hn
  have : nB A ≠ 0 := fun h => by
   rw [h] at hn
   have : startN A 0 = 0 := rfl
   omega
  exact ⟨by omega, by omega, fun _ => ⟨by omega, by omega⟩, by omega⟩
theorem told_ne {A : List Int} {i : Nat} (hi : i < nLines A) (h0 : 0 < i) : (lineD A i).2.1 ≠ (lineD A i).1 ∨ (lineD A i).2.2.2.1 ≠ 0 := by
 unfold lineD
 split
 ·rename_i hlt
  refine .inr ?_
  show ((brkN A (endN A i) : Nat) : Int) ≠ 0
  unfold brkN
  split
  ·decide
  ·split <;> decide
 ·rename_i hlt
  refine .inl ?_
  have h1 := nLines_le A
  have hiB : i = nB A := by omega
  subst hiB
  unfold nLines at hi
  split at hi
  ·rename_i hh
   rcases hh with hh | hh
   ·have : nB A = 0 := by unfold nB; rw [hh]; rfl
    omega
   ·show (A.length : Int) ≠ (startN A (nB A) : Int); omega
  ·omega
def AL2 (A : List Int) (k : Nat) (_ _ : Heap) (args : List Value) : Prop := args = Ts.inj [.one (.int .i64), t4] (((k : Nat) : Int), lineD A k, ())
theorem iter_lines (M : Meth0 P S) (C : Cl0 P S) (L : ClL P S) {n : Nat} {T : TX} {Z : Nat → Prop} {h0 : Heap} {a1 : Addr} (t : TextR S n h0 T) (hz : ∀ i, T.Z i → Z i) (c1 : Sw.cell h0 a1 = some (.pointer (some T.p))) (z1 : Z a1.block) :
  IterG P (.func (.func S.f_lines_All_1) #[] #[.pointer (some a1)]) (nLines (txA T)) (AL2 (txA T)) Z 0 h0 := by
 intro h y J F hs hzz fy sJ sF hY j0
 refine L.all y (some a1) h _ ?_
 unfold F_lines_All_1
 have hN := nLines_le (txA T)
 have hnB : nB (txA T) ≤ (txA T).length := cntE_le _ _
 have hAl := txA_len T
 have hbig := (t.cur.few t.lim.2).1
 have hel := els_len T.enc T.cur.ps
 have text : ∀ {h' : Heap}, Held Z h0 h' → TextR S n h' T := fun {h'} u => by
  refine t.chg (F := fun i => ¬ Z i) (u.to_chg fun i hi hf => Classical.byContradiction fun k => hf k) fun i hi hf => hf (hz i hi)
 have cell1 : ∀ {h' : Heap}, Held Z h0 h' → Sw.cell h' a1 = some (.pointer (some T.p)) := fun u => u.cell c1 z1
 refine wp_while (fun (r : Int × Unit) h' => ∃ i : Nat, r.1 = (i : Int) ∧ i ≤ nLines (txA T) ∧ J i h' ∧ Held Z h0 h' ∧ h.size ≤ h'.size) (fun r _ => (nLines (txA T) + 1 - r.1).toNat)
  (fun tag vs h' => tag = 1 ∧ vs = [] ∧ h.size ≤ h'.size ∧ Held Z h0 h' ∧ (J (nLines (txA T)) h' ∨ F h')) ⟨0, rfl, Nat.zero_le _, j0, hzz, Nat.le_refl _⟩ ?_ ?_
 ·rintro ⟨(r : Int), u⟩ hp ⟨i, hr, hi, j, hz1, hsz⟩
  dsimp only at hr ⊢
  subst hr
  refine wp_load1 (b := .ptr) a1 (some T.p) rfl (cell1 hz1) (wp_call (c_lAt M C (text hz1)) fun ⟨(ln : LnD), (er : Int), _⟩ h1 e1 hat => ?_)
  have hat : AtR (txA T) (i : Int) (ln, er, ()) := hat
  refine s_newput4 z4 ln fun h2 e2 o2 => s_cell (b := .int .i64) ln.1 rfl o2.cells rfl (s_cell (b := .int .i64) ln.1 rfl o2.cells rfl (s_cell (b := .int .i64) ln.1 rfl o2.cells rfl ?_))
  refine s_newput4 z4 (ln.1, ln.1, ln.1, 0, ()) fun h3 e3 o3 => ?_
  have e13 := e1.trans (e2.trans e3)
  have hz3 : Held Z h0 h3 := hz1.trans (Held.of_ext e13)
  have q3 := e13.size
  have jj : Chg (own h.size 0) hp h3 := Chg.of_ext e13
  have tell : i < nLines (txA T) → ∀ {Q : Nat → List Value → Heap → Prop} {K : Bool × Unit → Prog}, (∀ b h4, (b = true → J (i + 1) h4) → (b = false → F h4) → Held Z h0 h4 → h.size ≤ h4.size → wp P (K (b, ())) h4 Q) →
    wp P (.callv y [.int .i64 (i : Int), .agg (Bs.inj b4 ln).toArray] [.one .bool] K) h3 Q := fun hlt Q K hk => by
   have hl := (hat.1 ⟨by omega, by omega⟩).1
   have hl : ln = lineD (txA T) i := hl
   refine wp_callv ((hY i hp h3 _ hlt j hsz jj (by omega) hz3 (show AL2 _ _ _ _ _ by unfold AL2; rw [← hl]; rfl)).mono fun vs h4 ⟨b, hv, hh, ht, hf⟩ => ⟨(b, ()), hv, ?_⟩)
   exact hk b h4 ht hf (hz3.step hh fun i hi hz' => .inr ⟨hz', hi⟩) (by have := hh.1; omega)
  have j3 : J i h3 := sJ i hp h3 j jj
  refine wp_bind (fun tag vs h' => tag = 0 ∧ ∃ b, vs = [.bool b] ∧ Held Z h0 h' ∧ h.size ≤ h'.size ∧ (b = false → i < nLines (txA T) ∧ J (i + 1) h') ∧ (b = true → J (nLines (txA T)) h' ∨ F h')) ?_ ?_
  ·refine wp_ifB (fun hc => s_ret ⟨rfl, true, rfl, hz3, by omega, (fun h => by cases h), fun _ => .inl ?_⟩) fun hc => ?_
   ·rw [neI_iff] at hc
    have : i = nLines (txA T) := by
     by_cases hin : (0 : Int) ≤ i ∧ (i : Int) ≤ nB (txA T)
     ·exact absurd (hat.1 hin).2 hc
     ·omega
    rw [← this]; exact j3
   rw [neI_not] at hc
   have hin : (0 : Int) ≤ i ∧ (i : Int) ≤ nB (txA T) := Classical.byContradiction fun h => by
    have := (hat.2 h).2
    have this : er = 2 := this
    have hc : er = 0 := hc
    omega
   have hl : ln = lineD (txA T) i := (hat.1 hin).1
   refine wp_ifB (fun hd => ?_) fun hd => ?_
   ·rw [gtI_iff] at hd
    refine s_getO (bs := b4) ((o2.ext e3)) (s_getO (bs := b4) o3 (wp_ifB (fun he => s_ret ⟨rfl, true, rfl, hz3, by omega, (fun h => by cases h), fun _ => .inl ?_⟩) fun he => ?_))
    ·simp only [andB_iff, eqI_iff] at he
     obtain ⟨_, h2, _, h4⟩ := he
     by_cases hlt : i < nLines (txA T)
     ·have := told_ne hlt (by omega)
      rw [← hl] at this
      rcases this with h | h
      ·exact absurd h2 h
      ·exact absurd h4 h
     ·rw [show nLines (txA T) = i by omega]; exact j3
    have hlt' : i < nLines (txA T) := by
     by_cases hlt : i < nLines (txA T)
     ·exact hlt
     ·exfalso
      have hiN : nLines (txA T) = nB (txA T) := by omega
      have hiB : i = nB (txA T) := by omega
      have hfin := hN.2.2.1 hiN
      have hl2 : ln = ((startN (txA T) i : Int), ((txA T).length : Int), ((txA T).length : Int), 0, ()) := by rw [hl]; unfold lineD; rw [if_neg (by omega)]
      rw [hiB, hfin.1] at hl2
      subst hl2
      have : andB (eqI ((txA T).length : Int) ((txA T).length : Int)) (andB (eqI ((txA T).length : Int) ((txA T).length : Int)) (andB (eqI ((txA T).length : Int) ((txA T).length : Int)) (eqI (0 : Int) 0))) = false := he
      simp [andB, eqI] at this
    refine s_getO (bs := b4) (o2.ext e3) (tell hlt' fun b h4 ht hf hz4 hs4 => s_ret ⟨rfl, _, rfl, hz4, hs4, fun hb => ?_, fun hb => .inr ?_⟩)
    ·rw [notB_not] at hb
     exact ⟨hlt', ht hb⟩
    ·rw [notB_iff] at hb
     exact hf hb
   ·rw [gtI_not] at hd
    have hlt : i < nLines (txA T) := by omega
    refine s_getO (bs := b4) (o2.ext e3) (tell hlt fun b h4 ht hf hz4 hs4 => s_ret ⟨rfl, _, rfl, hz4, hs4, fun hb => ?_, fun hb => .inr ?_⟩)
    ·rw [notB_not] at hb
     exact ⟨hlt, ht hb⟩
    ·rw [notB_iff] at hb
     exact hf hb
  ·rintro tag vs h4 ⟨rfl, b, rfl, hz4, hs4, hff, htt⟩
   refine s_tag (s_castB (wp_ifB (fun hb => s_ret ⟨fun hh => absurd hh (by decide), fun _ => ⟨rfl, rfl, hs4, hz4, htt hb⟩⟩) fun hb => ?_))
   obtain ⟨hlt, j4⟩ := hff hb
   rw [add_ok (by omega) (by omega)]
   exact s_ret ⟨fun _ => ⟨((i : Int) + 1, ()), rfl, ⟨i + 1, by dsimp only; omega, by omega, j4, hz4, hs4⟩, by dsimp only; omega⟩, fun hh => absurd rfl hh⟩
 ·rintro tag vs h1 ⟨rfl, rfl, hs1, hz1, hend⟩
  exact s_tag (s_cast0 (s_ret ⟨rfl, rfl, hs1, hz1, hend⟩))
end Go.Sw.Piece

set_option linter.unusedVariables false
set_option linter.unusedSimpArgs false
set_option maxRecDepth 100000
namespace Go.Sw.Piece
open Go.Sw.Any Go.Sw.Codec
open Go.Sw.Tree (iv s_putAll s_newP s_getP s_getT s_putP eqI_self Placed cell_own wp_whileG minI_eq)
variable {P : Program} {S : Ids} {h : Heap} {Q : Nat → List Value → Heap → Prop}
def cntK (A : List Int) (k : Nat) : Nat → Nat
 | 0 => 0
 | n + 1 => cntK A k n + if (lineD A n).2.2.2.1 = (k : Int) then 1 else 0
theorem cntK_le (A : List Int) (k : Nat) : ∀ n, cntK A k n ≤ n
 | 0 => Nat.le_refl _
 | n + 1 => by have := cntK_le A k n; unfold cntK; split <;> omega
def kindsD (A : List Int) (n : Nat) : LnD := ((cntK A 0 n : Int), (cntK A 1 n : Int), (cntK A 2 n : Int), (cntK A 3 n : Int), ())
theorem brk_lt (A : List Int) (i : Nat) : ∃ q : Nat, q < 4 ∧ (lineD A i).2.2.2.1 = (q : Int) := by
 unfold lineD
 split
 ·refine ⟨brkN A (endN A i), ?_, rfl⟩
  unfold brkN
  split
  ·decide
  ·split <;> decide
 ·exact ⟨0, by decide, rfl⟩
theorem kinds_succ {A : List Int} {n q : Nat} (hq : (lineD A n).2.2.2.1 = (q : Int)) (h4 : q < 4) : (Bs.inj b4 (kindsD A n))[q]? = some (i64v (cntK A q n)) ∧ (Bs.inj b4 (kindsD A n)).set q (i64v ((cntK A q n : Int) + 1)) = Bs.inj b4 (kindsD A (n + 1)) := by
 match q, h4 with
 | 0, _ => exact ⟨rfl, by simp [kindsD, cntK, hq, Bs.inj, B.inj]⟩
 | 1, _ => exact ⟨rfl, by simp [kindsD, cntK, hq, Bs.inj, B.inj]⟩
 | 2, _ => exact ⟨rfl, by simp [kindsD, cntK, hq, Bs.inj, B.inj]⟩
 | 3, _ => exact ⟨rfl, by simp [kindsD, cntK, hq, Bs.inj, B.inj]⟩
theorem al2_inj {A : List Int} {k : Nat} {x : Int × LnD × Unit} (e : Ts.inj [.one (.int .i64), t4] x = Ts.inj [.one (.int .i64), t4] (((k : Nat) : Int), lineD A k, ())) : x.1 = k ∧ Bs.inj b4 x.2.1 = Bs.inj b4 (lineD A k) := by
 have h1 := congrArg (fun l => l.head?) e
 have h2 := congrArg (fun l => l.tail.head?) e
 simp only [Ts.inj, List.head?_cons, List.tail_cons, Option.some.injEq] at h1 h2
 have h1 : Value.int .i64 x.1 = Value.int .i64 k := h1
 have h2 : (Value.agg (Bs.inj b4 x.2.1).toArray) = Value.agg (Bs.inj b4 (lineD A k)).toArray := h2
 injection h1 with _ h1
 injection h2 with h2
 exact ⟨h1, List.toArray_inj h2⟩
theorem c_lAll {n : Nat} {T : TX} (t : TextR S n h T) : Gives P (F_lines_All S (some T.p)) [.one .any] h fun (y : Value × Unit) h' => ∃ a : Addr, y.1 = .func (.func S.f_lines_All_1) #[] #[.pointer (some a)] ∧ Cel h.size h' a (.pointer (some T.p)) := by
 unfold F_lines_All Gives
 exact s_new1 _ fun h1 e1 o1 z1 => s_ret ⟨rfl, e1, (_, ()), rfl, ⟨h.size, 0, none⟩, rfl, o1⟩
theorem c_lKinds (M : Meth0 P S) (C : Cl0 P S) (L : ClL P S) {n : Nat} {T : TX} (t : TextR S n h T) : Gives P (F_lines_Kinds S (some T.p)) [t4] h fun (y : LnD × Unit) _ => y.1 = kindsD (txA T) (nLines (txA T)) := by
 unfold F_lines_Kinds Gives
 have hN := nLines_le (txA T)
 have hnB : nB (txA T) ≤ (txA T).length := cntE_le _ _
 have hAl := txA_len T
 have hbig := (t.cur.few t.lim.2).1
 have hel := els_len T.enc T.cur.ps
 refine s_new4 z4 fun h1 e1 o1 => s_new4 z4 fun h2 e2 o2 => ?_
 have e12 := e1.trans e2
 refine wp_call (c_lAll (t.ext e12)) fun ⟨(it : Value), _⟩ h3 e3 ⟨a, hit, oc⟩ => ?_
 have hit : it = .func (.func S.f_lines_All_1) #[] #[.pointer (some a)] := hit
 subst hit
 have e03 := e12.trans e3
 have q1 := e1.size; have q2 := e2.size; have q3 := e3.size
 have l1 : h.size < h1.size := (o1.lt rfl).2
 have l2 : h1.size < h2.size := (o2.lt rfl).2
 have la := oc.lt rfl
 have t3 := t.ext e03
 have itg := iter_lines M C L (Z := fun i => T.Z i ∨ i = a.block) t3 (fun i hi => .inl hi) (cell_own oc) (.inr rfl)
 have tz : ∀ i, T.Z i → i < h.size := fun i hi => (t.lo i hi).2
 have o13 : Own4 h.size h3 ⟨h.size, 0, none⟩ z4 := (o1.ext e2).ext e3
 have o23 : Own4 h1.size h3 ⟨h1.size, 0, none⟩ z4 := o2.ext e3
 let J : Nat → Heap → Prop := fun k h' => Chg (fun i => i = h1.size) h3 h' ∧ Own4 0 h' ⟨h1.size, 0, none⟩ (kindsD (txA T) k)
 refine wp_range (A := AL2 (txA T)) (N := nLines (txA T)) (Z := fun i => T.Z i ∨ i = a.block) (m := 0) (h0 := h3) itg (Held.refl _ _) J (fun _ _ => False) ?_ (fun k a b f => f.elim) (fun k hp h1' args e => ⟨_, e⟩) ?_ ⟨Chg.refl _ _, o23.mono (Nat.zero_le _)⟩ ?_
 ·rintro k ha hb ⟨c, o⟩ cc
  exact ⟨c.trans cc fun i hi f => by have := f.1; omega, cc.own o fun x hx f => by cases hx; have := f.1; dsimp only at this; omega⟩
 ·rintro k hp h4 ⟨x1, x2, u⟩ hk ⟨c, o⟩ hps cc hs4 hz4 hA
  obtain ⟨_, hx2⟩ := al2_inj (x := (x1, x2, u)) hA
  have hx2 : Bs.inj b4 x2 = Bs.inj b4 (lineD (txA T) k) := hx2
  change wp P (.alloc (Bs.inj b4 z4) fun (a5 : Addr) => .store (some a5) (Bs.inj b4 x2) <| .ret 0 [.pointer (some a5)]) h4 _
  rw [hx2]
  have hq4 := cc.1
  have c4 : Chg (fun i => i = h1.size) h3 h4 := c.trans cc fun i hi f => by have := f.1; omega
  have o4 : Own4 0 h4 ⟨h1.size, 0, none⟩ (kindsD (txA T) k) := cc.own o fun x hx f => by cases hx; have := f.1; dsimp only at this; omega
  refine s_newput4 z4 (lineD (txA T) k) fun h5 e5 o5 => s_ret ⟨rfl, (some ⟨h4.size, 0, none⟩, ()), rfl, Held.of_ext e5, fun h6 c6 s6 => ?_⟩
  obtain ⟨q, hq, hbq⟩ := brk_lt (txA T) k
  obtain ⟨g1, g2⟩ := kinds_succ hbq hq
  have o56 := c6.own o5 fun x hx f => by cases hx; have := f.2; dsimp only at this; omega
  have o46 := c6.own (o4.ext e5) fun x hx f => by cases hx; have := f.1; dsimp only at this; omega
  have hcl := cntK_le (txA T) q k
  refine wp_grd rfl (s_cell (b := .int .i64) (q : Int) rfl o56.cells (by rw [← hbq]; rfl) (wp_grd (inB_ok (by omega) (by omega)) ?_))
  rw [mulN_def, toN_def, Int.toNat_natCast, Nat.mul_one]
  refine s_cell (b := .int .i64) (cntK (txA T) q k : Int) rfl o46.cells g1 (wp_grd (inB_ok (by omega) (by omega)) ?_)
  rw [add_ok (by omega) (by omega)]
  refine s_setC' (i64v ((cntK (txA T) q k : Int) + 1)) o46 (by show q < 4; omega) rfl fun h7 o7 u7 => s_ret ⟨?_, fun _ => ⟨?_, by rw [g2] at o7; exact o7⟩, fun hh => absurd rfl hh⟩
  ·refine Held.of_chg (Chg.of_upd (F := fun i => i = h1.size) u7 fun x hx _ => by cases hx; rfl) fun i _ hw f => ?_
   rcases hw with hw | ⟨hw, _⟩
   ·have := hw.1; omega
   ·rcases hw with hw | hw
    ·have := tz i hw; omega
    ·omega
  ·exact ((c4.ext e5).trans c6 fun i hi f => by have := f.1; omega).upd u7 fun x hx _ => by cases hx; rfl
 ·intro j h5 hs5 hz5 hend
  rcases hend with ⟨rfl, c, o⟩ | ⟨_, hf⟩
  ·have o15 : Own4 h.size h5 ⟨h.size, 0, none⟩ z4 := c.own o13 fun x hx f => by cases hx; dsimp only at f; omega
   refine s_tag (s_getO (bs := b4) o (s_sto4 (kindsD (txA T) (nLines (txA T))) o15 fun h6 o6 u6 => s_getO (bs := b4) o6 (s_ret ⟨?_, fun h7 c7 s7 => ⟨rfl, ?_, (_, ()), rfl, rfl⟩⟩)))
   ·exact Held.of_chg (Chg.of_upd (F := fun i => i = h.size) u6 fun x hx _ => by cases hx; rfl) fun i _ hw f => by have := hw.1; omega
   ·have c56 : Chg (fun i => i = h.size) h5 h6 := Chg.of_upd u6 fun x hx _ => by cases hx; rfl
    have q56 := c56.1; have q5 := c.1
    exact Keep.trans e03 ((((c.mono (G := fun i => h.size ≤ i) fun i _ f => by omega).trans c56 fun i _ f => by omega).trans c7 fun i _ f => by have := f.1; omega).keep (by omega) fun i hi f => by omega)
  ·exact hf.elim
abbrev SpD := Int × Int × Int × Unit
abbrev b3 : List B := [.int .i64, .int .i64, .int .i64]
theorem flat3i {x : SpD} : ∀ v, v ∈ Bs.inj b3 x → flat v = true := by intro v hv; simp [Bs.inj] at hv; rcases hv with rfl | rfl | rfl <;> rfl
def wholeF (A : List Int) (first last : Int) : SpD × Int :=
 if first < 0 ∨ last < first ∨ (nLines A : Int) ≤ last then ((0, 0, 0, ()), 2)
 else ((if (lineD A last.toNat).2.2.2.1 = 0 ∧ 0 < first ∧ (lineD A (first - 1).toNat).1 < (lineD A (first - 1).toNat).2.1 then (lineD A (first - 1).toNat).2.1 else (lineD A first.toNat).1, (lineD A last.toNat).2.2.1, 1, ()), 0)
theorem c_lWhole (M : Meth0 P S) (C : Cl0 P S) {n : Nat} {T : TX} {first last : Int} (t : TextR S n h T) : Gives P (F_lines_Whole S (some T.p) first last) [.agg b3, .one (.int .i64)] h fun (y : SpD × Int × Unit) _ => (y.1, y.2.1) = wholeF (txA T) first last := by
 unfold F_lines_Whole Gives
 have hN := nLines_le (txA T)
 have hnB : nB (txA T) ≤ (txA T).length := cntE_le _ _
 have hAl := txA_len T
 have hbig := (t.cur.few t.lim.2).1
 have hel := els_len T.enc T.cur.ps
 refine s_newO (bs := b3) ((0, 0, 0, ()) : SpD) (by decide) fun h1 e1 o1 => ?_
 refine bind_bool (first < 0 ∨ last < first ∨ (nLines (txA T) : Int) ≤ last) ?_ fun bb h2 e2 hb2 => wp_ifB (fun hc => ?_) fun hc => ?_
 ·refine wp_ifB (fun hc => s_ret ⟨rfl, Ext.refl _, true, rfl, Iff.intro (fun _ => .inl (ltI_iff.1 hc)) fun _ => rfl⟩) fun hc => wp_ifB (fun hd => s_ret ⟨rfl, Ext.refl _, true, rfl, Iff.intro (fun _ => .inr (.inl (ltI_iff.1 hd))) fun _ => rfl⟩) fun hd => ?_
  rw [ltI_not] at hc hd
  refine wp_call (c_lCount M C (t.ext e1)) fun ⟨(z : Int), _⟩ h2 e2 hz => s_ret ⟨rfl, e2, _, rfl, ?_⟩
  have hz : z = nLines (txA T) := hz
  subst hz
  rw [geI_iff]
  exact ⟨fun h => .inr (.inr h), fun h => by rcases h with h | h | h; omega; omega; exact h⟩
 ·have hc := hb2.1 hc
  refine s_stoO (bs := b3) ((0, 0, 0, ()) : SpD) (o1.ext e2) flat3i fun h3 o3 u3 => s_getO (bs := b3) o3 (s_ret ⟨rfl, Upd.extN (e1.trans e2) u3 (by intro z hz; cases hz; exact Nat.le_refl _), (_, 2, ()), rfl, ?_⟩)
  unfold wholeF
  rw [if_pos hc]
 have hc : ¬ (first < 0 ∨ last < first ∨ (nLines (txA T) : Int) ≤ last) := fun h => by have hc : bb = false := hc; rw [hb2.2 h] at hc; cases hc
 unfold wholeF
 rw [if_neg hc]
 have e12 := e1.trans e2
 refine wp_call (c_lAt M C (line := first) (t.ext e12)) fun ⟨(la : LnD), (ea : Int), _⟩ h3 e3 ha => ?_
 have ha : la = lineD (txA T) first.toNat := (ha.1 ⟨by omega, by omega⟩).1
 refine s_newput4 z4 la fun h4 e4 o4 => ?_
 have e14 := e12.trans (e3.trans e4)
 refine wp_call (c_lAt M C (line := last) (t.ext e14)) fun ⟨(lb : LnD), (eb : Int), _⟩ h5 e5 hb => ?_
 have hb : lb = lineD (txA T) last.toNat := (hb.1 ⟨by omega, by omega⟩).1
 refine s_newput4 z4 lb fun h6 e6 o6 => ?_
 have e16 := e14.trans (e5.trans e6)
 refine s_cell (b := .int .i64) la.1 rfl (o4.ext (e5.trans e6)).cells rfl (s_cell (b := .int .i64) lb.2.2.1 rfl o6.cells rfl ?_)
 refine s_putO (bs := b3) (z := ((0, 0, 0, ()) : SpD)) ((la.1, lb.2.2.1, 1, ()) : SpD) (by decide) flat3i fun h7 e7 o7 => ?_
 have e17 := e16.trans e7
 have q6 := e16.size
 refine wp_bind (fun tag vs h' => tag = 0 ∧ vs = [] ∧ Ext h h' ∧ (∀ {m : Nat} {a : Addr} {ws : List Value} {c d : Nat}, Own m 1 h7 ⟨some a, c, d⟩ ws → a.block ≠ h6.size → Own m 1 h' ⟨some a, c, d⟩ ws) ∧ Own h6.size 1 h' ⟨some ⟨h6.size, 0, none⟩, 3, 3⟩ (Bs.inj b3 ((if (lineD (txA T) last.toNat).2.2.2.1 = 0 ∧ 0 < first ∧ (lineD (txA T) (first - 1).toNat).1 < (lineD (txA T) (first - 1).toNat).2.1 then (lineD (txA T) (first - 1).toNat).2.1 else (lineD (txA T) first.toNat).1, (lineD (txA T) last.toNat).2.2.1, 1, ()) : SpD))) ?_ ?_
 ·rw [← hb, ← ha]
  refine bind_bool (lb.2.2.2.1 = 0 ∧ 0 < first) ?_ fun bb h8 e8 hb8 => wp_ifB (fun hx => ?_) fun hx => ?_
  ·refine s_cell (b := .int .i64) lb.2.2.2.1 rfl (o6.ext e7).cells rfl (wp_ifB (fun hd => s_ret ⟨rfl, Ext.refl _, _, rfl, ?_⟩) fun hd => s_ret ⟨rfl, Ext.refl _, false, rfl, Iff.intro (fun h => by cases h) fun h => ?_⟩)
   ·rw [eqI_iff] at hd
    rw [gtI_iff]
    exact ⟨fun h => ⟨hd, h⟩, fun h => h.2⟩
   ·rw [eqI_not] at hd; exact absurd h.1 hd
  ·have hx := hb8.1 hx
   rw [sub_ok (by omega) (by omega)]
   have e18 := e17.trans e8
   refine wp_call (c_lAt M C (line := first - 1) (t.ext e18)) fun ⟨(lc : LnD), (ec : Int), _⟩ h9 e9 hlc => ?_
   have hlc : lc = lineD (txA T) (first - 1).toNat := (hlc.1 ⟨by omega, by omega⟩).1
   rw [← hlc]
   refine s_newput4 z4 lc fun h10 e10 o10 => s_cell (b := .int .i64) lc.1 rfl o10.cells rfl (s_cell (b := .int .i64) lc.2.1 rfl o10.cells rfl (wp_ifB (fun hd => ?_) fun hd => ?_))
   ·rw [ltI_iff] at hd
    refine s_cell (b := .int .i64) lc.2.1 rfl o10.cells rfl ?_
    have e710 := e8.trans (e9.trans e10)
    refine s_setC' (i64v lc.2.1) (o7.ext e710) (by show 0 < 3; decide) rfl fun h11 o11 u11 => s_ret ⟨rfl, rfl, Upd.extN (e17.trans e710) u11 (by intro z hz; cases hz; dsimp only; omega), fun o hne => ?_, ?_⟩
    ·exact (o.ext e710).keep fun y hy => u11.2.1 _ ((o.ext e710).lt hy).2 fun z hz e => by cases hy; cases hz; exact hne e.symm
    ·rw [if_pos ⟨hx.1, hx.2, hd⟩]; exact o11
   ·rw [ltI_not] at hd
    have e710 := e8.trans (e9.trans e10)
    refine s_ret ⟨rfl, rfl, e17.trans e710, fun o _ => o.ext e710, ?_⟩
    rw [if_neg fun h => by have := h.2.2; omega]; exact o7.ext e710
  ·have hx : ¬ (lb.2.2.2.1 = 0 ∧ 0 < first) := fun h => by have hx : bb = false := hx; rw [hb8.2 h] at hx; cases hx
   refine s_ret ⟨rfl, rfl, e17.trans e8, fun o _ => o.ext e8, ?_⟩
   rw [if_neg fun h => hx ⟨h.1, h.2.1⟩]; exact o7.ext e8
 ·rintro tag vs h8 ⟨rfl, rfl, e8, keep, o8⟩
  have o18 := keep (((o1.ext e2).ext (e3.trans e4)).ext ((e5.trans e6).trans e7)) (by show h.size ≠ h6.size; have := (o1.lt rfl).2; have := (e2.trans ((e3.trans e4).trans (e5.trans e6))).size; dsimp only at *; omega)
  refine s_tag (s_cast0 (s_getO (bs := b3) o8 (s_stoO (bs := b3) _ o18 flat3i fun h9 o9 u9 => s_getO (bs := b3) o9 (s_ret ⟨rfl, Upd.extN e8 u9 (by intro z hz; cases hz; exact Nat.le_refl _), (_, 0, ()), rfl, rfl⟩))))
end Go.Sw.Piece

set_option linter.unusedVariables false
set_option linter.unusedSimpArgs false
set_option maxRecDepth 100000
namespace Go.Sw.Piece
open Go.Sw.Any Go.Sw.Codec
open Go.Sw.Tree (iv s_putAll s_newP s_getP s_getT s_putP eqI_self Placed cell_own wp_whileG minI_eq)
variable {P : Program} {S : Ids} {h : Heap} {Q : Nat → List Value → Heap → Prop}
def bfr (A : List Int) (at_ : Nat) (out : List Int) : Int := if out.length = 0 then (if at_ = 0 then 0 else A.getD (at_ - 1) 0) else out.getD (out.length - 1) 0
def meltF (A : List Int) (at_ : Nat) (nat_ : Int) (last : Bool) (b : Int) : Bool := decide (nat_ = 1 ∧ b = 13) || decide (nat_ = 3 ∧ last = true ∧ A.getD at_ 0 = 10)
def endL (nat_ : Int) : List Int := if nat_ = 1 then [10] else if nat_ = 2 then [13, 10] else [13]
def tyP (A : List Int) (at_ : Nat) (nat_ : Int) (last : Bool) (b x : Int) : List Int := if x ≠ 10 then [x] else if meltF A at_ nat_ last b = true then [13, 10] else endL nat_
def tyF (A : List Int) (at_ : Nat) (nat_ : Int) (l : List Int) : Nat → List Int
 | 0 => []
 | i + 1 => tyF A at_ nat_ l i ++ tyP A at_ nat_ (decide (i + 1 = l.length)) (bfr A at_ (tyF A at_ nat_ l i)) (l.getD i 0)
theorem tyP_len (A : List Int) (at_ : Nat) (nat_ : Int) (last : Bool) (b x : Int) : 1 ≤ (tyP A at_ nat_ last b x).length ∧ (tyP A at_ nat_ last b x).length ≤ 2 := by
 unfold tyP endL
 split
 ·exact ⟨by simp, by simp⟩
 ·split
  ·exact ⟨by simp, by simp⟩
  ·split
   ·exact ⟨by simp, by simp⟩
   ·split <;> exact ⟨by simp, by simp⟩
theorem tyF_len (A : List Int) (at_ : Nat) (nat_ : Int) (l : List Int) : ∀ i, i ≤ (tyF A at_ nat_ l i).length ∧ (tyF A at_ nat_ l i).length ≤ 2 * i
 | 0 => ⟨Nat.le_refl _, Nat.le_refl _⟩
 | i + 1 => by
  have h1 := tyF_len A at_ nat_ l i
  have h2 := tyP_len A at_ nat_ (decide (i + 1 = l.length)) (bfr A at_ (tyF A at_ nat_ l i)) (l.getD i 0)
  unfold tyF
  rw [List.length_append]
  omega
def typedF (A : List Int) (at_ nat_ : Int) (l : List Int) : List Int × Int :=
 if ¬ (1 ≤ nat_ ∧ nat_ ≤ 3) then ([], 1) else if ¬ (0 ≤ at_ ∧ at_ ≤ A.length) then ([], 2) else (tyF A at_.toNat nat_ l l.length, 0)
theorem fits_end {nat_ x : Int} (h : x ∈ endL nat_) : fitsI .i64 x := by
 unfold endL at h
 rw [fits_i64]
 split at h
 ·simp at h; subst h; decide
 ·split at h
  ·simp at h; rcases h with rfl | rfl <;> decide
  ·simp at h; subst h; decide
theorem fits_1310 {x : Int} (h : x ∈ ([13, 10] : List Int)) : fitsI .i64 x := by simp at h; rw [fits_i64]; rcases h with rfl | rfl <;> decide
theorem around_is {A : List Int} {a : Nat} (ha : a ≤ A.length) : partL A ((a : Int) - 1) ((a : Int) + 1) = (if a = 0 then [] else [A.getD (a - 1) 0]) ++ (if a < A.length then [A.getD a 0] else []) := by
 unfold partL
 have h1 : (max ((a : Int) - 1) 0).toNat = a - 1 := by omega
 rw [h1]
 by_cases h : a < A.length
 ·have h2 : (min ((a : Int) + 1) A.length).toNat = a + 1 := by omega
  rw [h2, if_pos h]
  have ga : A[a]? = some (A.getD a 0) := by rw [List.getD_eq_getElem?_getD, List.getElem?_eq_getElem h]; rfl
  by_cases h0 : a = 0
  ·subst h0
   rw [if_pos rfl, List.take_add_one, ga]; rfl
  ·rw [if_neg h0, List.take_add_one, ga, List.drop_append_of_le_length (by rw [List.length_take]; omega)]
   have gb : A[a - 1]? = some (A.getD (a - 1) 0) := by rw [List.getD_eq_getElem?_getD, List.getElem?_eq_getElem (by omega)]; rfl
   have : (A.take a).drop (a - 1) = [A.getD (a - 1) 0] := by
    have := List.take_add_one (l := A) (i := a - 1)
    rw [show a - 1 + 1 = a by omega, gb] at this
    rw [this, List.drop_append_of_le_length (by rw [List.length_take]; omega), List.drop_of_length_le (by rw [List.length_take]; omega)]; rfl
   rw [this]; rfl
 ·have h2 : (min ((a : Int) + 1) A.length).toNat = a := by omega
  rw [h2, if_neg h, List.append_nil]
  by_cases h0 : a = 0
  ·subst h0; rw [if_pos rfl]; rfl
  ·rw [if_neg h0]
   have gb : A[a - 1]? = some (A.getD (a - 1) 0) := by rw [List.getD_eq_getElem?_getD, List.getElem?_eq_getElem (by omega)]; rfl
   have := List.take_add_one (l := A) (i := a - 1)
   rw [show a - 1 + 1 = a by omega, gb] at this
   rw [this, List.drop_append_of_le_length (by rw [List.length_take]; omega), List.drop_of_length_le (by rw [List.length_take]; omega)]; rfl
theorem c_lTyped (M : Meth0 P S) (C : Cl0 P S) {n : Nat} {T : TX} {at_ nat_ : Int} {s : Sl} {l : List Int} (t : TextR S n h T) (hl : Lst .i64 h s l) (hL : l.length ≤ 1073741824) :
  Gives P (F_lines_Typed S (some T.p) at_ s nat_) [.one .sl, .one (.int .i64)] h fun (y : Sl × Int × Unit) h' => OwnL h.size .i64 h' y.1 (typedF (txA T) at_ nat_ l).1 ∧ y.2.1 = (typedF (txA T) at_ nat_ l).2 := by
 unfold F_lines_Typed Gives
 have hAl := txA_len T
 have hbig := (t.cur.few t.lim.2).1
 have hel := els_len T.enc T.cur.ps
 have ll := hl.len
 unfold typedF
 refine wp_bind (fun tag vs h' => (tag = 1 ∧ ¬ (1 ≤ nat_ ∧ nat_ ≤ 3) ∧ vs = [slv ⟨none, 0, 0⟩, i64v 1] ∧ Ext h h') ∨ (tag = 0 ∧ (1 ≤ nat_ ∧ nat_ ≤ 3) ∧ Ext h h' ∧ ∃ e : Sl, vs = [slv e] ∧ OwnL h.size .i64 h' e (endL nat_))) ?_ ?_
 ·refine wp_ifB (fun hc => ?_) fun hc => wp_ifB (fun hd => ?_) fun hd => wp_ifB (fun he => ?_) fun he => s_ret (.inl ⟨rfl, ?_, rfl, Ext.refl _⟩)
  ·rw [eqI_iff] at hc; subst hc
   refine s_allocL (k := .i64) [10] (fun z hz => fits_end (nat_ := 1) hz) (by simp) fun h1 e1 o1 => s_ret (.inr ⟨rfl, by omega, e1, _, rfl, o1⟩)
  ·rw [eqI_iff] at hd; subst hd
   refine s_allocL (k := .i64) [13, 10] (fun z hz => fits_end (nat_ := 2) hz) (by simp) fun h1 e1 o1 => s_ret (.inr ⟨rfl, by omega, e1, _, rfl, o1⟩)
  ·rw [eqI_iff] at he; subst he
   refine s_allocL (k := .i64) [13] (fun z hz => fits_end (nat_ := 3) hz) (by simp) fun h1 e1 o1 => s_ret (.inr ⟨rfl, by omega, e1, _, rfl, o1⟩)
  ·rw [eqI_not] at hc hd he; omega
 rintro tag vs h1 (⟨rfl, hn, rfl, e1⟩ | ⟨rfl, hn, e1, en, rfl, oe⟩)
 ·rw [if_pos hn]
  exact s_tag (wp_cast (tys := [.one .sl, .one (.int .i64)]) (⟨none, 0, 0⟩, 1, ()) rfl (s_ret ⟨rfl, e1, (⟨none, 0, 0⟩, 1, ()), rfl, OwnL.nil _ _ _, rfl⟩))
 rw [if_neg fun h => h hn]
 refine s_tagNo rfl (s_tag (wp_cast (tys := [.one .sl]) (en, ()) rfl ?_))
 refine bind_bool (¬ (0 ≤ at_ ∧ at_ ≤ (txA T).length)) ?_ fun bb h2 e2 hb2 => wp_ifB (fun hc => ?_) fun hc => ?_
 ·refine wp_ifB (fun hc => s_ret ⟨rfl, Ext.refl _, true, rfl, Iff.intro (fun _ => by rw [ltI_iff] at hc; omega) fun _ => rfl⟩) fun hc => wp_call (c_Len (t.ext e1)) fun ⟨(L : Int), _⟩ h2 e2 hLl => s_ret ⟨rfl, e2, _, rfl, ?_⟩
  rw [ltI_not] at hc
  have hLl : L = (els T.enc T.cur.ps).length := hLl
  rw [gtI_iff]
  dsimp only
  omega
 ·rw [if_pos (hb2.1 hc)]
  exact s_ret ⟨rfl, e1.trans e2, (⟨none, 0, 0⟩, 2, ()), rfl, OwnL.nil _ _ _, rfl⟩
 have hin : 0 ≤ at_ ∧ at_ ≤ (txA T).length := Classical.byContradiction fun h => by have hc : bb = false := hc; rw [hb2.2 h] at hc; cases hc
 rw [if_neg fun h => h hin]
 obtain ⟨a, rfl⟩ : ∃ a : Nat, at_ = a := ⟨at_.toNat, by omega⟩
 rw [Int.toNat_natCast, sub_ok (by omega) (by omega), add_ok (by omega) (by omega)]
 have e12 := e1.trans e2
 refine wp_call (c_Atoms M C (from_ := (a : Int) - 1) (t.ext e12) (fits_i64.2 (by omega))) fun ⟨(w : Sl), _⟩ h3 e3 ow => ?_
 have ow : OwnL h2.size .i64 h3 w ((cutL (els T.enc T.cur.ps) ((a : Int) - 1) ((a : Int) + 1)).map (·.1)) := ow
 rw [part_map, show (els T.enc T.cur.ps).map (fun x : El => x.1) = txA T from rfl, around_is (by omega)] at ow
 generalize txA T = A at *
 have lw := ow.len
 refine bind_val (tys := [.one .sl, .one (.int .i64)]) (fun (x : Sl × Int × Unit) h' => Lst .i64 h' x.1 (if a < A.length then [A.getD a 0] else []) ∧ x.2.1 = bfr A a []) ?_ fun ⟨(w2 : Sl), (b0 : Int), _⟩ h4 e4 ⟨lw2, hb0⟩ => ?_
 ·have hbf : bfr A a [] = if a = 0 then 0 else A.getD (a - 1) 0 := if_pos rfl
  refine wp_ifB (fun hc => ?_) fun hc => s_ret ⟨rfl, Ext.refl _, (w, 0, ()), rfl, ?_, ?_⟩
  ·rw [gtI_iff] at hc
   rw [if_neg (by omega)] at ow lw
   rw [List.length_append, List.length_singleton] at lw
   have := s_at0 (P := P) (Q := fun t vs h' => t = 0 ∧ Ext h3 h' ∧ ∃ x : Sl × Int × Unit, vs = Ts.inj [.one .sl, .one (.int .i64)] x ∧ Lst .i64 h' x.1 (if a < A.length then [A.getD a 0] else []) ∧ x.2.1 = bfr A a []) (K := fun n5019 => grd (leB 1 w.len) <| .ret 0 [.slice (cutBase w.base w.cap 1 1) (subN w.len 1) (subN w.cap 1), .int .i64 n5019]) ow.lst (n := 0) (by rw [List.length_append, List.length_singleton]; omega) fun _ => ?_
   ·exact this
   ·refine wp_grd (leB_ok (by omega) (by omega)) (s_ret ⟨rfl, Ext.refl _, (⟨cutBase w.base w.cap 1 1, subN w.len 1, subN w.cap 1⟩, A.getD (a - 1) 0, ()), rfl, ?_, ?_⟩)
    ·have hlst := ow.lst
     have hsub := Go.Sw.Lst.drop hlst (i := 1) (m := w.cap - 1) (by rw [List.length_append, List.length_singleton]; omega) (by have := hlst.cap; omega) (by have := hlst.max; omega)
     exact hsub
    ·rw [hbf, if_neg (by omega)]
  ·rw [gtI_not] at hc
   have h0 : a = 0 := by omega
   rw [if_pos h0, List.nil_append] at ow
   exact ow.lst
  ·rw [gtI_not] at hc
   show (0 : Int) = _
   rw [hbf, if_pos (by omega)]
 have hb0 : b0 = bfr A a [] := hb0
 have lw2l := lw2.len
 refine bind_val (tys := [.one (.int .i64)]) (fun (x : Int × Unit) _ => x.1 = A.getD a 0) ?_ fun ⟨(bh : Int), _⟩ h5 e5 hbh => ?_
 ·refine wp_ifB (fun hc => ?_) fun hc => s_ret ⟨rfl, Ext.refl _, (0, ()), rfl, ?_⟩
  ·rw [gtI_iff, natI_def] at hc
   have hlt : a < A.length := by
    by_cases h : a < A.length
    ·exact h
    ·rw [if_neg h] at lw2l; simp at lw2l; dsimp only at hc; omega
   rw [if_pos hlt] at lw2
   exact s_at0 lw2 (n := 0) (by simp) fun _ => s_ret ⟨rfl, Ext.refl _, (_, ()), rfl, rfl⟩
  ·rw [gtI_not, natI_def] at hc
   have hlt : ¬ a < A.length := fun h => by rw [if_pos h] at lw2l; simp at lw2l; dsimp only at hc; omega
   show (0 : Int) = _
   rw [List.getD_eq_getElem?_getD, List.getElem?_eq_none (by omega)]; rfl
 have hbh : bh = A.getD a 0 := hbh
 have e15 := (e2.trans e3).trans (e4.trans e5)
 have e05 := e1.trans e15
 have oe5 := oe.ext e15
 have hs1 := e1.size
 dsimp only
 refine wp_while (fun (r : Int × Sl × Int × Unit) h' => ∃ i : Nat, i ≤ l.length ∧ r.2.2.1 = (i : Int) ∧ r.1 = bfr A a (tyF A a nat_ l i) ∧ Ext h5 h' ∧ OwnL h5.size .i64 h' r.2.1 (tyF A a nat_ l i)) (fun r _ => (l.length - r.2.2.1).toNat)
  (fun tag vs h' => tag = 3 ∧ ∃ r : Sl, vs = [slv r] ∧ Ext h5 h' ∧ OwnL h5.size .i64 h' r (tyF A a nat_ l l.length)) ⟨0, Nat.zero_le _, rfl, hb0, Ext.refl _, OwnL.nil _ _ _⟩ ?_ ?_
 ·rintro ⟨(ah : Int), (r : Sl), (i' : Int), u⟩ h6 ⟨i, hi, hi', hah, e6, o6⟩
  dsimp only at hi' hah o6 ⊢
  subst hi'
  have hl6 := hl.ext (e05.trans e6)
  have q6 := e6.size
  have fl := tyF_len A a nat_ l i
  refine wp_ifB (fun hc => ?_) fun hc => ?_
  ·rw [ltI_iff, natI_def, ll] at hc
   refine s_at hl6 (by omega) (by omega) fun hfx => ?_
   rw [Int.toNat_natCast] at hfx ⊢
   have hstep : tyF A a nat_ l (i + 1) = tyF A a nat_ l i ++ tyP A a nat_ (decide (i + 1 = l.length)) (bfr A a (tyF A a nat_ l i)) (l.getD i 0) := rfl
   have pl := tyP_len A a nat_ (decide (i + 1 = l.length)) (bfr A a (tyF A a nat_ l i)) (l.getD i 0)
   rw [← hah] at hstep pl
   have app : ∀ {h7 : Heap} {x : Sl} {m : List Int} {K : Sl → Prog} {R : Nat → List Value → Heap → Prop}, Ext h6 h7 → Lst .i64 h7 x m → m = tyP A a nat_ (decide (i + 1 = l.length)) ah (l.getD i 0) → (∀ r' h8, Ext h5 h8 → OwnL h5.size .i64 h8 r' (tyF A a nat_ l (i + 1)) → wp P (K r') h8 R) → wp P (.append 1 8 [.int .i64 0] r x K) h7 R := fun {h7 x m K R} e7 hx hm hk => by
    subst hm
    refine s_append (o6.ext e7) (by have := e7.size; omega) hx (by omega) (by omega) fun r' h8 k8 o8 _ _ => hk r' h8 (Keep.trans (e6.trans e7) k8) (by rw [hstep]; exact o8)
   refine wp_bind (fun tag vs h' => tag = 0 ∧ ∃ r' : Sl, vs = [slv r'] ∧ Ext h5 h' ∧ OwnL h5.size .i64 h' r' (tyF A a nat_ l (i + 1))) ?_ ?_
   ·refine wp_ifB (fun hd => ?_) fun hd => ?_
    ·rw [neI_iff] at hd
     refine s_allocL (k := .i64) [l.getD i 0] (by intro z hz; rw [List.mem_singleton.1 hz]; exact hfx) (by simp) fun h7 e7 o7 => app e7 o7.lst (by unfold tyP; rw [if_pos hd]) fun r' h8 e8 o8 => s_ret ⟨rfl, r', rfl, e8, o8⟩
    rw [neI_not] at hd
    have hP : tyP A a nat_ (decide (i + 1 = l.length)) ah (l.getD i 0) = if meltF A a nat_ (decide (i + 1 = l.length)) ah = true then [13, 10] else endL nat_ := by unfold tyP; rw [if_neg fun h => h hd]
    refine bind_bool (nat_ = 1 ∧ ah = 13) ?_ fun b7 h7 e7 hb7 => wp_ifB (fun hx => ?_) fun hx => ?_
    ·refine wp_ifB (fun hx => s_ret ⟨rfl, Ext.refl _, _, rfl, ?_⟩) fun hx => s_ret ⟨rfl, Ext.refl _, false, rfl, Iff.intro (fun h => by cases h) fun h => ?_⟩
     ·rw [eqI_iff] at hx; rw [eqI_iff]; exact ⟨fun h => ⟨hx, h⟩, fun h => h.2⟩
     ·rw [eqI_not] at hx; exact absurd h.1 hx
    ·have hx' := hb7.1 hx
     have hx : b7 = true := hx
     subst hx
     have hm : meltF A a nat_ (decide (i + 1 = l.length)) ah = true := by unfold meltF; rw [decide_eq_true hx']; rfl
     refine s_ifT (s_allocL (k := .i64) [13, 10] (fun z hz => fits_1310 hz) (by simp) fun h8 e8 o8 => app (e7.trans e8) o8.lst (by rw [hP, if_pos hm]) fun r' h9 e9 o9 => s_ret ⟨rfl, r', rfl, e9, o9⟩)
    have hx1 : ¬ (nat_ = 1 ∧ ah = 13) := fun h => by have hx : b7 = false := hx; rw [hb7.2 h] at hx; cases hx
    have hsub : subI .i64 (natI s.len) 1 = (l.length : Int) - 1 := by rw [natI_def, ll, sub_ok (by omega) (by omega)]
    rw [hsub]
    refine bind_bool (nat_ = 3 ∧ i + 1 = l.length ∧ A.getD a 0 = 10) ?_ fun b8 h8 e8 hb8 => wp_ifB (fun hy => ?_) fun hy => ?_
    ·refine wp_ifB (fun hy => wp_ifB (fun hz => s_ret ⟨rfl, Ext.refl _, _, rfl, ?_⟩) fun hz => s_ret ⟨rfl, Ext.refl _, false, rfl, Iff.intro (fun h => by cases h) fun h => ?_⟩) fun hy => s_ret ⟨rfl, Ext.refl _, false, rfl, Iff.intro (fun h => by cases h) fun h => ?_⟩
     ·rw [eqI_iff] at hy hz
      rw [eqI_iff, hbh]; exact ⟨fun h => ⟨hy, by omega, h⟩, fun h => h.2.2⟩
     ·rw [eqI_not] at hz; omega
     ·rw [eqI_not] at hy; exact absurd h.1 hy
    ·have hy := hb8.1 hy
     have hm : meltF A a nat_ (decide (i + 1 = l.length)) ah = true := by
      unfold meltF
      rw [decide_eq_true (p := nat_ = 3 ∧ decide (i + 1 = l.length) = true ∧ A.getD a 0 = 10) ⟨hy.1, decide_eq_true hy.2.1, hy.2.2⟩, Bool.or_true]
     refine s_allocL (k := .i64) [13, 10] (fun z hz => fits_1310 hz) (by simp) fun h9 e9 o9 => app ((e7.trans e8).trans e9) o9.lst (by rw [hP, if_pos hm]) fun r' h10 e10 o10 => s_ret ⟨rfl, r', rfl, e10, o10⟩
    ·have hy2 : ¬ (nat_ = 3 ∧ i + 1 = l.length ∧ A.getD a 0 = 10) := fun h => by have hy : b8 = false := hy; rw [hb8.2 h] at hy; cases hy
     have hm : ¬ (meltF A a nat_ (decide (i + 1 = l.length)) ah = true) := fun h => by
      unfold meltF at h
      rw [Bool.or_eq_true, decide_eq_true_iff, decide_eq_true_iff] at h
      rcases h with h | h
      ·exact hx1 h
      ·exact hy2 ⟨h.1, of_decide_eq_true h.2.1, h.2.2⟩
     have e78 := e7.trans e8
     exact app e78 ((oe5.ext e6).ext e78).lst (by rw [hP, if_neg hm]) fun r' h9 e9 o9 => s_ret ⟨rfl, r', rfl, e9, o9⟩
   ·rintro tag vs h7 ⟨rfl, r', rfl, e7, o7⟩
    have fl2 := tyF_len A a nat_ l (i + 1)
    have lr := o7.len
    refine s_tag (wp_cast (tys := [.one .sl]) (r', ()) rfl ?_)
    have hsub : subI .i64 (natI r'.len) 1 = (((tyF A a nat_ l (i + 1)).length - 1 : Nat) : Int) := by rw [natI_def, lr, sub_ok (by omega) (by omega)]; omega
    dsimp only
    rw [hsub]
    refine s_at o7.lst (by omega) (by omega) fun _ => ?_
    rw [Int.toNat_natCast, add_ok (by omega) (by omega)]
    refine s_ret ⟨fun _ => ⟨((tyF A a nat_ l (i + 1)).getD ((tyF A a nat_ l (i + 1)).length - 1) 0, r', (i : Int) + 1, ()), rfl, ⟨i + 1, by omega, by dsimp only; omega, ?_, e7, o7⟩, by dsimp only; omega⟩, fun hh => absurd rfl hh⟩
    unfold bfr
    rw [if_neg (by omega)]
  ·rw [ltI_not, natI_def, ll] at hc
   have : i = l.length := by omega
   subst this
   exact s_ret ⟨fun hh => absurd hh (by decide), fun _ => ⟨rfl, r, rfl, e6, o6⟩⟩
 ·rintro tag vs h6 ⟨rfl, r, rfl, e6, o6⟩
  exact s_tag (wp_cast (tys := [.one .sl]) (r, ()) rfl (s_ret ⟨rfl, e05.trans e6, (r, 0, ()), rfl, o6.mono e05.size, rfl⟩))
end Go.Sw.Piece

set_option linter.unusedVariables false
set_option linter.unusedSimpArgs false
set_option maxRecDepth 100000
namespace Go.Sw.Piece
open Go.Sw.Any Go.Sw.Codec
open Go.Sw.Tree (iv s_putAll s_newP s_getP s_getT s_putP eqI_self Placed cell_own wp_whileG minI_eq)
variable {P : Program} {S : Ids} {h : Heap} {Q : Nat → List Value → Heap → Prop}
def c4 (l : List LnD) : List Value := l.flatMap fun x => Bs.inj b4 x
abbrev LnL (n : Nat) (h : Heap) (s : Sl) (l : List LnD) : Prop := Own n 4 h s (c4 l)
def linesL (A : List Int) (n : Nat) : List LnD := (List.range n).map (lineD A)
variable {s : Sl} {A : List Int}
end Go.Sw.Piece

set_option linter.unusedVariables false
set_option linter.unusedSimpArgs false
set_option maxRecDepth 100000
namespace Go.Sw.Piece
open Go.Sw.Any Go.Sw.Codec
open Go.Sw.Tree (iv s_putAll s_newP s_getP s_getT s_putP eqI_self Placed cell_own wp_whileG minI_eq)
variable {P : Program} {S : Ids} {h : Heap} {Q : Nat → List Value → Heap → Prop} {s : Sl} {A : List Int}
theorem c_refAhead {a : Nat} {o : Sl} {out : List Int} (ha : Lst .i64 h s A) (hl : A.length ≤ 1000000000) (hal : a ≤ A.length) (ho : Lst .i64 h o out) (hol : out.length ≤ 2147483648) : Gives P (F_ref6_ahead S s (a : Int) o) [.one (.int .i64)] h fun (y : Int × Unit) _ => y.1 = bfr A a out := by
 unfold F_ref6_ahead Gives bfr
 have la := ha.len; have lo := ho.len
 refine wp_ifB (fun hc => ?_) fun hc => ?_
 ·rw [gtI_iff, natI_def, lo] at hc
  rw [if_neg (by omega)]
  have hsub : subI .i64 (natI o.len) 1 = ((out.length - 1 : Nat) : Int) := by rw [natI_def, lo, sub_ok (by omega) (by omega)]; omega
  rw [hsub]
  refine s_at ho (by omega) (by omega) fun _ => s_ret ⟨rfl, Ext.refl _, (_, ()), rfl, ?_⟩
  rfl
 ·rw [gtI_not, natI_def, lo] at hc
  rw [if_pos (show out.length = 0 by omega)]
  refine wp_ifB (fun hd => ?_) fun hd => s_ret ⟨rfl, Ext.refl _, (_, ()), rfl, ?_⟩
  ·rw [gtI_iff] at hd
   have hsub : subI .i64 (a : Int) 1 = ((a - 1 : Nat) : Int) := by rw [sub_ok (by omega) (by omega)]; omega
   rw [hsub]
   refine s_at ha (by omega) (by omega) fun _ => s_ret ⟨rfl, Ext.refl _, (_, ()), rfl, ?_⟩
   rw [if_neg (by omega)]; rfl
  ·rw [gtI_not] at hd
   rw [if_pos (by omega)]
theorem c_refTyped {at_ nat_ : Int} {t : Sl} {l : List Int} (ha : Lst .i64 h s A) (hl : A.length ≤ 1000000000) (ht : Lst .i64 h t l) (hL : l.length ≤ 1073741824) :
  Gives P (F_ref6_Typed S s at_ t nat_) [.one .sl, .one (.int .i64)] h fun (y : Sl × Int × Unit) h' => OwnL h.size .i64 h' y.1 (typedF A at_ nat_ l).1 ∧ y.2.1 = (typedF A at_ nat_ l).2 := by
 unfold F_ref6_Typed Gives
 have la := ha.len; have ll := ht.len
 unfold typedF
 refine bind_bool (¬ (1 ≤ nat_ ∧ nat_ ≤ 3)) ?_ fun bb h1 e1 hb1 => wp_ifB (fun hc => ?_) fun hc => ?_
 ·refine wp_ifB (fun hc => s_ret ⟨rfl, Ext.refl _, true, rfl, Iff.intro (fun _ => by rw [ltI_iff] at hc; omega) fun _ => rfl⟩) fun hc => s_ret ⟨rfl, Ext.refl _, _, rfl, ?_⟩
  rw [ltI_not] at hc
  rw [gtI_iff]; omega
 ·rw [if_pos (hb1.1 hc)]
  exact s_ret ⟨rfl, e1, (⟨none, 0, 0⟩, 1, ()), rfl, OwnL.nil _ _ _, rfl⟩
 have hn : 1 ≤ nat_ ∧ nat_ ≤ 3 := Classical.byContradiction fun h => by have hc : bb = false := hc; rw [hb1.2 h] at hc; cases hc
 rw [if_neg fun h => h hn]
 refine bind_bool (¬ (0 ≤ at_ ∧ at_ ≤ A.length)) ?_ fun b2 h2 e2 hb2 => wp_ifB (fun hc => ?_) fun hc => ?_
 ·refine wp_ifB (fun hc => s_ret ⟨rfl, Ext.refl _, true, rfl, Iff.intro (fun _ => by rw [ltI_iff] at hc; omega) fun _ => rfl⟩) fun hc => s_ret ⟨rfl, Ext.refl _, _, rfl, ?_⟩
  rw [ltI_not] at hc
  rw [gtI_iff, natI_def, la]; omega
 ·rw [if_pos (hb2.1 hc)]
  exact s_ret ⟨rfl, e1.trans e2, (⟨none, 0, 0⟩, 2, ()), rfl, OwnL.nil _ _ _, rfl⟩
 have hin : 0 ≤ at_ ∧ at_ ≤ A.length := Classical.byContradiction fun h => by have hc : b2 = false := hc; rw [hb2.2 h] at hc; cases hc
 rw [if_neg fun h => h hin]
 obtain ⟨a, rfl⟩ : ∃ a : Nat, at_ = a := ⟨at_.toNat, by omega⟩
 rw [Int.toNat_natCast]
 have e12 := e1.trans e2
 have q2 := e12.size
 refine wp_while (fun (r : Sl × Int × Unit) h' => ∃ i : Nat, i ≤ l.length ∧ r.2.1 = (i : Int) ∧ Ext h2 h' ∧ OwnL h2.size .i64 h' r.1 (tyF A a nat_ l i)) (fun r _ => (l.length - r.2.1).toNat)
  (fun tag vs h' => tag = 2 ∧ ∃ r : Sl, vs = [slv r] ∧ Ext h2 h' ∧ OwnL h2.size .i64 h' r (tyF A a nat_ l l.length)) ⟨0, Nat.zero_le _, rfl, Ext.refl _, OwnL.nil _ _ _⟩ ?_ ?_
 ·rintro ⟨(r : Sl), (i' : Int), u⟩ h3 ⟨i, hi, hi', e3, o3⟩
  dsimp only at hi' o3 ⊢
  subst hi'
  have ht3 := ht.ext (e12.trans e3)
  have ha3 := ha.ext (e12.trans e3)
  have q3 := e3.size
  have fl := tyF_len A a nat_ l i
  refine wp_ifB (fun hc => ?_) fun hc => ?_
  ·rw [ltI_iff, natI_def, ll] at hc
   have hstep : tyF A a nat_ l (i + 1) = tyF A a nat_ l i ++ tyP A a nat_ (decide (i + 1 = l.length)) (bfr A a (tyF A a nat_ l i)) (l.getD i 0) := rfl
   have pl := tyP_len A a nat_ (decide (i + 1 = l.length)) (bfr A a (tyF A a nat_ l i)) (l.getD i 0)
   refine wp_bind (fun tag vs h' => tag = 0 ∧ ∃ r' : Sl, vs = [slv r'] ∧ Ext h2 h' ∧ OwnL h2.size .i64 h' r' (tyF A a nat_ l (i + 1))) ?_ ?_
   ·refine s_at ht3 (by omega) (by omega) fun hfx => ?_
    rw [Int.toNat_natCast] at hfx ⊢
    have app : ∀ {h7 : Heap} {r : Sl} {u : List Int} {x : Int} {K : Sl → Prog} {R : Nat → List Value → Heap → Prop}, Ext h2 h7 → OwnL h2.size .i64 h7 r u → fitsI .i64 x → u.length ≤ 2147483649 → (∀ r' h8, Ext h2 h8 → OwnL h2.size .i64 h8 r' (u ++ [x]) → wp P (K r') h8 R) → wp P (.alloc [i64v x] fun a1 => .append 1 8 [i64v 0] r ⟨some a1, 1, 1⟩ K) h7 R := fun {h7 r u x K R} e7 ou hx hu hk => by
     refine s_allocL (k := .i64) [x] (by intro z hz; rw [List.mem_singleton.1 hz]; exact hx) (by simp) fun h8 e8 o8 => ?_
     have e78 := e7.trans e8
     refine s_append (ou.ext e8) (by have := e7.size; have := e8.size; omega) o8.lst (by simp only [List.length_singleton]; omega) (by simp only [List.length_singleton]; omega) fun r' h9 k9 o9 _ _ => hk r' h9 (Keep.trans e78 k9) o9
    refine wp_ifB (fun hd => ?_) fun hd => ?_
    ·rw [neI_iff] at hd
     refine s_at ht3 (by omega) (by omega) fun hfx => ?_
     rw [Int.toNat_natCast] at hfx ⊢
     refine app e3 o3 hfx (by omega) fun r' h4 e4 o4 => s_ret ⟨rfl, r', rfl, e4, ?_⟩
     rw [hstep]; unfold tyP; rw [if_pos hd]; exact o4
    rw [neI_not] at hd
    have hP : tyP A a nat_ (decide (i + 1 = l.length)) (bfr A a (tyF A a nat_ l i)) (l.getD i 0) = if meltF A a nat_ (decide (i + 1 = l.length)) (bfr A a (tyF A a nat_ l i)) = true then [13, 10] else endL nat_ := by unfold tyP; rw [if_neg fun h => h hd]
    refine wp_call (c_refAhead ha3 hl (by omega) o3.lst (by omega)) fun ⟨(b : Int), _⟩ h4 e4 hb => ?_
    have hb : b = bfr A a (tyF A a nat_ l i) := hb
    rw [← hb] at hP hstep
    refine bind_bool (nat_ = 1 ∧ b = 13) ?_ fun b5 h5 e5 hb5 => ?_
    ·refine wp_ifB (fun hx => s_ret ⟨rfl, Ext.refl _, _, rfl, ?_⟩) fun hx => s_ret ⟨rfl, Ext.refl _, false, rfl, Iff.intro (fun h => by cases h) fun h => ?_⟩
     ·rw [eqI_iff] at hx; rw [eqI_iff]; exact ⟨fun h => ⟨hx, h⟩, fun h => h.2⟩
     ·rw [eqI_not] at hx; exact absurd h.1 hx
    have e05 := (e12.trans e3).trans (e4.trans e5)
    have ha5 := ha.ext e05
    have hsub : subI .i64 (natI t.len) 1 = (l.length : Int) - 1 := by rw [natI_def, ll, sub_ok (by omega) (by omega)]
    rw [hsub]
    refine bind_bool (meltF A a nat_ (decide (i + 1 = l.length)) b = true) ?_ fun b6 h6 e6 hb6 => ?_
    ·refine bind_bool (nat_ = 3 ∧ i + 1 = l.length ∧ A.getD a 0 = 10) ?_ fun b6 h6 e6 hb6 => ?_
     ·refine wp_ifB (fun hy => wp_ifB (fun hz => wp_ifB (fun hw => ?_) fun hw => s_ret ⟨rfl, Ext.refl _, false, rfl, Iff.intro (fun h => by cases h) fun h => ?_⟩) fun hz => s_ret ⟨rfl, Ext.refl _, false, rfl, Iff.intro (fun h => by cases h) fun h => ?_⟩) fun hy => s_ret ⟨rfl, Ext.refl _, false, rfl, Iff.intro (fun h => by cases h) fun h => ?_⟩
      ·rw [eqI_iff] at hy hz
       rw [ltI_iff, natI_def, la] at hw
       refine s_at ha5 (by omega) (by omega) fun _ => s_ret ⟨rfl, Ext.refl _, _, rfl, ?_⟩
       rw [eqI_iff, Int.toNat_natCast]; exact ⟨fun h => ⟨hy, by omega, h⟩, fun h => h.2.2⟩
      ·rw [ltI_not, natI_def, la] at hw
       have h0 : A.getD a 0 = 0 := getD_end (by omega)
       have := h.2.2; omega
      ·rw [eqI_not] at hz; omega
      ·rw [eqI_not] at hy; exact absurd h.1 hy
     ·have key : meltF A a nat_ (decide (i + 1 = l.length)) b = true ↔ (nat_ = 3 ∧ i + 1 = l.length ∧ A.getD a 0 = 10) ∨ (nat_ = 1 ∧ b = 13) := by
       unfold meltF
       rw [Bool.or_eq_true, decide_eq_true_iff, decide_eq_true_iff, decide_eq_true_iff]
       exact Or.comm
      refine wp_ifB (fun hx => s_ret ⟨rfl, e6, true, rfl, ?_⟩) fun hx => s_ret ⟨rfl, e6, b5, rfl, ?_⟩
      ·exact Iff.intro (fun _ => key.2 (.inl (hb6.1 hx))) fun _ => rfl
      ·rw [key]
       exact Iff.intro (fun h => .inr (hb5.1 h)) fun h => h.elim (fun h => by have hx : b6 = false := hx; rw [hb6.2 h] at hx; cases hx) hb5.2
    have e36 := (e3.trans e4).trans (e5.trans e6)
    have o36 := o3.ext ((e4.trans e5).trans e6)
    generalize hU : tyF A a nat_ l i = U at *
    have parts : tyF A a nat_ l (i + 1) = (U ++ if nat_ = 2 ∨ nat_ = 3 ∨ meltF A a nat_ (decide (i + 1 = l.length)) b = true then [13] else []) ++ if nat_ = 2 ∨ nat_ = 1 ∨ meltF A a nat_ (decide (i + 1 = l.length)) b = true then [10] else [] := by
     rw [hstep, hP]
     by_cases hm : meltF A a nat_ (decide (i + 1 = l.length)) b = true
     ·rw [if_pos hm, if_pos (.inr (.inr hm)), if_pos (.inr (.inr hm)), List.append_assoc]; rfl
     ·rw [if_neg hm]
      unfold endL
      by_cases h1 : nat_ = 1
      ·rw [if_pos h1, if_neg fun h => by rcases h with h | h | h; omega; omega; exact hm h, if_pos (.inr (.inl h1)), List.append_nil]
      ·rw [if_neg h1]
       by_cases h2 : nat_ = 2
       ·rw [if_pos h2, if_pos (.inl h2), if_pos (.inl h2), List.append_assoc]; rfl
       ·rw [if_neg h2, if_pos (.inr (.inl (by omega))), if_neg fun h => by rcases h with h | h | h; omega; omega; exact hm h, List.append_nil]
    rw [parts]
    have m3 : b6 = false → ¬ (meltF A a nat_ (decide (i + 1 = l.length)) b = true) := fun h h' => by rw [hb6.2 h'] at h; cases h
    refine wp_bind (fun tag vs h' => tag = 0 ∧ ∃ r' : Sl, vs = [slv r'] ∧ Ext h2 h' ∧ OwnL h2.size .i64 h' r' (U ++ if nat_ = 2 ∨ nat_ = 3 ∨ meltF A a nat_ (decide (i + 1 = l.length)) b = true then [13] else [])) ?_ ?_
    ·refine bind_bool (nat_ = 2 ∨ nat_ = 3 ∨ meltF A a nat_ (decide (i + 1 = l.length)) b = true) ?_ fun b7 h7 e7 hb7 => wp_ifB (fun hx => ?_) fun hx => ?_
     ·refine wp_ifB (fun hx => s_ret ⟨rfl, Ext.refl _, true, rfl, Iff.intro (fun _ => .inl (eqI_iff.1 hx)) fun _ => rfl⟩) fun hx => wp_ifB (fun hy => s_ret ⟨rfl, Ext.refl _, true, rfl, Iff.intro (fun _ => .inr (.inl (eqI_iff.1 hy))) fun _ => rfl⟩) fun hy => s_ret ⟨rfl, Ext.refl _, b6, rfl, ?_⟩
      rw [eqI_not] at hx hy
      rw [hb6]
      exact Iff.intro (fun h => .inr (.inr h)) fun h => by rcases h with h | h | h; exact absurd h hx; exact absurd h hy; exact h
     ·rw [if_pos (hb7.1 hx)]
      exact app (e36.trans e7) (o36.ext e7) (fits_1310 (by simp)) (by omega) fun r' h8 e8 o8 => s_ret ⟨rfl, r', rfl, e8, o8⟩
     ·rw [if_neg (fun h => by have hx : b7 = false := hx; rw [hb7.2 h] at hx; cases hx), List.append_nil]
      exact s_ret ⟨rfl, r, rfl, e36.trans e7, o36.ext e7⟩
    ·rintro tag vs h7 ⟨rfl, r2, rfl, e7, o7⟩
     refine s_tag (wp_cast (tys := [.one .sl]) (r2, ()) rfl ?_)
     have hlen : (U ++ if nat_ = 2 ∨ nat_ = 3 ∨ meltF A a nat_ (decide (i + 1 = l.length)) b = true then [13] else []).length ≤ 2147483649 := by
      rw [List.length_append]; split
      ·simp only [List.length_singleton]; omega
      ·simp only [List.length_nil]; omega
     generalize (U ++ if nat_ = 2 ∨ nat_ = 3 ∨ meltF A a nat_ (decide (i + 1 = l.length)) b = true then [13] else []) = V at o7 hlen ⊢
     refine bind_bool (nat_ = 2 ∨ nat_ = 1 ∨ meltF A a nat_ (decide (i + 1 = l.length)) b = true) ?_ fun b8 h8 e8 hb8 => wp_ifB (fun hx => ?_) fun hx => ?_
     ·refine wp_ifB (fun hx => s_ret ⟨rfl, Ext.refl _, true, rfl, Iff.intro (fun _ => .inl (eqI_iff.1 hx)) fun _ => rfl⟩) fun hx => wp_ifB (fun hy => s_ret ⟨rfl, Ext.refl _, true, rfl, Iff.intro (fun _ => .inr (.inl (eqI_iff.1 hy))) fun _ => rfl⟩) fun hy => s_ret ⟨rfl, Ext.refl _, b6, rfl, ?_⟩
      rw [eqI_not] at hx hy
      rw [hb6]
      exact Iff.intro (fun h => .inr (.inr h)) fun h => by rcases h with h | h | h; exact absurd h hx; exact absurd h hy; exact h
     ·rw [if_pos (hb8.1 hx)]
      exact app (e7.trans e8) (o7.ext e8) (fits_1310 (by simp)) hlen fun r' h9 e9 o9 => s_ret ⟨rfl, r', rfl, e9, o9⟩
     ·rw [if_neg (fun h => by have hx : b8 = false := hx; rw [hb8.2 h] at hx; cases hx), List.append_nil]
      exact s_ret ⟨rfl, r2, rfl, e7.trans e8, o7.ext e8⟩
   ·rintro tag vs h4 ⟨rfl, r', rfl, e4, o4⟩
    refine s_tag (wp_cast (tys := [.one .sl]) (r', ()) rfl ?_)
    rw [add_ok (by omega) (by omega)]
    exact s_ret ⟨fun _ => ⟨(r', (i : Int) + 1, ()), rfl, ⟨i + 1, by omega, by dsimp only; omega, e4, o4⟩, by dsimp only; omega⟩, fun hh => absurd rfl hh⟩
  ·rw [ltI_not, natI_def, ll] at hc
   have : i = l.length := by omega
   subst this
   exact s_ret ⟨fun hh => absurd hh (by decide), fun _ => ⟨rfl, r, rfl, e3, o3⟩⟩
 ·rintro tag vs h6 ⟨rfl, r, rfl, e6, o6⟩
  exact s_tag (wp_cast (tys := [.one .sl]) (r, ()) rfl (s_ret ⟨rfl, e12.trans e6, (r, 0, ()), rfl, o6.mono q2, rfl⟩))
end Go.Sw.Piece

set_option linter.unusedVariables false
set_option linter.unusedSimpArgs false
set_option maxRecDepth 100000
namespace Go.Sw.Piece
open Go.Sw.Any Go.Sw.Codec
open Go.Sw.Tree (iv s_putAll s_newP s_getP s_getT s_putP eqI_self Placed cell_own wp_whileG minI_eq)
variable {P : Program} {S : Ids} {h : Heap} {Q : Nat → List Value → Heap → Prop} {s : Sl} {A : List Int}
theorem s_copy {h0 : Heap} {i0 tg : Nat} {a r : Sl} {U : List Int} {K : Nat → List Value → Prog} (ha : Lst .i64 h0 a A) (e0 : Ext h0 h) (ho : OwnL h0.size .i64 h r U) (hi : i0 ≤ A.length) (hl : U.length + A.length ≤ 3000000000) (ht : tg ≠ 0)
  (hk : ∀ r' h', Ext h0 h' → OwnL h0.size .i64 h' r' (U ++ A.drop i0) → wp P (K tg [slv r']) h' Q) :
  wp P (.bind (.loop [.one .sl, .one (.int .i64)] (r, ((i0 : Int), ())) fun (r16 : Sl × Int × Unit) =>
   ifB (ltI r16.2.1 (natI a.len))
    (grd (andB (someB a.base) (inB r16.2.1 a.len)) <| .load (.one (.int .i64)) (shiftTo a.base (mulN (toN r16.2.1) 1)) fun (n17 : Int) =>
     .alloc [.int .i64 n17] fun (a18 : Addr) => .append 1 8 [.int .i64 0] r16.1 ⟨some a18, 1, 1⟩ fun (l19 : Sl) => .ret 0 [slv l19, .int .i64 (addI .i64 r16.2.1 1)]) <|
   .ret tg [slv r16.1]) K) h Q := by
 have la := ha.len
 refine wp_while (fun (r' : Sl × Int × Unit) h' => ∃ i : Nat, i0 ≤ i ∧ i ≤ A.length ∧ r'.2.1 = (i : Int) ∧ Ext h0 h' ∧ OwnL h0.size .i64 h' r'.1 (U ++ (A.drop i0).take (i - i0))) (fun r' _ => (A.length - r'.2.1).toNat)
  (fun tag vs h' => tag = tg ∧ ∃ r' : Sl, vs = [slv r'] ∧ Ext h0 h' ∧ OwnL h0.size .i64 h' r' (U ++ A.drop i0)) ⟨i0, Nat.le_refl _, hi, rfl, e0, by rw [Nat.sub_self]; simpa using ho⟩ ?_ ?_
 ·rintro ⟨(r' : Sl), (i' : Int), u⟩ h1 ⟨i, hi0, hiA, hi', k1, o1⟩
  dsimp only at hi' o1 ⊢
  subst hi'
  have q1 := k1.size
  refine wp_ifB (fun hc => ?_) fun hc => ?_
  ·rw [ltI_iff, natI_def, la] at hc
   refine s_at (ha.ext k1) (by omega) (by omega) fun hfx => ?_
   rw [Int.toNat_natCast] at hfx ⊢
   have hlen : (U ++ (A.drop i0).take (i - i0)).length ≤ 3000000000 := by rw [List.length_append, List.length_take, List.length_drop]; omega
   refine s_push o1 (by omega) hfx (by omega) (by omega) fun r2 h2 k2 o2 _ _ => ?_
   rw [add_ok (by omega) (by omega)]
   refine s_ret ⟨fun _ => ⟨(r2, (i : Int) + 1, ()), rfl, ⟨i + 1, by omega, by omega, by dsimp only; omega, Keep.trans k1 k2, ?_⟩, by dsimp only; omega⟩, fun hh => absurd rfl hh⟩
   have : (A.drop i0).take (i + 1 - i0) = (A.drop i0).take (i - i0) ++ [A.getD i 0] := by
    rw [show i + 1 - i0 = i - i0 + 1 by omega, List.take_add_one, List.getElem?_drop, show i0 + (i - i0) = i by omega, List.getD_eq_getElem?_getD, List.getElem?_eq_getElem (by omega)]; rfl
   rw [this, ← List.append_assoc]; exact o2
  ·rw [ltI_not, natI_def, la] at hc
   have : i = A.length := by omega
   subst this
   rw [List.take_of_length_le (by rw [List.length_drop]; omega)] at o1
   exact s_ret ⟨fun hh => absurd hh ht, fun _ => ⟨rfl, r', rfl, k1, o1⟩⟩
 ·rintro tag vs h1 ⟨rfl, r', rfl, k1, o1⟩
  exact hk r' h1 k1 o1
theorem c_copied (ha : Lst .i64 h s A) (hl : A.length ≤ 2000000000) : Gives P (F_law6_copied S s) [.one .sl] h fun (y : Sl × Unit) h' => OwnL h.size .i64 h' y.1 A := by
 unfold F_law6_copied Gives
 refine s_copy (U := []) (i0 := 0) ha (Ext.refl _) (OwnL.nil _ _ _) (Nat.zero_le _) (by simp only [List.length_nil]; omega) (by decide) fun r h' k o => s_tag (wp_cast (tys := [.one .sl]) (r, ()) rfl (s_ret ⟨rfl, k, (r, ()), rfl, by simpa using o⟩))
def withinF (x n : Int) : Int := (if x < 0 then -(x + 1) else x) % (n + 1)
theorem within_le {x n : Int} (hn : 0 ≤ n) : 0 ≤ withinF x n ∧ withinF x n ≤ n := by
 unfold withinF
 exact ⟨Int.emod_nonneg _ (by omega), by have := Int.emod_lt_of_pos (if x < 0 then -(x + 1) else x) (show 0 < n + 1 by omega); omega⟩
theorem c_within {x n : Int} (hx : fitsI .i64 x) (h0 : 0 ≤ n) (hn : n ≤ 4000000000) : Gives P (F_law6_within S x n) [.one (.int .i64)] h fun (y : Int × Unit) _ => y.1 = withinF x n := by
 unfold F_law6_within Gives
 rw [fits_i64] at hx
 rw [add_ok (a := n) (by omega) (by omega)]
 refine bind_val (tys := [.one (.int .i64)]) (fun (y : Int × Unit) _ => y.1 = if x < 0 then -(x + 1) else x) ?_ fun ⟨(y : Int), _⟩ h1 e1 hy => ?_
 ·refine wp_ifB (fun hc => s_ret ⟨rfl, Ext.refl _, (_, ()), rfl, ?_⟩) fun hc => s_ret ⟨rfl, Ext.refl _, (_, ()), rfl, ?_⟩
  ·rw [ltI_iff] at hc
   rw [if_pos hc, add_ok (by omega) (by omega)]
   show subI .i64 0 (x + 1) = _
   rw [sub_ok (by omega) (by omega)]; omega
  ·rw [ltI_not] at hc
   rw [if_neg (by omega)]
 ·have hy : y = if x < 0 then -(x + 1) else x := hy
  have y0 : 0 ≤ y := by rw [hy]; split <;> omega
  refine wp_grd (notB_iff.2 (eqI_not.2 (by omega))) (s_ret ⟨rfl, e1, (_, ()), rfl, ?_⟩)
  show remI .i64 y (n + 1) = _
  rw [rem_ok y0, hy]; rfl
theorem c_same6 {b : Sl} {l m : List Int} (ha : Lst .i64 h s l) (hb : Lst .i64 h b m) : Gives P (F_law6_same S s b) [.one .bool] h fun (x : Bool × Unit) _ => x.1 = decide (l = m) := by
 have hla := ha.len
 have hlb := hb.len
 have hbd := ha.bound
 unfold F_law6_same Gives
 refine wp_ifB (fun hc => ?_) fun hc => ?_
 ·rw [neI_iff, natI_def, natI_def, hla, hlb] at hc
  refine s_ret ⟨rfl, Ext.refl h, (_, ()), rfl, ?_⟩
  have : l ≠ m := fun e => hc (by rw [e])
  show Bool.false = _
  simp [this]
 rw [neI_not, natI_def, natI_def, hla, hlb] at hc
 refine wp_while (fun (s : Int × Unit) h' => h' = h ∧ 0 ≤ s.1 ∧ s.1 ≤ l.length ∧ l.take s.1.toNat = m.take s.1.toNat) (fun s _ => l.length - s.1.toNat)
  (fun t vs h' => h' = h ∧ (t = 2 ∧ vs = [] ∧ l = m ∨ t = 1 ∧ vs = [.bool Bool.false] ∧ l ≠ m)) ⟨rfl, by simp, by simp, by simp⟩ ?_ ?_
 ·rintro ⟨(i : Int), u⟩ h' ⟨rfl, h0, h1, ht⟩
  dsimp only at h0 h1 ht ⊢
  refine wp_ifB (fun hc => ?_) fun hc => ?_
  ·rw [ltI_iff, natI_def, hla] at hc
   refine s_at ha h0 (by omega) fun _ => s_at hb h0 (by omega) fun _ => wp_ifB (fun hn => ?_) fun hn => ?_
   ·rw [neI_iff] at hn
    exact s_ret ⟨fun h => absurd h (by decide), fun _ => ⟨rfl, .inr ⟨rfl, rfl, fun e => hn (by rw [e])⟩⟩⟩
   ·rw [neI_not] at hn
    rw [add_ok (by omega) (by omega)]
    refine s_ret ⟨fun _ => ⟨(i + 1, ()), rfl, ⟨rfl, by dsimp only; omega, by dsimp only; omega, ?_⟩, by dsimp only; omega⟩, fun h => absurd rfl h⟩
    dsimp only
    rw [show (i + 1).toNat = i.toNat + 1 by omega]
    exact take_eq_succ (by omega) (by omega) ht hn
  ·rw [ltI_not, natI_def, hla] at hc
   rw [List.take_of_length_le (by omega), List.take_of_length_le (by omega)] at ht
   exact s_ret ⟨fun h => absurd h (by decide), fun _ => ⟨rfl, .inl ⟨rfl, rfl, ht⟩⟩⟩
 ·rintro t vs h' ⟨rfl, ⟨rfl, rfl, e⟩ | ⟨rfl, rfl, e⟩⟩
  ·exact s_tag (s_cast0 (s_ret ⟨rfl, Ext.refl _, (_, ()), rfl, (decide_eq_true e).symm⟩))
  ·exact s_tagNo rfl (s_tag (wp_cast (tys := [.one .bool]) (Bool.false, ()) rfl (s_ret ⟨rfl, Ext.refl _, (_, ()), rfl, (decide_eq_false e).symm⟩)))
end Go.Sw.Piece

set_option linter.unusedVariables false
set_option linter.unusedSimpArgs false
set_option maxRecDepth 100000
namespace Go.Sw.Piece
open Go.Sw.Any Go.Sw.Codec
open Go.Sw.Tree (iv s_putAll s_newP s_getP s_getT s_putP eqI_self Placed cell_own wp_whileG minI_eq)
variable {P : Program} {S : Ids} {h : Heap} {Q : Nat → List Value → Heap → Prop}
abbrev StaD := Int × Sl × Unit
abbrev BoD := Option Addr × Sl × Unit
abbrev bB : List B := [.ptr, .sl]
abbrev bS : List B := [.int .i64, .sl]
theorem flatB2 {x : BoD} : ∀ v, v ∈ Bs.inj bB x → flat v = true := by intro v hv; simp [Bs.inj] at hv; rcases hv with rfl | rfl <;> rfl
structure OpB (S : Ids) (n : Nat) (h : Heap) (l : List Int) (T : TX) (s : Sl) : Prop where
 t : TextR S n h T
 limit : T.limit = 65536
 at_ : OwnL n .i64 h s (txA T)
 len : (bytesL T.cur.ps).length ≤ 50000
 A : T.A = []
 els : ∃ e, known e ∧ T.enc = e ∧ Piece.els e T.cur.ps = elsF 0 0 (toks e l)
 dis : ∀ a, s.base = some a → ¬ T.Z a.block
theorem text_low {n m : Nat} {T : TX} (t : TextR S n h T) (hm : m ≤ n) : TextR S m h T := { t with ob := t.ob.mono hm, ad := t.ad.mono hm, lo := fun i hi => ⟨Nat.le_trans hm (t.lo i hi).1, (t.lo i hi).2⟩ }
theorem c_opened6 (M : Meth0 P S) {e0 : Int} {b : Sl} {l : List Int} (hb : Lst .u8 h b l) :
  Gives P (F_law6_opened S (e0, b, ())) [.agg bB, .one .bool] h fun (y : BoD × Bool × Unit) h' => y.2.1 = true ∧ ∃ T : TX, y.1.1 = some T.p ∧ OpB S h.size h' (l.take 50000) T y.1.2.1 := by
 unfold F_law6_opened Gives
 have hlb := hb.len
 have hby : isBytes l := hb.wf
 refine s_newO (bs := bS) ((e0, b, ()) : StaD) (by decide) fun h1 e1 o1 => s_newO (bs := bB) ((none, ⟨none, 0, 0⟩, ()) : BoD) (by decide) fun h2 e2 o2 => ?_
 have e12 := e1.trans e2
 have c1 := (o1.ext e2).cells
 refine s_cell (b := .int .i64) e0 rfl c1 rfl ?_
 have q12 := e12.size
 have q1 := e1.size
 refine wp_while (fun (r' : Sl × Int × Unit) h' => ∃ i : Nat, i ≤ 50000 ∧ i ≤ l.length ∧ r'.2.1 = (i : Int) ∧ Ext h2 h' ∧ OwnL h2.size .u8 h' r'.1 (l.take i)) (fun r' _ => (50000 - r'.2.1).toNat)
  (fun tag vs h' => tag = 2 ∧ ∃ r' : Sl, vs = [slv r'] ∧ Ext h2 h' ∧ OwnL h2.size .u8 h' r' (l.take 50000)) ⟨0, Nat.zero_le _, Nat.zero_le _, rfl, Ext.refl _, OwnL.nil _ _ _⟩ ?_ ?_
 ·rintro ⟨(r' : Sl), (i' : Int), u⟩ h3 ⟨i, hi16, hil, hi', e3, o3⟩
  dsimp only at hi' o3 ⊢
  subst hi'
  refine bind_bool (i < l.length ∧ i < 50000) ?_ fun bb h4 e4 hbb => wp_ifB (fun hc => ?_) fun hc => ?_
  ·refine s_cell (b := .sl) b rfl ((o1.ext e2).ext e3).cells rfl (wp_ifB (fun hc => s_ret ⟨rfl, Ext.refl _, _, rfl, ?_⟩) fun hc => s_ret ⟨rfl, Ext.refl _, false, rfl, Iff.intro (fun h => by cases h) fun h => ?_⟩)
   ·rw [ltI_iff, natI_def, hlb] at hc; rw [ltI_iff]; omega
   ·rw [ltI_not, natI_def, hlb] at hc; omega
  ·have hc := hbb.1 hc
   have e24 := e3.trans e4
   have q24 := e24.size
   refine s_cell (b := .sl) b rfl ((o1.ext e2).ext e24).cells rfl ?_
   refine s_at (hb.ext (e12.trans e24)) (by omega) (by omega) fun hfx => ?_
   rw [Int.toNat_natCast] at hfx ⊢
   have hlen : (l.take i).length ≤ 50000 := by rw [List.length_take]; omega
   refine s_push (o3.ext e4) q24 hfx (by omega) (by omega) fun r2 h5 k5 o5 _ _ => ?_
   rw [add_ok (by omega) (by omega)]
   refine s_ret ⟨fun _ => ⟨(r2, (i : Int) + 1, ()), rfl, ⟨i + 1, by omega, by omega, by dsimp only; omega, Keep.trans e24 k5, ?_⟩, by dsimp only; omega⟩, fun hh => absurd rfl hh⟩
   have : l.take (i + 1) = l.take i ++ [l.getD i 0] := by
    rw [List.take_add_one, List.getD_eq_getElem?_getD, List.getElem?_eq_getElem (by omega)]; rfl
   rw [this]; exact o5
  ·have hc : ¬ (i < l.length ∧ i < 50000) := fun h => by have hc : bb = false := hc; rw [hbb.2 h] at hc; cases hc
   have : l.take i = l.take 50000 := by
    by_cases h16 : i = 50000
    ·rw [h16]
    ·rw [List.take_of_length_le (by omega), List.take_of_length_le (by omega)]
   rw [this] at o3
   exact s_ret ⟨fun hh => absurd hh (by decide), fun _ => ⟨rfl, r', rfl, e3.trans e4, o3.ext e4⟩⟩
 ·rintro tag vs h3 ⟨rfl, r, rfl, e3, o3⟩
  refine s_tag (wp_cast (tys := [.one .sl]) (r, ()) rfl ?_)
  have hlen : (l.take 50000).length ≤ 50000 := by rw [List.length_take]; omega
  have hbt : isBytes (l.take 50000) := fun x hx => hby x (List.mem_of_mem_take hx)
  generalize l.take 50000 = m at *
  have henc : addI .i64 1 (andI .i64 e0 3) = 1 + e0 % 4 := by rw [and3, add_ok (by omega) (by omega)]
  have hk : known (1 + e0 % 4) := by unfold known; omega
  rw [henc]
  generalize 1 + e0 % 4 = enc at hk
  refine wp_call (c_ref_Decode o3.lst (by omega)) fun ⟨(s : Sl), (de : Int), _⟩ h4 e4 hd => ?_
  obtain ⟨od, hde⟩ := DecA.known hk hd
  have od : OwnL h3.size .i64 h4 s (dec enc m) := od
  refine wp_call (c_Open M (limit := 65536) (o3.lst.ext e4)) fun ⟨(p : Option Addr), (er : Int), _⟩ h5 e5 hO => ?_
  have hO : OpenR S h4 h5 enc 65536 m p er := hO
  cases hO with
  | enc hx => exact absurd hk hx
  | arg _ hx => exact absurd ⟨by decide, by decide⟩ hx
  | full _ _ hx => omega
  | ok T hk' hl' hm' tr hte htl htk htA hels hbl hz =>
   have q23 := e3.size; have q34 := e4.size
   refine bind_bool False (wp_ifB (fun hc => by cases hc) fun hc => s_ret ⟨rfl, Ext.refl _, _, rfl, by rw [neI_iff]; exact Iff.intro (fun h => h rfl) False.elim⟩) fun b6 h6 e6 hb6 => ?_
   have hb6 : b6 = false := by
    cases hx : b6 with
    | false => rfl
    | true => exact (hb6.1 hx).elim
   subst hb6
   refine s_ifF ?_
   have e26 := (e3.trans e4).trans (e5.trans e6)
   refine s_stoO (bs := bB) ((some T.p, s, ()) : BoD) (o2.ext e26) flatB2 fun h7 o7 u7 => s_getO (bs := bB) o7 (s_ret ⟨rfl, Upd.extN (e12.trans e26) u7 (by intro z hz; cases hz; exact q1), ((some T.p, s, ()), true, ()), rfl, rfl, T, rfl, ?_⟩)
   have n7 : ∀ i, T.Z i → i ≠ h1.size := fun i hi e => by have := hz i hi; have := e2.size; have := (o2.lt rfl).2; dsimp only at this; omega
   have hA : txA T = dec enc m := by
    unfold txA
    rw [hte, hels, elsF_fst, toks_dec hbt]
   have l2 := (o2.lt rfl).2
   dsimp only at l2
   refine ⟨?_, htl, ?_, by rw [hbl]; exact hlen, htA, ⟨enc, hk, hte, hels⟩, ?_⟩
   ·have t6 := tr.ext e6
    have c7 : Chg (fun i => i = h1.size) h6 h7 := Chg.of_upd u7 fun x hx _ => by cases hx; rfl
    have t7 := t6.chg c7 fun i hi e => n7 i hi e
    exact text_low t7 (by omega)
   ·rw [hA]
    have o6 := od.ext (e5.trans e6)
    have := o6.keep fun x hx => u7.2.1 _ (o6.own.lt hx).2 fun y hy e => by cases hy; have := (o6.own.lt hx).1; dsimp only at e; omega
    exact this.mono (by omega)
   ·intro a ha hZ
    have := hz _ hZ
    have := (od.own.lt ha).2
    omega
end Go.Sw.Piece

set_option linter.unusedVariables false
set_option linter.unusedSimpArgs false
set_option maxRecDepth 100000
namespace Go.Sw.Piece
open Go.Sw.Any Go.Sw.Codec
open Go.Sw.Tree (iv s_putAll s_newP s_getP s_getT s_putP eqI_self Placed cell_own wp_whileG minI_eq)
variable {P : Program} {S : Ids} {h : Heap} {Q : Nat → List Value → Heap → Prop}
theorem s_ckC {a : Addr} {vs : List Value} {j : Nat} {v : Value} {K : Prog} (hc : Cells h a vs) (hj : vs[j]? = some v) (hk : wp P K h Q) : wp P (.check (shiftTo (some a) j) [v] K) h Q :=
 s_check0 (a := a.add j) rfl (cells_iff.2 fun i u hi => by
  cases i with
  | zero => simp at hi; subst hi; rw [add_zero']; exact cells_iff.1 hc j _ hj
  | succ i => simp at hi) hk
structure BothR (S : Ids) (n : Nat) (h : Heap) (b : Addr) (T : TX) (s : Sl) (k : Nat) : Prop where
 t : TextR S n h T
 ob : Own n 1 h ⟨some b, 2, 2⟩ (Bs.inj bB ((some T.p, s, ()) : BoD))
 at_ : OwnL n .i64 h s (txA T)
 limit : T.limit = 65536
 len : (bytesL T.cur.ps).length ≤ 50000 + 64 * k
 A : T.A.length ≤ 64 * k
 db : ¬ T.Z b.block
 da : ∀ a, s.base = some a → ¬ T.Z a.block ∧ a.block ≠ b.block
def bF (b : Addr) (T : TX) (s : Sl) (i : Nat) : Prop := T.Z i ∨ i = b.block ∨ ∃ a, s.base = some a ∧ a.block = i
variable {n k : Nat} {b : Addr} {T : TX} {s : Sl}
theorem BothR.chg {h' : Heap} {F : Nat → Prop} (o : BothR S n h b T s k) (c : Chg F h h') (hF : ∀ i, bF b T s i → ¬ F i) : BothR S n h' b T s k :=
 ⟨o.t.chg c fun i hi => hF i (.inl hi), c.own o.ob fun x hx => by cases hx; exact hF _ (.inr (.inl rfl)), c.ownL o.at_ fun x hx => hF _ (.inr (.inr ⟨x, hx, rfl⟩)), o.limit, o.len, o.A, o.db, o.da⟩
theorem BothR.ext {h' : Heap} (o : BothR S n h b T s k) (e : Ext h h') : BothR S n h' b T s k := ⟨o.t.ext e, o.ob.ext e, o.at_.ext e, o.limit, o.len, o.A, o.db, o.da⟩
theorem BothR.lo (o : BothR S n h b T s k) : ∀ i, bF b T s i → n ≤ i ∧ i < h.size := by
 rintro i (hi | rfl | ⟨a, ha, rfl⟩)
 ·exact o.t.lo i hi
 ·exact o.ob.lt rfl
 ·exact o.at_.own.lt ha
theorem BothR.few (o : BothR S n h b T s k) : (txA T).length ≤ 50000 + 64 * k := by
 have h2 := (toksL_le (enc := T.enc) o.t.cur.bytes).1
 rw [txA_len, els_len]
 have := o.len
 omega
end Go.Sw.Piece

set_option linter.unusedVariables false
set_option linter.unusedSimpArgs false
set_option maxRecDepth 100000
namespace Go.Sw.Piece
open Go.Sw.Any Go.Sw.Codec
open Go.Sw.Tree (iv s_putAll s_newP s_getP s_getT s_putP eqI_self Placed cell_own wp_whileG minI_eq)
variable {P : Program} {S : Ids} {h : Heap} {Q : Nat → List Value → Heap → Prop}
variable {A : List Int} {m n k N : Nat} {w a : Addr} {ls : Sl} {af : Int}
end Go.Sw.Piece

set_option linter.unusedVariables false
set_option linter.unusedSimpArgs false
set_option maxRecDepth 100000
namespace Go.Sw.Piece
open Go.Sw.Any Go.Sw.Codec
open Go.Sw.Tree (iv s_putAll s_newP s_getP s_getT s_putP eqI_self Placed cell_own wp_whileG minI_eq)
variable {P : Program} {S : Ids} {h : Heap} {Q : Nat → List Value → Heap → Prop}
structure ClY (P : Program) (S : Ids) : Prop where
 y1 : ∀ (k : Int) (x : LnD) (a : Option Addr), Dyn P (.func (.func S.f_Both_alls_1) #[] #[.pointer a]) (Ts.inj [.one (.int .i64), t4] (k, x, ())) (F_Both_alls_1 S k x a)
 y2 : ∀ (k : Int) (x : LnD) (a : Option Addr), Dyn P (.func (.func S.f_Both_alls_2) #[] #[.pointer a]) (Ts.inj [.one (.int .i64), t4] (k, x, ())) (F_Both_alls_2 S k x a)
 y3 : ∀ (k : Int) (x : LnD) (a b c : Option Addr), Dyn P (.func (.func S.f_Both_alls_3) #[] #[.pointer a, .pointer b, .pointer c]) (Ts.inj [.one (.int .i64), t4] (k, x, ())) (F_Both_alls_3 S k x a b c)
 y4 : ∀ (k : Int) (x : LnD) (a : Option Addr), Dyn P (.func (.func S.f_Both_alls_3_1) #[] #[.pointer a]) (Ts.inj [.one (.int .i64), t4] (k, x, ())) (F_Both_alls_3_1 S k x a)
variable {A : List Int} {n : Nat} {w v a b c : Addr} {ls : Sl}
end Go.Sw.Piece

set_option linter.unusedVariables false
set_option linter.unusedSimpArgs false
set_option maxRecDepth 100000
namespace Go.Sw.Piece
open Go.Sw.Any Go.Sw.Codec
open Go.Sw.Tree (iv s_putAll s_newP s_getP s_getT s_putP eqI_self Placed cell_own wp_whileG minI_eq)
variable {P : Program} {S : Ids} {h : Heap} {Q : Nat → List Value → Heap → Prop}
abbrev OpD := Int × Int × Int × Int × Sl × Unit
abbrev bO : List B := [.int .i64, .int .i64, .int .i64, .int .i64, .sl]
variable {n k : Nat} {b : Addr} {T : TX} {s : Sl} {o : OpD}
end Go.Sw.Piece

set_option linter.unusedVariables false
set_option linter.unusedSimpArgs false
set_option maxRecDepth 100000
namespace Go.Sw.Piece
open Go.Sw.Any Go.Sw.Codec
open Go.Sw.Tree (iv s_putAll s_newP s_getP s_getT s_putP eqI_self Placed cell_own wp_whileG minI_eq)
variable {P : Program} {S : Ids} {h : Heap} {Q : Nat → List Value → Heap → Prop}
variable {n k : Nat} {b : Addr} {T : TX} {s : Sl} {o : OpD}
end Go.Sw.Piece

set_option linter.unusedVariables false
set_option linter.unusedSimpArgs false
set_option maxRecDepth 100000
namespace Go.Sw.Piece
open Go.Sw.Any Go.Sw.Codec
open Go.Sw.Tree (iv s_putAll s_newP s_getP s_getT s_putP eqI_self Placed cell_own wp_whileG minI_eq)
variable {P : Program} {S : Ids} {h : Heap} {Q : Nat → List Value → Heap → Prop}
variable {n k : Nat} {b : Addr} {T : TX} {s : Sl} {o : OpD}
end Go.Sw.Piece

set_option linter.unusedVariables false
set_option linter.unusedSimpArgs false
set_option maxRecDepth 100000
namespace Go.Sw.Piece
open Go.Sw.Any Go.Sw.Codec
open Go.Sw.Tree (iv s_putAll s_newP s_getP s_getT s_putP eqI_self Placed cell_own wp_whileG minI_eq)
variable {P : Program} {S : Ids} {h : Heap} {Q : Nat → List Value → Heap → Prop}
abbrev StSh : Sh := .str (.pair (.int .i64) (.pair (.list (.int .u8)) .unit))
abbrev StX := Int × (Sl × List Int) × Unit
abbrev OpSh : Sh := .str (.pair (.int .i64) (.pair (.int .i64) (.pair (.int .i64) (.pair (.int .i64) (.pair (.list (.int .i64)) .unit)))))
abbrev OpX := Int × Int × Int × Int × (Sl × List Int) × Unit
abbrev Scr := Sl × List OpX
structure TwoR (S : Ids) (n : Nat) (h : Heap) (a b : Addr) (T1 : TX) (s1 : Sl) (T2 : TX) (s2 : Sl) (k : Nat) : Prop where
 one : BothR S n h a T1 s1 k
 two : BothR S n h b T2 s2 k
 dis : ∀ i, bF a T1 s1 i → ¬ bF b T2 s2 i
variable {n k : Nat} {a b : Addr} {T1 T2 : TX} {s1 s2 : Sl}
theorem OpB.both {m : Nat} {l : List Int} {T : TX} {s : Sl} {h' : Heap} {a : Addr} {m' : Nat} (o : OpB S m h l T s) (hn : n ≤ m) (e : Ext h h') (ob : Own m' 1 h' ⟨some a, 2, 2⟩ (Bs.inj bB ((some T.p, s, ()) : BoD))) (hm : n ≤ m') (ha : h.size ≤ a.block) : BothR S n h' a T s 0 :=
 ⟨text_low (o.t.ext e) hn, ob.mono hm, (o.at_.ext e).mono hn, o.limit, by have := o.len; omega, by rw [o.A]; exact Nat.zero_le _, fun hz => by have := (o.t.lo _ hz).2; omega, fun x hx => ⟨o.dis x hx, by have := (o.at_.own.lt hx).2; omega⟩⟩
theorem op_wt {z : Scr} {w : Nat} (hw : (Sh.list OpSh).wt z ≤ w) {i : Nat} {e : OpX} (he : z.2[i]? = some e) : e.2.2.2.2.1.2.length ≤ w := by
 have h1 : OpSh.wt e ≤ (z.2.map OpSh.wt).sum := sum_mem_le OpSh.wt (List.mem_of_getElem? he)
 have h2 : (z.2.map OpSh.wt).sum + 1 = (Sh.list OpSh).wt z := rfl
 have h3 : e.2.2.2.2.1.2.length ≤ OpSh.wt e := by
  have h4 : (e.2.2.2.2.1.2.map (Sh.int .i64).wt).sum = e.2.2.2.2.1.2.length := by
   generalize e.2.2.2.2.1.2 = l
   induction l with
   | nil => rfl
   | cons x l ih => simp only [List.map_cons, List.sum_cons, ih, List.length_cons]; show 1 + _ = _; omega
  show _ ≤ 1 + (1 + (1 + (1 + (((e.2.2.2.2.1.2.map (Sh.int .i64).wt).sum + 1) + 0)))) + 1
  omega
 omega
end Go.Sw.Piece

set_option linter.unusedVariables false
set_option maxRecDepth 100000
namespace Go.Sw.Piece
open Go.Sw.Any Go.Sw.Codec
variable {P : Program} {S : Ids} {h : Heap}
end Go.Sw.Piece

set_option linter.unusedVariables false
set_option linter.unusedSimpArgs false
set_option maxRecDepth 100000
namespace Go.Sw.Piece
open Go.Sw.Any Go.Sw.Codec
def spellF (q : Nat) : List Int := if q = 1 then [10] else if q = 2 then [13, 10] else if q = 3 then [13] else []
structure LineR (A : List Int) (i T N q : Nat) : Prop where
 is : lineD A i = ((startN A i : Int), (T : Int), (N : Int), (q : Int), ())
 st : startN A i ≤ T
 tn : T ≤ N
 nl : N ≤ A.length
 q3 : q ≤ 3
 plain : ∀ j, startN A i ≤ j → j < T → A.getD j 0 ≠ 10 ∧ A.getD j 0 ≠ 13
 spell : (A.drop T).take (N - T) = spellF q
 cr : q = 3 → A.getD N 0 ≠ 10
 of : ∀ j, startN A i ≤ j → j < N → cntE A j = i
 more : i < nB A → startN A (i + 1) = N ∧ q ≠ 0
 last : i = nB A → N = A.length ∧ T = A.length ∧ q = 0
end Go.Sw.Piece

set_option linter.unusedVariables false
set_option linter.unusedSimpArgs false
set_option maxRecDepth 100000
namespace Go.Sw.Piece
open Go.Sw.Any Go.Sw.Codec
open Go.Sw.Tree (iv s_putAll s_newP s_getP s_getT s_putP eqI_self Placed cell_own wp_whileG minI_eq)
variable {P : Program} {S : Ids} {h : Heap} {Q : Nat → List Value → Heap → Prop}
theorem bind_no {m : Prog} {K : Bool × Unit → Prog} {Y : Prog} (hm : wp P m h fun t vs h' => t = 0 ∧ Ext h h' ∧ ∃ b, vs = [.bool b] ∧ (b = true ↔ False)) (hk : ∀ h', Ext h h' → wp P (K (Bool.false, ())) h' Q) : wp P (.bind m fun t vs => ifB (eqN t 0) (.cast [.one .bool] vs K) Y) h Q :=
 bind_bool False hm fun b h' e hb => by
  have : b = false := by
   cases b with
   | false => rfl
   | true => exact (hb.1 rfl).elim
  subst this
  exact hk h' e
theorem f_ret2 {h0 h1 : Heap} {b : Bool} (e : Ext h1 h0) (hb : b = false) : wp P (.ret 0 [.bool b]) h0 fun t vs h' => t = 0 ∧ Ext h1 h' ∧ ∃ b, vs = [.bool b] ∧ (b = true ↔ False) := s_ret ⟨rfl, e, b, rfl, Iff.intro (fun h => by rw [hb] at h; cases h) False.elim⟩
end Go.Sw.Piece

set_option linter.unusedVariables false
set_option linter.unusedSimpArgs false
set_option maxRecDepth 100000
namespace Go.Sw.Piece
open Go.Sw.Any Go.Sw.Codec
open Go.Sw.Tree (iv s_putAll s_newP s_getP s_getT s_putP eqI_self Placed cell_own wp_whileG minI_eq)
variable {P : Program} {S : Ids} {h : Heap} {Q : Nat → List Value → Heap → Prop}
end Go.Sw.Piece

set_option linter.unusedVariables false
set_option linter.unusedSimpArgs false
set_option maxRecDepth 100000
namespace Go.Sw.Piece
open Go.Sw.Any Go.Sw.Codec
open Go.Sw.Tree (iv s_putAll s_newP s_getP s_getT s_putP eqI_self Placed cell_own wp_whileG minI_eq)
variable {P : Program} {S : Ids} {h : Heap} {Q : Nat → List Value → Heap → Prop}
structure ClK (P : Program) (S : Ids) : Prop where
 k1 : ∀ (k : Int) (x : LnD) (a : Option Addr), Dyn P (.func (.func S.f_law6_LinesLater_1) #[] #[.pointer a]) (Ts.inj [.one (.int .i64), t4] (k, x, ())) (F_law6_LinesLater_1 S k x a)
 k2 : ∀ (k : Int) (x : LnD) (a : Option Addr), Dyn P (.func (.func S.f_law6_LinesLater_2) #[] #[.pointer a]) (Ts.inj [.one (.int .i64), t4] (k, x, ())) (F_law6_LinesLater_2 S k x a)
end Go.Sw.Piece

set_option linter.unusedVariables false
set_option linter.unusedSimpArgs false
set_option maxRecDepth 100000
namespace Go.Sw.Piece
open Go.Sw.Any Go.Sw.Codec
end Go.Sw.Piece

set_option linter.unusedVariables false
set_option linter.unusedSimpArgs false
set_option maxRecDepth 100000
namespace Go.Sw.Piece
open Go.Sw.Any Go.Sw.Codec
open Go.Sw.Tree (iv s_putAll s_newP s_getP s_getT s_putP eqI_self Placed cell_own wp_whileG minI_eq)
variable {P : Program} {S : Ids} {h : Heap} {Q : Nat → List Value → Heap → Prop}
end Go.Sw.Piece

set_option linter.unusedVariables false
set_option linter.unusedSimpArgs false
set_option maxRecDepth 100000
namespace Go.Sw.Piece
open Go.Sw.Any Go.Sw.Codec
open Go.Sw.Tree (iv s_putAll s_newP s_getP s_getT s_putP eqI_self Placed cell_own wp_whileG minI_eq)
variable {P : Program} {S : Ids} {h : Heap} {Q : Nat → List Value → Heap → Prop}
end Go.Sw.Piece

set_option linter.unusedVariables false
set_option linter.unusedSimpArgs false
set_option maxRecDepth 100000
namespace Go.Sw.Piece
open Go.Sw.Any Go.Sw.Codec
variable {P : Program} {S : Ids} {h : Heap} {Q : Nat → List Value → Heap → Prop}
structure EdR (S : Ids) (n : Nat) (h h' : Heap) (T T' : TX) (f t' : Nat) (l : List Int) : Prop where
 chg : Chg (wfoot T) h h'
 t : TextR S n h' T'
 nx : Nxt T T' h.size
 A : txA T' = (txA T).take f ++ l ++ (txA T).drop t'
 ad : T'.A.length ≤ T.A.length + 4 * l.length
 len : (bytesL T'.cur.ps).length ≤ (bytesL T.cur.ps).length + 4 * l.length
end Go.Sw.Piece

set_option linter.unusedVariables false
set_option linter.unusedSimpArgs false
set_option maxRecDepth 100000
namespace Go.Sw.Piece
open Go.Sw.Any Go.Sw.Codec
variable {P : Program} {S : Ids} {h : Heap} {Q : Nat → List Value → Heap → Prop}
end Go.Sw.Piece

set_option linter.unusedVariables false
set_option linter.unusedSimpArgs false
set_option maxRecDepth 100000
namespace Go.Sw.Piece
open Go.Sw.Any Go.Sw.Codec
variable {P : Program} {S : Ids} {h : Heap} {Q : Nat → List Value → Heap → Prop}
structure SmR (S : Ids) (n : Nat) (h : Heap) (b : Addr) (T : TX) (s : Sl) (k : Nat) : Prop where
 t : TextR S n h T
 ob : Own n 1 h ⟨some b, 2, 2⟩ (Bs.inj bB ((some T.p, s, ()) : BoD))
 limit : T.limit = 65536
 len : (bytesL T.cur.ps).length ≤ 50000 + 4 * k
 A : T.A.length ≤ 4 * k
 db : ¬ T.Z b.block
variable {n k : Nat} {b : Addr} {T : TX} {s : Sl}
end Go.Sw.Piece

set_option linter.unusedVariables false
set_option linter.unusedSimpArgs false
set_option maxRecDepth 100000
namespace Go.Sw.Piece
open Go.Sw.Any Go.Sw.Codec
end Go.Sw.Piece

set_option linter.unusedVariables false
set_option linter.unusedSimpArgs false
set_option maxRecDepth 100000
namespace Go.Sw.Piece
open Go.Sw.Any Go.Sw.Codec
open Go.Sw.Tree (iv s_putAll s_newP s_getP s_getT s_putP eqI_self Placed cell_own wp_whileG minI_eq)
variable {P : Program} {S : Ids} {h : Heap} {Q : Nat → List Value → Heap → Prop}
variable {n k : Nat} {b : Addr} {T : TX} {s : Sl}
theorem s_of (M : Meth0 P S) (C : Cl0 P S) {q : Nat} {K : Int × Unit → Prog} (t : TextR S n h T) (hq : q ≤ (txA T).length) (hk : ∀ h', Ext h h' → wp P (K (((cntE (txA T) q : Nat) : Int), ())) h' Q) : wp P (.call (F_lines_Of S (some T.p) (q : Int)) [.one (.int .i64)] K) h Q :=
 wp_call (c_lOf M C t) fun ⟨(z : Int), _⟩ h1 e1 hz => by
  have hz : z = cntE (txA T) (min (max (q : Int) 0) (txA T).length).toNat := hz
  rw [show (min (max (q : Int) 0) (txA T).length).toNat = q by omega] at hz
  subst hz
  exact hk h1 e1
theorem s_newA {vs : List Value} {K : Addr → Prog} (hl : vs.length ≤ 1000) (hk : ∀ h', Ext h h' → Own h.size 1 h' ⟨some ⟨h.size, 0, none⟩, vs.length, vs.length⟩ vs → wp P (K ⟨h.size, 0, none⟩) h' Q) : wp P (.alloc vs K) h Q :=
 fun el => hk _ (Ext.push ..) (own_alloc (by simp) (Nat.le_refl _) (by omega))
end Go.Sw.Piece

set_option linter.unusedVariables false
set_option linter.unusedSimpArgs false
set_option maxRecDepth 100000
namespace Go.Sw.Piece
open Go.Sw.Any Go.Sw.Codec
structure CutR (A L : List Int) (f t : Nat) : Prop where
 ft : f ≤ t
 tl : t ≤ A.length
 is : L = A.take f ++ A.drop t
 len : L.length + (t - f) = A.length
 lo : ∀ j, j < f → L.getD j 0 = A.getD j 0
 hi : ∀ j, L.getD (f + j) 0 = A.getD (t + j) 0
 eq : ∀ j, j < f → isE L j = isE A j
variable {A L : List Int} {f t : Nat}
structure StartR (A : List Int) (f t : Nat) : Prop where
 f0 : f = 0 ∨ isE A (f - 1) = true
 t0 : t = 0 ∨ isE A (t - 1) = true
 seam : ¬ (0 < f ∧ t < A.length ∧ A.getD (f - 1) 0 = 13 ∧ A.getD t 0 = 10)
end Go.Sw.Piece

set_option linter.unusedVariables false
set_option linter.unusedSimpArgs false
set_option maxRecDepth 100000
namespace Go.Sw.Piece
open Go.Sw.Any Go.Sw.Codec
variable {A L : List Int} {f t : Nat}
end Go.Sw.Piece

set_option linter.unusedVariables false
set_option linter.unusedSimpArgs false
set_option maxRecDepth 100000
namespace Go.Sw.Piece
open Go.Sw.Any Go.Sw.Codec
open Go.Sw.Tree (iv s_putAll s_newP s_getP s_getT s_putP eqI_self Placed cell_own wp_whileG minI_eq)
variable {P : Program} {S : Ids} {h : Heap} {Q : Nat → List Value → Heap → Prop}
end Go.Sw.Piece

set_option linter.unusedVariables false
set_option linter.unusedSimpArgs false
set_option maxRecDepth 100000
namespace Go.Sw
variable {P : Program} {h : Heap} {Q : Nat → List Value → Heap → Prop}
theorem s_mark {n : Nat} {k : IntKind} {p : Option Addr} {c i : Nat} {m : Int} {K : Prog} (ho : OwnL n k h ⟨p, i, c⟩ (List.replicate i m)) (hi : i < c) (hv : fitsI k m)
  (hk : ∀ h', OwnL n k h' ⟨p, i + 1, c⟩ (List.replicate (i + 1) m) → Upd ⟨p, c, c⟩ h h' → wp P K h' Q) :
  wp P (grd (andB (someB p) (inB (i : Int) c)) (.store (shiftTo p (mulN (toN (i : Int)) 1)) [.int k m] K)) h Q := by
 obtain ⟨o1, o2, o3, o4⟩ := ho.own
 cases hb : p with
 | none =>
  rw [hb] at o4; simp only at o4
  omega
 | some a =>
  rw [hb] at o4
  obtain ⟨b, off, spot⟩ := a
  obtain ⟨e0, e1, e2, cs, elem, e3, e4, e5⟩ := o4
  simp only at e0 e1 e2 e3
  subst e0; subst e1; subst hb
  refine wp_grd (andB_iff.2 ⟨rfl, inB_is.2 ⟨by omega, by omega⟩⟩) ?_
  have hj : i < cs.size := by simp at e4; omega
  have hadd : ((Addr.mk b 0 none).add (mulN (toN (i : Int)) 1)) = ⟨b, i, none⟩ := by simp [add_mk, mulN, toN]
  obtain ⟨w, cs', c1, c2, c3, c4, c5, c6⟩ := puts_block (vs := [.int k m]) (i := 0) (off := i) e3 (by intro x hx; simp at hx; subst hx; rfl) (by simp; omega)
  refine ⟨⟨b, i, none⟩, by rw [shiftTo_some, hadd], w, hk _ ⟨⟨by simp, by dsimp only; omega, o3, rfl, rfl, e2, cs', elem, c1, by rw [c2, e4], fun j x hx => ?_⟩, ?_⟩ ⟨by unfold puts; omega, fun i hi hne => c6 i fun e => (hne _ rfl) e.symm, fun a e => by unfold puts; rw [thaw_putFrom]; exact e⟩⟩
  ·rw [List.getElem?_map, List.getElem?_replicate] at hx
   by_cases hji : j = i
   ·subst hji
    rw [if_pos (by omega)] at hx
    have := c3 0 _ rfl
    simp at hx this
    subst hx
    exact this
   ·split at hx
    ·rename_i hlt
     rw [c4 j (by simp; omega)]
     refine e5 j x ?_
     rw [List.getElem?_map, List.getElem?_replicate, if_pos (by omega)]; exact hx
    ·cases hx
  ·intro x hx; rw [List.eq_of_mem_replicate hx]; exact hv
end Go.Sw

set_option linter.unusedVariables false
set_option linter.unusedSimpArgs false
set_option maxRecDepth 100000
namespace Go.Sw.Piece
open Go.Sw.Any Go.Sw.Codec
open Go.Sw.Tree (iv s_putAll s_newP s_getP s_getT s_putP eqI_self Placed cell_own wp_whileG minI_eq)
variable {P : Program} {S : Ids} {h : Heap} {Q : Nat → List Value → Heap → Prop}
theorem partL_all (A : List Int) {m : Int} (hm : (A.length : Int) ≤ m) : partL A 0 m = A := by
 unfold partL
 rw [show (min m (A.length : Int)).toNat = A.length by omega, show (max (0 : Int) 0).toNat = 0 by decide, List.take_length, List.drop_zero]
end Go.Sw.Piece

set_option linter.unusedVariables false
set_option linter.unusedSimpArgs false
set_option maxRecDepth 100000
namespace Go.Sw.Piece
open Go.Sw.Any Go.Sw.Codec
open Go.Sw.Tree (iv s_putAll s_newP s_getP s_getT s_putP eqI_self Placed cell_own wp_whileG minI_eq)
variable {P : Program} {S : Ids} {h : Heap} {Q : Nat → List Value → Heap → Prop}
end Go.Sw.Piece

set_option linter.unusedVariables false
set_option linter.unusedSimpArgs false
set_option maxRecDepth 100000
namespace Go.Sw.Piece
open Go.Sw.Any Go.Sw.Codec
open Go.Sw.Tree (iv s_putAll s_newP s_getP s_getT s_putP eqI_self Placed cell_own wp_whileG minI_eq)
variable {P : Program} {S : Ids} {h : Heap} {Q : Nat → List Value → Heap → Prop}
end Go.Sw.Piece

set_option linter.unusedVariables false
set_option linter.unusedSimpArgs false
set_option maxRecDepth 100000
namespace Go.Sw.Piece
open Go.Sw.Any Go.Sw.Codec
open Go.Sw.Tree (iv s_putAll s_newP s_getP s_getT s_putP eqI_self Placed cell_own wp_whileG minI_eq)
variable {P : Program} {S : Ids} {h : Heap} {Q : Nat → List Value → Heap → Prop}
structure TuC where
 (aa as_ aw at_ an ag ai : Nat)
 b : Addr
 atv : Nat
 (scr ls : Sl)
 A1 : List Int
structure TuR (S : Ids) (n : Nat) (c : TuC) (h : Heap) (T : TX) (s : Sl) (k kn told : Nat) : Prop where
 B : BothR S n h c.b T s k
 ca : Cel 0 h ⟨c.aa, 0, none⟩ (i64v c.atv)
 cs : Cel 0 h ⟨c.as_, 0, none⟩ (slv c.scr)
 cw : Cel 0 h ⟨c.aw, 0, none⟩ (slv c.ls)
 ct : Cel 0 h ⟨c.at_, 0, none⟩ (i64v told)
 cn : Cel 0 h ⟨c.an, 0, none⟩ (i64v kn)
 cg : Cel 0 h ⟨c.ag, 0, none⟩ (.bool true)
 ci : Cel 0 h ⟨c.ai, 0, none⟩ (.pointer (some T.p))
 hl : LnL 0 h c.ls (linesL c.A1 (nB c.A1 + 1))
 ord : c.aa < c.as_ ∧ c.as_ < c.b.block ∧ c.b.block < c.aw ∧ c.aw < c.at_ ∧ c.at_ < c.an ∧ c.an < c.ag ∧ c.ag < c.ai
 lsb : ∀ x, c.ls.base = some x → c.b.block < x.block ∧ x.block < c.aw
 far : ∀ i, bF c.b T s i → i ≠ c.aa ∧ i ≠ c.as_ ∧ i ≠ c.aw ∧ i ≠ c.at_ ∧ i ≠ c.an ∧ i ≠ c.ag ∧ i ≠ c.ai ∧ ∀ x, c.ls.base = some x → i ≠ x.block
variable {n k kn told : Nat} {c : TuC} {T : TX} {s : Sl}
end Go.Sw.Piece

set_option linter.unusedVariables false
set_option linter.unusedSimpArgs false
set_option maxRecDepth 100000
namespace Go.Sw.Piece
open Go.Sw.Any Go.Sw.Codec
open Go.Sw.Tree (iv s_putAll s_newP s_getP s_getT s_putP eqI_self Placed cell_own wp_whileG minI_eq)
variable {P : Program} {S : Ids} {h : Heap} {Q : Nat → List Value → Heap → Prop}
structure ClT (P : Program) (S : Ids) : Prop where
 t1 : ∀ (k : Int) (x : LnD) (a b c d e f g : Option Addr), Dyn P (.func (.func S.f_law6_LinesTurned_1) #[] #[.pointer a, .pointer b, .pointer c, .pointer d, .pointer e, .pointer f, .pointer g]) (Ts.inj [.one (.int .i64), t4] (k, x, ())) (F_law6_LinesTurned_1 S k x a b c d e f g)
 t2 : ∀ (k : Int) (x : LnD) (a : Option Addr), Dyn P (.func (.func S.f_law6_LinesTurned_2) #[] #[.pointer a]) (Ts.inj [.one (.int .i64), t4] (k, x, ())) (F_law6_LinesTurned_2 S k x a)
end Go.Sw.Piece

set_option linter.unusedVariables false
set_option linter.unusedSimpArgs false
set_option maxRecDepth 100000
namespace Go.Sw
variable {P : Program} {h : Heap} {Q : Nat → List Value → Heap → Prop}
def StaysB (v : Value) (h h' : Heap) : Prop := ∀ (b : Nat) (cs : Array Value) (el : TypeId), h[b]? = some (.cells cs el) → ∃ cs' : Array Value, h'[b]? = some (.cells cs' el) ∧ cs'.size = cs.size ∧ ∀ j : Nat, cs[j]? = some v → cs'[j]? = some v
theorem StaysB.refl (v : Value) (h : Heap) : StaysB v h h := fun b cs el hb => ⟨cs, hb, rfl, fun _ h => h⟩
theorem StaysB.trans {v : Value} {a b c : Heap} (x : StaysB v a b) (y : StaysB v b c) : StaysB v a c := fun i cs el hi =>
 let ⟨cs', h1, h2, h3⟩ := x i cs el hi
 let ⟨cs'', g1, g2, g3⟩ := y i cs' el h1
 ⟨cs'', g1, g2.trans h2, fun j hj => g3 j (h3 j hj)⟩
theorem StaysB.of_ext {v : Value} {a b : Heap} (e : Ext a b) : StaysB v a b := fun i cs el hi => ⟨cs, (e.2.1 i (Array.getElem?_eq_some_iff.1 hi).1).trans hi, rfl, fun _ h => h⟩
theorem StaysB.own {n c : Nat} {k : IntKind} {m : Int} {a b : Heap} {s : Sl} (x : StaysB (.int k m) a b) (o : OwnL n k a s (List.replicate c m)) : OwnL n k b s (List.replicate c m) := by
 obtain ⟨a1, a2, a3, a4⟩ := o.own
 refine ⟨⟨a1, a2, a3, ?_⟩, o.wf⟩
 cases hb : s.base with
 | none => rw [hb] at a4; exact a4
 | some p =>
  rw [hb] at a4
  obtain ⟨d1, d2, d3, cs, el, d4, d5, d6⟩ := a4
  obtain ⟨cs', g1, g2, g3⟩ := x _ _ _ d4
  refine ⟨d1, d2, d3, cs', el, g1, g2.trans d5, fun i v hv => ?_⟩
  have := d6 i v hv
  rw [List.getElem?_map, List.getElem?_replicate] at hv
  split at hv
  ·simp at hv; subst hv; exact g3 i this
  ·simp at hv
theorem wp_appendB {n bytes : Nat} {zero : List Value} {v : Value} {s x : Sl} {old new : List Value} {K : Sl → Prog} (ho : Own n 1 h s old) (hn : n ≤ h.size) (hx : Rd 1 h x new)
  (hf : ∀ y ∈ new, flat y = true) (hv : ∀ y ∈ new, y = v) (hz : zero.length = 1) (hroom : (s.len + x.len) * bytes ≤ 140737488355328) (hlen : s.len + x.len < 2 ^ 63)
  (hk : ∀ r h', Own n 1 h' r (old ++ new) → Upd s h h' → (∀ a, r.base = some a → s.base = some a ∨ (h.size ≤ a.block)) → StaysB v h h' → wp P (K r) h' Q) :
  wp P (.append 1 bytes zero s x K) h Q := by
 refine ⟨new, by simpa using hx.firsts, ?_⟩
 obtain ⟨o1, o2, o3, o4⟩ := ho
 have hx1 := hx.1
 rw [Nat.mul_one] at o1 hx1
 have hlen' : (old ++ new).length = s.len + x.len := by rw [List.length_append, ← o1, ← hx1]
 by_cases hc : s.len + x.len ≤ s.cap
 ·simp only [hc, if_true]
  cases hb : s.base with
  | none =>
   rw [hb] at o4
   simp only at o4 ⊢
   have e1 : s.len = 0 := by omega
   have e2 : x.len = 0 := by omega
   exact hk _ _ ⟨by dsimp only; omega, hc, o3, o4⟩ ⟨Nat.le_refl _, fun _ _ _ => rfl, fun _ e => e⟩ (fun a ha => by cases ha) (StaysB.refl _ _)
  | some a =>
   rw [hb] at o4
   obtain ⟨b, off, spot⟩ := a
   obtain ⟨e0, e1, e2, cs, elem, e3, e4, e5⟩ := o4
   simp only at e0 e1 e2 e3
   subst e0; subst e1
   rw [Nat.mul_one] at e4
   have hfit : s.len + new.length ≤ cs.size := by omega
   have hadd : (Addr.mk b 0 none).add (s.len * 1) = ⟨b, s.len, none⟩ := by simp [add_mk]
   obtain ⟨w, cs', c1, c2, c3, c4, c5, c6⟩ := puts_block (i := 0) (off := s.len) e3 hf (by simpa using hfit)
   simp only [hadd]
   refine ⟨w, hk _ _ ⟨by dsimp only; omega, hc, o3, rfl, rfl, e2, cs', elem, c1, by dsimp only; omega, fun i v hi => ?_⟩ ⟨by unfold puts; omega, fun i hi hne => c6 i fun e => (hne _ hb) e.symm, fun a e => by unfold puts; rw [thaw_putFrom]; exact e⟩ (fun a ha => Or.inl (hb.trans ha)) fun p cp ep hp => ?_⟩
   ·rw [List.getElem?_append] at hi
    split at hi
    ·rename_i hlt
     rw [c4 i (Or.inl (by omega))]
     exact e5 i v hi
    ·rename_i hge
     have := c3 _ _ hi
     rw [o1] at this
     rw [show old.length + 0 + (i - old.length) = i by omega] at this
     exact this
   ·by_cases hpb : p = b
    ·subst hpb
     rw [e3] at hp
     cases hp
     refine ⟨cs', c1, c2, fun j hj => ?_⟩
     by_cases hr : j < s.len + 0 ∨ s.len + 0 + new.length ≤ j
     ·rw [c4 _ hr]; exact hj
     ·have hjl : j - s.len < new.length := by omega
      have := c3 (j - s.len) _ (List.getElem?_eq_getElem hjl)
      rw [show s.len + 0 + (j - s.len) = j by omega] at this
      rw [this, hv _ (List.getElem_mem _)]
    ·exact ⟨cp, (c6 p hpb).trans hp, rfl, fun _ h => h⟩
 ·simp only [hc, if_false]
  refine ⟨old, by have := Rd.firsts (Own.rd (n := n) (size := 1) (h := h) (s := s) (vs := old) ⟨by omega, o2, o3, o4⟩); simpa using this, growslice_fits (by omega) hroom, hlen, fun cap elem hcap hcap' => ?_⟩
  refine hk _ _ ⟨by dsimp only; omega, hcap, hcap', rfl, rfl, hn, _, elem, Array.getElem?_push_size, ?_, fun i v hi => ?_⟩ ⟨by simp, fun i hi _ => push_old h _ hi, (Ext.push h _ _).2.2⟩ (fun a ha => Or.inr (by cases ha; exact Nat.le_refl _)) (StaysB.of_ext (Ext.push h _ _))
  ·simp only [List.size_toArray, List.length_append, zeros_len hz]
   omega
  ·simp only [List.getElem?_toArray]
   rw [List.getElem?_append_left (by
    have := (List.getElem?_eq_some_iff.1 hi).1; exact this)]
   exact hi
theorem s_pushB {n bytes : Nat} {k : IntKind} {s : Sl} {c : Nat} {m : Int} {K : Sl → Prog} (ho : OwnL n k h s (List.replicate c m)) (hn : n ≤ h.size) (hv : fitsI k m) (hroom : (c + 1) * bytes ≤ 140737488355328) (hlen : c + 1 < 2 ^ 63)
  (hk : ∀ r h', Keep n h h' → OwnL n k h' r (List.replicate (c + 1) m) → Upd s h h' → (∀ a, r.base = some a → s.base = some a ∨ (h.size ≤ a.block)) → StaysB (.int k m) h h' → wp P (K r) h' Q) :
  wp P (.alloc [.int k m] fun a => .append 1 bytes [.int k 0] s ⟨some a, 1, 1⟩ K) h Q := by
 intro elem
 have e := Ext.push h #[Value.int k m] elem
 have hl := ho.len
 rw [List.length_replicate] at hl
 have o1 : Own h.size 1 (h.push (.cells [Value.int k m].toArray elem)) ⟨some ⟨h.size, 0, none⟩, 1, 1⟩ [.int k m] := own_alloc rfl (by decide) (by decide)
 have hb : ∀ a, s.base = some a → a.block < h.size := fun a ha => (ho.own.lt ha).2
 refine wp_appendB (v := .int k m) (ho.ext e).own (by have := e.size; omega) o1.rd (by intro y hy; rw [List.mem_singleton.1 hy]; rfl) (fun y hy => List.mem_singleton.1 hy) rfl (by rw [hl]; exact hroom) (by rw [hl]; exact hlen) fun r h' a b d ks => ?_
 have u : Upd s h h' := ⟨Nat.le_trans e.size b.1, fun i hi hne => (b.2.1 i (Nat.lt_of_lt_of_le hi e.size) hne).trans (e.2.1 i hi), fun x hx => b.2.2 x (e.2.2 x hx)⟩
 refine hk r h' (Upd.keep ho.own hn u) ⟨?_, ?_⟩ u (fun x hx => ?_) ((StaysB.of_ext e).trans ks)
 ·rw [List.replicate_succ', List.map_append]; exact a
 ·intro y hy; rw [List.eq_of_mem_replicate hy]; exact hv
 ·rcases d x hx with d | d
  ·exact .inl d
  ·exact .inr (by have := e.size; omega)
end Go.Sw

set_option linter.unusedVariables false
set_option linter.unusedSimpArgs false
set_option maxRecDepth 100000
namespace Go.Sw.Piece
open Go.Sw.Any Go.Sw.Codec
open Go.Sw.Tree (iv s_putAll s_newP s_getP s_getT s_putP eqI_self Placed cell_own wp_whileG minI_eq)
variable {P : Program} {S : Ids} {h : Heap} {Q : Nat → List Value → Heap → Prop}
abbrev HdD := Sl × Sl × Int × Unit
abbrev bH : List B := [.sl, .sl, .int .i64]
theorem flatH {x : HdD} : ∀ v, v ∈ Bs.inj bH x → flat v = true := by intro v hv; simp [Bs.inj] at hv; rcases hv with rfl | rfl | rfl <;> rfl
def HdR (n : Nat) (h : Heap) (x : HdD) : Prop := fitsI .i64 x.2.2.1 ∧ ∃ a c : Nat, OwnL n .i64 h x.1 (List.replicate a x.2.2.1) ∧ OwnL n .i64 h x.2.1 (List.replicate c x.2.2.1)
def hdB (x : HdD) (i : Nat) : Prop := (∃ a, x.1.base = some a ∧ a.block = i) ∨ ∃ a, x.2.1.base = some a ∧ a.block = i
theorem HdR.lo {n : Nat} {x : HdD} (r : HdR n h x) {i : Nat} (hi : hdB x i) : n ≤ i ∧ i < h.size := by
 obtain ⟨_, a, c, r1, r2⟩ := r
 rcases hi with ⟨y, hy, rfl⟩ | ⟨y, hy, rfl⟩
 ·exact r1.own.lt hy
 ·exact r2.own.lt hy
theorem HdR.chg {n : Nat} {x : HdD} {F : Nat → Prop} {h' : Heap} (r : HdR n h x) (c : Chg F h h') (hF : ∀ i, hdB x i → ¬ F i) : HdR n h' x := by
 obtain ⟨f, a, b, r1, r2⟩ := r
 exact ⟨f, a, b, c.ownL r1 fun y hy => hF _ (.inl ⟨y, hy, rfl⟩), c.ownL r2 fun y hy => hF _ (.inr ⟨y, hy, rfl⟩)⟩
def baseB (s : Sl) (i : Nat) : Prop := ∃ a, s.base = some a ∧ a.block = i
theorem c_hold {n : Nat} {l : Sl} {A : List Int} {m : Int} (o : OwnL n .i64 h l A) (hn : n ≤ h.size) (hm : fitsI .i64 m) (hA : A.length ≤ 1000000000) :
  wp P (F_law6_hold S l m) h fun tg vs h' => tg = 0 ∧ ∃ x : HdD × Unit, vs = Ts.inj [.agg bH] x ∧ Chg (baseB l) h h' ∧ HdR n h' x.1 ∧ ∀ i, hdB x.1 i → baseB l i ∨ h.size ≤ i := by
 unfold F_law6_hold
 have ll := o.len
 have lc := o.own.2.1
 have lm := o.own.2.2.1
 have hcb : cutBase l.base l.cap 0 1 = l.base := cutBase_zero _ _ _
 have hsn : subN (toN (natI l.cap)) 0 = l.cap := by rw [toN_def, natI_def]; rfl
 have hsc : subN l.cap 0 = l.cap := rfl
 refine s_newO (bs := bH) ((⟨none, 0, 0⟩, ⟨none, 0, 0⟩, 0, ()) : HdD) (by decide) fun h1 e1 o1 => ?_
 have q1 := e1.size
 have lb : ∀ a, l.base = some a → n ≤ a.block ∧ a.block < h.size := fun a ha => o.own.lt ha
 refine wp_grd (leB_ok (by rw [natI_def]; omega) (by rw [natI_def]; omega)) ?_
 rw [hcb, hsn, hsc]
 refine wp_while (fun (r : Int × Unit) h' => ∃ i : Nat, i ≤ l.cap ∧ r.1 = (i : Int) ∧ Chg (baseB l) h h' ∧ OwnL n .i64 h' ⟨l.base, i, l.cap⟩ (List.replicate i m) ∧ Own h.size 1 h' ⟨some ⟨h.size, 0, none⟩, 3, 3⟩ (Bs.inj bH ((⟨none, 0, 0⟩, ⟨none, 0, 0⟩, 0, ()) : HdD))) (fun r _ => (l.cap - r.1).toNat)
  (fun tag vs h' => tag = 2 ∧ vs = [] ∧ Chg (baseB l) h h' ∧ OwnL n .i64 h' ⟨l.base, l.cap, l.cap⟩ (List.replicate l.cap m) ∧ Own h.size 1 h' ⟨some ⟨h.size, 0, none⟩, 3, 3⟩ (Bs.inj bH ((⟨none, 0, 0⟩, ⟨none, 0, 0⟩, 0, ()) : HdD)))
  ⟨0, Nat.zero_le _, rfl, Chg.of_ext e1, ?_, o1⟩ ?_ ?_
 ·have o1' := o.ext e1
  obtain ⟨a1, a2, a3, a4⟩ := o1'.own
  refine ⟨⟨rfl, Nat.zero_le _, a3, ?_⟩, by intro y hy; simp at hy⟩
  cases hb : l.base with
  | none => rw [hb] at a4; exact a4
  | some a =>
   rw [hb] at a4
   obtain ⟨c1, c2, c3, cs, el, c4, c5, c6⟩ := a4
   exact ⟨c1, c2, c3, cs, el, c4, c5, fun i v hv => by simp at hv⟩
 ·rintro ⟨(r : Int), u⟩ h2 ⟨i, hi, hr, c2, o2, oa⟩
  dsimp only at hr ⊢
  subst hr
  refine wp_ifB (fun hc => ?_) fun hc => ?_
  ·rw [ltI_iff, natI_def] at hc
   refine s_mark o2 (by omega) hm fun h3 o3 u3 => ?_
   rw [add_ok (by omega) (by omega)]
   have g3 : Chg (baseB l) h2 h3 := Chg.of_upd u3 fun x hx _ => ⟨x, hx, rfl⟩
   refine s_ret ⟨fun _ => ⟨((i : Int) + 1, ()), rfl, ⟨i + 1, by omega, by dsimp only; omega, c2.trans g3 fun _ _ f => f, o3, g3.own oa fun x hx f => ?_⟩, by dsimp only; omega⟩, fun hh => absurd rfl hh⟩
   obtain ⟨y, hy, he⟩ := f
   cases hx
   have := (lb y hy).2
   dsimp only at he; omega
  ·rw [ltI_not, natI_def] at hc
   have : i = l.cap := by omega
   subst this
   exact s_ret ⟨fun hh => absurd hh (by decide), fun _ => ⟨rfl, rfl, c2, o2, oa⟩⟩
 rintro tag vs h2 ⟨rfl, rfl, c2, o2, oa⟩
 refine s_tag (s_cast0 ?_)
 have q2 := c2.1
 have ol : OwnL n .i64 h2 l (List.replicate A.length m) := by
  obtain ⟨a1, a2, a3, a4⟩ := o2.own
  refine ⟨⟨by simpa using ll, lc, lm, ?_⟩, by intro y hy; rw [List.eq_of_mem_replicate hy]; exact hm⟩
  cases hb : l.base with
  | none => rw [hb] at a4; exact a4
  | some a =>
   rw [hb] at a4
   obtain ⟨d1, d2, d3, cs, el, d4, d5, d6⟩ := a4
   refine ⟨d1, d2, d3, cs, el, d4, d5, fun i v hv => d6 i v ?_⟩
   rw [List.getElem?_map, List.getElem?_replicate] at hv ⊢
   split at hv
   ·rw [if_pos (by omega)]; exact hv
   ·cases hv
 refine wp_while (fun (r : Sl × Int × Unit) h' => ∃ i : Nat, i ≤ 100 ∧ r.2.1 = (i : Int) ∧ Chg (baseB l) h h' ∧ h2.size ≤ h'.size ∧ OwnL n .i64 h' ⟨l.base, l.cap, l.cap⟩ (List.replicate l.cap m) ∧ OwnL n .i64 h' r.1 (List.replicate (A.length + i) m) ∧ (∀ a, r.1.base = some a → l.base = some a ∨ h2.size ≤ a.block) ∧ Own h.size 1 h' ⟨some ⟨h.size, 0, none⟩, 3, 3⟩ (Bs.inj bH ((⟨none, 0, 0⟩, ⟨none, 0, 0⟩, 0, ()) : HdD))) (fun r _ => (100 - r.2.1).toNat)
  (fun tag vs h' => tag = 4 ∧ ∃ r : Sl, vs = [slv r] ∧ Chg (baseB l) h h' ∧ h2.size ≤ h'.size ∧ OwnL n .i64 h' ⟨l.base, l.cap, l.cap⟩ (List.replicate l.cap m) ∧ OwnL n .i64 h' r (List.replicate (A.length + 100) m) ∧ (∀ a, r.base = some a → l.base = some a ∨ h2.size ≤ a.block) ∧ Own h.size 1 h' ⟨some ⟨h.size, 0, none⟩, 3, 3⟩ (Bs.inj bH ((⟨none, 0, 0⟩, ⟨none, 0, 0⟩, 0, ()) : HdD)))
  ⟨0, by omega, rfl, c2, Nat.le_refl _, o2, ol, fun a ha => .inl ha, oa⟩ ?_ ?_
 ·rintro ⟨(r : Sl), (i' : Int), u⟩ h3 ⟨i, hi, hi', c3, q3, o3, or3, hb3, oa3⟩
  dsimp only at hi' or3 hb3 ⊢
  subst hi'
  refine wp_ifB (fun hc => ?_) fun hc => ?_
  ·rw [ltI_iff] at hc
   have q03 := c3.1
   refine s_pushB or3 (by omega) hm (by omega) (by omega) fun r2 h4 k4 o4 u4 b4 st4 => ?_
   rw [add_ok (by omega) (by omega)]
   have g4 : Chg (fun j => baseB l j ∨ h2.size ≤ j) h3 h4 := Chg.of_upd u4 fun x hx _ => by
    rcases hb3 x hx with hx | hx
    ·exact .inl ⟨x, hx, rfl⟩
    ·exact .inr hx
   have c4 : Chg (baseB l) h h4 := c3.trans g4 fun j hj f => by
    rcases f with f | f
    ·exact f
    ·omega
   refine s_ret ⟨fun _ => ⟨(r2, (i : Int) + 1, ()), rfl, ⟨i + 1, by omega, by dsimp only; omega, c4, by have := g4.1; omega, st4.own o3, o4, fun a ha => ?_, g4.own oa3 fun x hx f => ?_⟩, by dsimp only; omega⟩, fun hh => absurd rfl hh⟩
   ·rcases b4 a ha with ha | ha
    ·exact hb3 a ha
    ·exact .inr (by omega)
   ·cases hx
    have : h.size < h2.size := (oa.lt rfl).2
    rcases f with ⟨y, hy, he⟩ | f
    ·have := (lb y hy).2; dsimp only at he; omega
    ·dsimp only at f; omega
  ·rw [ltI_not] at hc
   have : i = 100 := by omega
   subst this
   exact s_ret ⟨fun hh => absurd hh (by decide), fun _ => ⟨rfl, r, rfl, c3, q3, o3, or3, hb3, oa3⟩⟩
 rintro tag vs h3 ⟨rfl, r, rfl, c3, q3, o3, or3, hb3, oa3⟩
 refine s_tag (wp_cast (tys := [.one .sl]) (r, ()) rfl ?_)
 refine s_stoO (bs := bH) ((⟨l.base, l.cap, l.cap⟩, r, m, ()) : HdD) oa3 flatH fun h4 o4 u4 => s_getO (bs := bH) o4 (s_ret ⟨rfl, ((⟨l.base, l.cap, l.cap⟩, r, m, ()), ()), rfl, ?_, ?_, fun i hi => ?_⟩)
 ·have g4 : Chg (fun i => i = h.size) h3 h4 := Chg.of_upd u4 fun x hx _ => by cases hx; rfl
  exact c3.trans g4 fun i hi f => by omega
 ·have g4 : Chg (fun i => i = h.size) h3 h4 := Chg.of_upd u4 fun x hx _ => by cases hx; rfl
  have l2 : h.size < h2.size := (oa.lt rfl).2
  refine ⟨hm, l.cap, A.length + 100, g4.ownL o3 fun y hy f => by have := (lb y hy).2; omega, g4.ownL or3 fun y hy f => ?_⟩
  rcases hb3 y hy with hy | hy
  ·have := (lb y hy).2; omega
  ·omega
 ·rcases hi with ⟨y, hy, rfl⟩ | ⟨y, hy, rfl⟩
  ·exact .inl ⟨y, hy, rfl⟩
  ·rcases hb3 y hy with hy | hy
   ·exact .inl ⟨y, hy, rfl⟩
   ·exact .inr (by omega)
end Go.Sw.Piece

set_option linter.unusedVariables false
set_option linter.unusedSimpArgs false
set_option maxRecDepth 100000
namespace Go.Sw.Piece
open Go.Sw.Any Go.Sw.Codec
open Go.Sw.Tree (iv s_putAll s_newP s_getP s_getT s_putP eqI_self Placed cell_own wp_whileG minI_eq)
variable {P : Program} {S : Ids} {h : Heap} {Q : Nat → List Value → Heap → Prop}
def c3 (l : List HdD) : List Value := l.flatMap fun x => Bs.inj bH x
theorem c3_len (l : List HdD) : (c3 l).length = l.length * 3 := by
 unfold c3
 induction l with
 | nil => rfl
 | cons x l ih => rw [List.flatMap_cons, List.length_append, ih]; simp only [List.length_cons]; show 3 + l.length * 3 = _; omega
theorem c3_at : ∀ (l : List HdD) (i : Nat) (y : HdD), l[i]? = some y → ∀ (j : Nat) (v : Value), (Bs.inj bH y)[j]? = some v → (c3 l)[i * 3 + j]? = some v
 | [], i, y, h, _, _, _ => by simp at h
 | x :: l, 0, y, h, j, v, hv => by
  simp at h; subst h
  unfold c3
  rw [List.flatMap_cons, Nat.zero_mul, Nat.zero_add, List.getElem?_append_left (List.getElem?_eq_some_iff.1 hv).1]; exact hv
 | x :: l, i + 1, y, h, j, v, hv => by
  have := c3_at l i y (by simpa using h) j v hv
  unfold c3 at this ⊢
  rw [List.flatMap_cons, List.getElem?_append_right (by show 3 ≤ _; omega)]
  rw [show (i + 1) * 3 + j - (Bs.inj bH x).length = i * 3 + j by show (i + 1) * 3 + j - 3 = _; omega]
  exact this
theorem c3_snoc (l : List HdD) (y : HdD) : c3 (l ++ [y]) = c3 l ++ Bs.inj bH y := by unfold c3; rw [List.flatMap_append]; simp
abbrev HdL (n : Nat) (h : Heap) (s : Sl) (l : List HdD) : Prop := Own n 3 h s (c3 l)
theorem HdL.len {n : Nat} {s : Sl} {l : List HdD} (o : HdL n h s l) : s.len = l.length := by have := o.1; rw [c3_len] at this; omega
theorem s_pushH {n : Nat} {s : Sl} {l : List HdD} (y : HdD) {K : Sl → Prog} (o : HdL n h s l) (hn : n ≤ h.size) (hl : l.length ≤ 1073741824) (hk : ∀ r h', HdL n h' r (l ++ [y]) → Upd s h h' → (∀ a, r.base = some a → s.base = some a ∨ h.size ≤ a.block) → wp P (K r) h' Q) :
  wp P (.alloc (Bs.inj bH y) fun a => .append 3 56 [.slice none 0 0, .slice none 0 0, .int .i64 0] s ⟨some a, 1, 1⟩ K) h Q := by
 have ls := o.len
 exact wp_push o hn rfl flatH rfl (by rw [ls]; omega) (by rw [ls]; omega) fun r h' a b c d => hk r h' (by show Own n 3 h' r _; rw [c3_snoc]; exact a) c d
theorem s_ldH {n i : Nat} {s : Sl} {l : List HdD} {y : HdD} {K : HdD → Prog} (o : HdL n h s l) (hi : l[i]? = some y) (hk : wp P (K y) h Q) :
  wp P (grd (andB (someB s.base) (inB (i : Int) s.len)) <| .load (.agg bH) (shiftTo s.base (mulN (toN (i : Int)) 3)) K) h Q := by
 have ls := o.len
 have hlt := (List.getElem?_eq_some_iff.1 hi).1
 obtain ⟨a, ea, c0⟩ := o.rd.2 (i * 3 + 0) _ (c3_at l i y hi 0 _ rfl)
 refine wp_grd (andB_iff.2 ⟨by simp [someB, ea], inB_is.2 ⟨by omega, by omega⟩⟩) ⟨a.add (i * 3), by simp [shiftTo, ea, mulN, toN], y, ?_, hk⟩
 refine cells_iff.2 fun j v hj => ?_
 obtain ⟨a', ea', c⟩ := o.rd.2 (i * 3 + j) _ (c3_at l i y hi j v hj)
 rw [ea] at ea'; cases ea'
 rw [add_add]; exact c
theorem s_atM {n a : Nat} {m : Int} {s : Sl} {K : Int → Prog} {i : Nat} (o : OwnL n .i64 h s (List.replicate a m)) (hi : i < a) (hk : wp P (K m) h Q) :
  wp P (grd (andB (someB s.base) (inB (i : Int) s.len)) (.load (.one (.int .i64)) (shiftTo s.base (mulN (toN (i : Int)) 1)) K)) h Q := by
 refine s_at o.lst (by omega) (by rw [List.length_replicate]; omega) fun _ => ?_
 have : (List.replicate a m).getD ((i : Nat) : Int).toNat 0 = m := by
  rw [Int.toNat_natCast, List.getD_eq_getElem?_getD, List.getElem?_replicate, if_pos hi]; rfl
 rw [this]; exact hk
theorem c_stands {n m : Nat} {s : Sl} {H : List HdD} (o : HdL n h s H) (r : ∀ x, x ∈ H → HdR m h x) (hl : H.length ≤ 1000000) : Gives P (F_law6_stands S s) [.one .bool] h fun (y : Bool × Unit) _ => y.1 = true := by
 unfold F_law6_stands Gives
 have ls := o.len
 refine wp_while (fun (r : Int × Unit) h' => ∃ i : Nat, i ≤ H.length ∧ r.1 = (i : Int) ∧ Ext h h') (fun r _ => (H.length - r.1).toNat) (fun tag vs h' => tag = 2 ∧ vs = [] ∧ Ext h h') ⟨0, Nat.zero_le _, rfl, Ext.refl _⟩ ?_ ?_
 ·rintro ⟨(i' : Int), u⟩ h1 ⟨i, hi, hi', e1⟩
  dsimp only at hi' ⊢
  subst hi'
  refine wp_ifB (fun hc => ?_) fun hc => ?_
  ·rw [ltI_iff, natI_def, ls] at hc
   have hil : i < H.length := by omega
   obtain ⟨x, hx⟩ : ∃ x, H[i]? = some x := ⟨H[i], List.getElem?_eq_getElem hil⟩
   obtain ⟨fm, a, c, r1, r2⟩ := r x (List.mem_of_getElem? hx)
   obtain ⟨x1, x2, x3, u⟩ := x
   dsimp only at r1 r2 fm
   refine s_ldH (o.ext e1) hx (s_putO (bs := bH) (z := ((⟨none, 0, 0⟩, ⟨none, 0, 0⟩, 0, ()) : HdD)) ((x1, x2, x3, ()) : HdD) (by decide) flatH fun h2 e2 o2 => ?_)
   have e12 := e1.trans e2
   have l1 := r1.len
   have l2 := r2.len
   have lc1 := r1.own.2.2.1
   have lc1' := r1.own.2.1
   have lc2 := r2.own.2.2.1
   have lc2' := r2.own.2.1
   rw [List.length_replicate] at l1 l2
   refine wp_while (fun (q : Int × Unit) h' => ∃ j : Nat, j ≤ a ∧ q.1 = (j : Int) ∧ h' = h2) (fun q _ => (a - q.1).toNat) (fun tag vs h' => tag = 4 ∧ vs = [] ∧ h' = h2) ⟨0, Nat.zero_le _, rfl, rfl⟩ ?_ ?_
   ·rintro ⟨(j' : Int), u⟩ h2 ⟨j, hj, hj', rfl⟩
    dsimp only at hj' ⊢
    subst hj'
    refine s_cell (b := .sl) x1 rfl o2.cells rfl (wp_ifB (fun hd => ?_) fun hd => s_ret ⟨fun hh => absurd hh (by decide), fun _ => ⟨rfl, rfl, rfl⟩⟩)
    rw [ltI_iff, natI_def, l1] at hd
    refine s_cell (b := .sl) x1 rfl o2.cells rfl (s_atM (r1.ext e12) (by omega) (s_cell (b := .int .i64) x3 rfl o2.cells rfl (wp_ifB (fun hh => by rw [neI_iff] at hh; exact absurd rfl hh) fun _ => ?_)))
    rw [add_ok (by omega) (by omega)]
    exact s_ret ⟨fun _ => ⟨((j : Int) + 1, ()), rfl, ⟨j + 1, by omega, by dsimp only; omega, rfl⟩, by dsimp only; omega⟩, fun hh => absurd rfl hh⟩
   rintro tag vs h2 ⟨rfl, rfl, rfl⟩
   refine s_tag (s_cast0 ?_)
   refine wp_while (fun (q : Int × Unit) h' => ∃ j : Nat, j ≤ c ∧ q.1 = (j : Int) ∧ h' = h2) (fun q _ => (c - q.1).toNat) (fun tag vs h' => tag = 6 ∧ vs = [] ∧ h' = h2) ⟨0, Nat.zero_le _, rfl, rfl⟩ ?_ ?_
   ·rintro ⟨(j' : Int), u⟩ h2 ⟨j, hj, hj', rfl⟩
    dsimp only at hj' ⊢
    subst hj'
    refine s_cell (b := .sl) x2 rfl o2.cells rfl (wp_ifB (fun hd => ?_) fun hd => s_ret ⟨fun hh => absurd hh (by decide), fun _ => ⟨rfl, rfl, rfl⟩⟩)
    rw [ltI_iff, natI_def, l2] at hd
    refine s_cell (b := .sl) x2 rfl o2.cells rfl (s_atM (r2.ext e12) (by omega) (s_cell (b := .int .i64) x3 rfl o2.cells rfl (wp_ifB (fun hh => by rw [neI_iff] at hh; exact absurd rfl hh) fun _ => ?_)))
    rw [add_ok (by omega) (by omega)]
    exact s_ret ⟨fun _ => ⟨((j : Int) + 1, ()), rfl, ⟨j + 1, by omega, by dsimp only; omega, rfl⟩, by dsimp only; omega⟩, fun hh => absurd rfl hh⟩
   rintro tag vs h2 ⟨rfl, rfl, rfl⟩
   refine s_tag (s_cast0 ?_)
   rw [add_ok (by omega) (by omega)]
   exact s_ret ⟨fun _ => ⟨((i : Int) + 1, ()), rfl, ⟨i + 1, hil, by dsimp only; omega, e12⟩, by dsimp only; omega⟩, fun hh => absurd rfl hh⟩
  ·exact s_ret ⟨fun hh => absurd hh (by decide), fun _ => ⟨rfl, rfl, e1⟩⟩
 ·rintro tag vs h1 ⟨rfl, rfl, e1⟩
  exact s_tag (s_cast0 (s_ret ⟨rfl, e1, (_, ()), rfl, rfl⟩))
structure KpR (n : Nat) (h : Heap) (rho : Nat → Nat) (hs qs : Sl) (H : List HdD) (Qs : List Sl) (q0 : Nat) : Prop where
 oh : HdL n h hs H
 oq : Own n 1 h qs (Qs.map slv)
 rh : ∀ i, baseB hs i → rho i = 2
 rq : ∀ i, baseB qs i → rho i = 3
 it : ∀ x, x ∈ H → HdR n h x ∧ ∀ i, hdB x i → rho i = 4
 qu : ∀ j s, q0 ≤ j → Qs[j]? = some s → (∃ l, OwnL n .i64 h s l ∧ l.length ≤ 100000000) ∧ ∀ i, baseB s i → rho i = 10 + j
 lo : ∀ i, h.size ≤ i → rho i = 0
 ge : ∀ i, rho i ≠ 0 → n ≤ i
variable {n q0 : Nat} {rho : Nat → Nat} {hs qs : Sl} {H : List HdD} {Qs : List Sl}
theorem KpR.chg {F : Nat → Prop} {h' : Heap} (k : KpR n h rho hs qs H Qs q0) (c : Chg F h h') (hF : ∀ i, F i → rho i = 0 ∨ rho i = 1) : KpR n h' rho hs qs H Qs q0 := by
 have f : ∀ {i r : Nat}, rho i = r → 2 ≤ r → ¬ F i := fun {i r} e h2 hf => by rcases hF i hf with h | h <;> omega
 refine ⟨c.own k.oh fun x hx => f (k.rh _ ⟨x, hx, rfl⟩) (by decide), c.own k.oq fun x hx => f (k.rq _ ⟨x, hx, rfl⟩) (by decide), k.rh, k.rq, fun x hx => ⟨(k.it x hx).1.chg c fun i hi => f ((k.it x hx).2 i hi) (by decide), (k.it x hx).2⟩, fun j s hj hs => ⟨?_, (k.qu j s hj hs).2⟩, fun i hi => k.lo i (Nat.le_trans c.1 hi), k.ge⟩
 obtain ⟨⟨l, ol, hl⟩, hr⟩ := k.qu j s hj hs
 exact ⟨l, c.ownL ol fun x hx => f (hr _ ⟨x, hx, rfl⟩) (by omega), hl⟩
theorem KpR.ext {h' : Heap} (k : KpR n h rho hs qs H Qs q0) (e : Ext h h') : KpR n h' rho hs qs H Qs q0 := k.chg (Chg.of_ext (F := fun _ => False) e) fun i hi => hi.elim
theorem KpR.pushq {s : Sl} {l : List Int} {K : Sl → Prog} (k : KpR n h rho hs qs H Qs q0) (hn : n ≤ h.size) (os : OwnL n .i64 h s l) (hl : l.length ≤ 100000000) (fr : ∀ i, baseB s i → rho i = 0) (hQ : Qs.length ≤ 1000000) (hq0 : q0 ≤ Qs.length)
  (hk : ∀ r h' rho', Chg (fun i => rho i = 3) h h' → KpR n h' rho' hs r H (Qs ++ [s]) q0 → (∀ i, rho i ≠ 0 → rho' i = rho i) → (∀ i, i < h.size → rho i = 0 → ¬ baseB s i → rho' i = 0) → wp P (K r) h' Q) :
  wp P (.alloc [slv s] fun a => .append 1 24 [.slice none 0 0] qs ⟨some a, 1, 1⟩ K) h Q := by
 classical
 have lq := k.oq.1
 rw [Nat.mul_one, List.length_map] at lq
 refine s_pushV k.oq hn rfl (by rw [List.length_map]; omega) (by rw [List.length_map]; omega) fun r h' kp o u hb => ?_
 have c : Chg (fun i => baseB qs i) h h' := Chg.of_upd u fun x hx _ => ⟨x, hx, rfl⟩
 have q := c.1
 refine hk r h' (fun i => if baseB s i then 10 + Qs.length else if baseB r i then 3 else rho i) (c.mono fun i _ hi => k.rq i hi) ?_ ?_ ?_
 ·have old : ∀ {i v : Nat}, rho i = v → v ≠ 0 → v ≠ 3 → (if baseB s i then 10 + Qs.length else if baseB r i then 3 else rho i) = v := fun {i v} e h0 h3 => by
   have h1 : ¬ baseB s i := fun hi => by have := fr i hi; omega
   have h2 : ¬ baseB r i := fun ⟨a, ha, hi⟩ => by
    rcases hb a ha with h | h
    ·have := k.rq i ⟨a, h, hi⟩; omega
    ·have := k.lo i (by omega); omega
   rw [if_neg h1, if_neg h2]; exact e
  have keep : ∀ {i v : Nat}, rho i = v → v ≠ 3 → ¬ baseB qs i := fun e h3 hi => by have := k.rq _ hi; omega
  refine ⟨c.own k.oh fun x hx => keep (k.rh _ ⟨x, hx, rfl⟩) (by decide), by rw [List.map_append]; exact o, fun i hi => old (k.rh i hi) (by decide) (by decide), fun i hi => ?_, fun x hx => ⟨(k.it x hx).1.chg c fun i hi => keep ((k.it x hx).2 i hi) (by decide), fun i hi => old ((k.it x hx).2 i hi) (by decide) (by decide)⟩, fun j t hj ht => ?_, fun i hi => ?_, fun i hi => ?_⟩
  ·have h1 : ¬ baseB s i := fun hs' => by
    obtain ⟨a, ha, hi⟩ := hi
    obtain ⟨a', ha', hi'⟩ := hs'
    have := os.own.lt ha'
    rcases hb a ha with h | h
    ·have := k.rq i ⟨a, h, hi⟩; have := fr i ⟨a', ha', hi'⟩; omega
    ·omega
   rw [if_neg h1, if_pos hi]
  ·rw [List.getElem?_append] at ht
   split at ht
   ·obtain ⟨⟨l', ol, hl'⟩, hr⟩ := k.qu j t hj ht
    exact ⟨⟨l', c.ownL ol fun x hx => keep (hr _ ⟨x, hx, rfl⟩) (by omega), hl'⟩, fun i hi => old (hr i hi) (by omega) (by omega)⟩
   ·rename_i hge
    have hj0 : j - Qs.length = 0 := by
     by_cases h0 : j - Qs.length = 0
     ·exact h0
     ·rw [List.getElem?_eq_none (by simp; omega)] at ht; cases ht
    rw [hj0] at ht
    simp at ht
    subst ht
    refine ⟨⟨l, c.ownL os fun x hx hi => ?_, hl⟩, fun i hi => ?_⟩
    ·have := k.rq _ hi; have := fr _ ⟨x, hx, rfl⟩; omega
    ·rw [if_pos hi]; omega
  ·have h1 : ¬ baseB s i := fun ⟨a, ha, hi'⟩ => by have := (os.own.lt ha).2; omega
   have h2 : ¬ baseB r i := fun ⟨a, ha, hi'⟩ => by have := (o.lt ha).2; omega
   rw [if_neg h1, if_neg h2]; exact k.lo i (by omega)
  ·by_cases h1 : baseB s i
   ·obtain ⟨a, ha, rfl⟩ := h1; exact (os.own.lt ha).1
   ·rw [if_neg h1] at hi
    by_cases h2 : baseB r i
    ·obtain ⟨a, ha, rfl⟩ := h2; exact (o.lt ha).1
    ·rw [if_neg h2] at hi; exact k.ge i hi
 ·intro i hi
  have h1 : ¬ baseB s i := fun h => hi (fr i h)
  rw [if_neg h1]
  by_cases h2 : baseB r i
  ·rw [if_pos h2]
   obtain ⟨a, ha, hi'⟩ := h2
   rcases hb a ha with h | h
   ·exact (k.rq i ⟨a, h, hi'⟩).symm
   ·exact absurd (k.lo i (by omega)) hi
  ·rw [if_neg h2]
 ·intro i hi h0 hs'
  rw [if_neg hs']
  have h2 : ¬ baseB r i := fun ⟨a, ha, hi'⟩ => by
   rcases hb a ha with h | h
   ·have := k.rq i ⟨a, h, hi'⟩; omega
   ·omega
  rw [if_neg h2]; exact h0
theorem KpR.pushh {x : HdD} {K : Sl → Prog} (k : KpR n h rho hs qs H Qs q0) (hn : n ≤ h.size) (rx : HdR n h x) (fr : ∀ i, hdB x i → rho i = 0) (hH : H.length ≤ 1000000)
  (hk : ∀ r h' rho', Chg (fun i => rho i = 2) h h' → KpR n h' rho' r qs (H ++ [x]) Qs q0 → (∀ i, rho i ≠ 0 → rho' i = rho i) → (∀ i, i < h.size → rho i = 0 → ¬ hdB x i → rho' i = 0) → wp P (K r) h' Q) :
  wp P (.alloc (Bs.inj bH x) fun a => .append 3 56 [.slice none 0 0, .slice none 0 0, .int .i64 0] hs ⟨some a, 1, 1⟩ K) h Q := by
 classical
 refine s_pushH x k.oh hn (by omega) fun r h' o u hb => ?_
 have c : Chg (fun i => baseB hs i) h h' := Chg.of_upd u fun x hx _ => ⟨x, hx, rfl⟩
 have q := c.1
 refine hk r h' (fun i => if hdB x i then 4 else if baseB r i then 2 else rho i) (c.mono fun i _ hi => k.rh i hi) ?_ ?_ ?_
 ·have old : ∀ {i v : Nat}, rho i = v → v ≠ 0 → v ≠ 2 → (if hdB x i then 4 else if baseB r i then 2 else rho i) = v := fun {i v} e h0 h3 => by
   have h1 : ¬ hdB x i := fun hi => by have := fr i hi; omega
   have h2 : ¬ baseB r i := fun ⟨a, ha, hi⟩ => by
    rcases hb a ha with h | h
    ·have := k.rh i ⟨a, h, hi⟩; omega
    ·have := k.lo i (by omega); omega
   rw [if_neg h1, if_neg h2]; exact e
  have keep : ∀ {i v : Nat}, rho i = v → v ≠ 2 → ¬ baseB hs i := fun e h3 hi => by have := k.rh _ hi; omega
  refine ⟨o, c.own k.oq fun x hx => keep (k.rq _ ⟨x, hx, rfl⟩) (by decide), fun i hi => ?_, fun i hi => old (k.rq i hi) (by decide) (by decide), fun y hy => ?_, fun j t hj ht => ?_, fun i hi => ?_, fun i hi => ?_⟩
  ·have h1 : ¬ hdB x i := fun hs' => by
    have := rx.lo hs'
    obtain ⟨a, ha, hi⟩ := hi
    rcases hb a ha with h | h
    ·have := k.rh i ⟨a, h, hi⟩; have := fr i hs'; omega
    ·omega
   rw [if_neg h1, if_pos hi]
  ·rcases List.mem_append.1 hy with hy | hy
   ·exact ⟨(k.it y hy).1.chg c fun i hi => keep ((k.it y hy).2 i hi) (by decide), fun i hi => old ((k.it y hy).2 i hi) (by decide) (by decide)⟩
   ·rw [List.mem_singleton.1 hy]
    refine ⟨rx.chg c fun i hi hx => ?_, fun i hi => by rw [if_pos hi]⟩
    have := k.rh _ hx; have := fr _ hi; omega
  ·obtain ⟨⟨l', ol, hl'⟩, hr⟩ := k.qu j t hj ht
   exact ⟨⟨l', c.ownL ol fun x hx => keep (hr _ ⟨x, hx, rfl⟩) (by omega), hl'⟩, fun i hi => old (hr i hi) (by omega) (by omega)⟩
  ·have h1 : ¬ hdB x i := fun h => by have := (rx.lo h).2; omega
   have h2 : ¬ baseB r i := fun ⟨a, ha, hi'⟩ => by have := (o.lt ha).2; omega
   rw [if_neg h1, if_neg h2]; exact k.lo i (by omega)
  ·by_cases h1 : hdB x i
   ·exact (rx.lo h1).1
   ·rw [if_neg h1] at hi
    by_cases h2 : baseB r i
    ·obtain ⟨a, ha, rfl⟩ := h2; exact (o.lt ha).1
    ·rw [if_neg h2] at hi; exact k.ge i hi
 ·intro i hi
  have h1 : ¬ hdB x i := fun h => hi (fr i h)
  rw [if_neg h1]
  by_cases h2 : baseB r i
  ·rw [if_pos h2]
   obtain ⟨a, ha, hi'⟩ := h2
   rcases hb a ha with h | h
   ·exact (k.rh i ⟨a, h, hi'⟩).symm
   ·exact absurd (k.lo i (by omega)) hi
  ·rw [if_neg h2]
 ·intro i hi h0 hs'
  rw [if_neg hs']
  have h2 : ¬ baseB r i := fun ⟨a, ha, hi'⟩ => by
   rcases hb a ha with h | h
   ·have := k.rh i ⟨a, h, hi'⟩; omega
   ·omega
  rw [if_neg h2]; exact h0
end Go.Sw.Piece

set_option linter.unusedVariables false
set_option linter.unusedSimpArgs false
set_option maxRecDepth 100000
namespace Go.Sw.Piece
open Go.Sw.Any Go.Sw.Codec
open Go.Sw.Tree (iv s_putAll s_newP s_getP s_getT s_putP eqI_self Placed cell_own wp_whileG minI_eq)
variable {P : Program} {S : Ids} {h : Heap} {Q : Nat → List Value → Heap → Prop}
theorem s_given {s : Sl} {l : List Int} {K : Sl → Prog} (ho : Lst .i64 h s l) (hl : l.length ≤ 1073741824) (hk : ∀ g h', Ext h h' → OwnL h.size .i64 h' g (l ++ [7001, 7002]) → wp P (K g) h' Q) :
  wp P (.call (F_law6_copied S s) [.one .sl] fun (r : Sl × Unit) => .alloc [.int .i64 7001, .int .i64 7002] fun (a : Addr) => .append 1 8 [.int .i64 0] r.1 ⟨some a, 2, 2⟩ fun (g : Sl) => K g) h Q := by
 refine wp_call (c_copied ho (by omega)) fun ⟨(g0 : Sl), _⟩ h1 e1 o1 => ?_
 have o1 : OwnL h.size .i64 h1 g0 l := o1
 refine s_newA (by simp) fun h2 e2 o2 => ?_
 have o2 : OwnL h1.size .i64 h2 ⟨some ⟨h1.size, 0, none⟩, 2, 2⟩ [7001, 7002] := ⟨o2, by intro x hx; simp at hx; rw [fits_i64]; omega⟩
 have e12 := e1.trans e2
 refine s_append (o1.ext e2) e12.size o2.lst (by show (l.length + 2) * 8 ≤ _; omega) (by show l.length + 2 < _; omega) fun r h3 k3 o3 _ _ => hk r h3 (Keep.trans e12 k3) o3
theorem part_lst {n m : Nat} {g : Sl} {G : List Int} {s : Sl} (o : OwnL n .i64 h g G) (hs : s.len = m) (hm : m ≤ G.length) : Lst .i64 h ⟨cutBase g.base g.cap 0 1, subN (toN (natI s.len)) 0, subN g.cap 0⟩ (G.take m) := by
 have := Go.Sw.Lst.sub o.lst (i := 0) (j := m) (Nat.zero_le _) hm
 rw [List.drop_zero, Nat.sub_zero] at this
 rw [hs]
 exact this
variable {n q0 : Nat} {rho : Nat → Nat} {hs qs : Sl} {H : List HdD} {Qs : List Sl}
theorem KpR.free {s : Sl} {h' : Heap} (k : KpR n h rho hs qs H Qs q0) (hQ : Qs[q0]? = some s) (c : Chg (baseB s) h h') : ∃ rho', KpR n h' rho' hs qs H Qs (q0 + 1) ∧ (∀ i, baseB s i → rho' i = 0) ∧ ∀ i, rho i = 0 → rho' i = 0 := by
 classical
 obtain ⟨⟨l, ol, hl⟩, hr⟩ := k.qu q0 s (Nat.le_refl _) hQ
 have f : ∀ {i r : Nat}, rho i = r → r ≠ 10 + q0 → ¬ baseB s i := fun {i r} e h2 hf => by have := hr i hf; omega
 have old : ∀ {i v : Nat}, rho i = v → v ≠ 10 + q0 → (if baseB s i then 0 else rho i) = v := fun e h => by rw [if_neg (f e h)]; exact e
 refine ⟨fun i => if baseB s i then 0 else rho i, ⟨c.own k.oh fun x hx => f (k.rh _ ⟨x, hx, rfl⟩) (by omega), c.own k.oq fun x hx => f (k.rq _ ⟨x, hx, rfl⟩) (by omega), fun i hi => old (k.rh i hi) (by omega), fun i hi => old (k.rq i hi) (by omega), fun x hx => ⟨(k.it x hx).1.chg c fun i hi => f ((k.it x hx).2 i hi) (by omega), fun i hi => old ((k.it x hx).2 i hi) (by omega)⟩, fun j t hj ht => ?_, fun i hi => ?_, fun i hi => ?_⟩, fun i hi => if_pos hi, fun i hi => ?_⟩
 ·obtain ⟨⟨l', ol', hl'⟩, hr'⟩ := k.qu j t (by omega) ht
  exact ⟨⟨l', c.ownL ol' fun x hx => f (hr' _ ⟨x, hx, rfl⟩) (by omega), hl'⟩, fun i hi => old (hr' i hi) (by omega)⟩
 ·have := c.1
  rw [if_neg fun ⟨a, ha, hi'⟩ => by have := (ol.own.lt ha).2; omega]
  exact k.lo i (by omega)
 ·by_cases h1 : baseB s i
  ·rw [if_pos h1] at hi; exact absurd rfl hi
  ·rw [if_neg h1] at hi; exact k.ge i hi
 ·by_cases h1 : baseB s i
  ·exact if_pos h1
  ·exact (if_neg h1).trans hi
theorem c_endKept {T : Sl → Prog} (k : KpR n h rho hs qs H Qs 0) (hn : n ≤ h.size) (hH : H.length ≤ 1000) (hQ : Qs.length ≤ 1000) :
  wp P (.bind
    (.loop [(Ty.one B.sl), (Ty.one (B.int IntKind.i64))] (hs, ((0 : Int), ())) fun (r5317 : (Sl × (Int × Unit))) =>
     ifB (ltI r5317.2.1 (natI qs.len))
      (grd (andB (someB qs.base) (inB r5317.2.1 qs.len)) <|
      .load (Ty.one B.sl) (shiftTo qs.base (mulN (toN r5317.2.1) 1)) fun (l5318 : Sl) =>
      .call (F_law6_hold S l5318 (addI IntKind.i64 2000000 r5317.2.1)) [(Ty.agg [B.sl, B.sl, (B.int IntKind.i64)])] fun (r5319 : ((Sl × (Sl × (Int × Unit))) × Unit)) =>
      .alloc [(Value.slice r5319.1.1.base r5319.1.1.len r5319.1.1.cap), (Value.slice r5319.1.2.1.base r5319.1.2.1.len r5319.1.2.1.cap), (Value.int IntKind.i64 r5319.1.2.2.1)] fun (a5320 : Addr) =>
      .append 3 56 [(Value.slice Option.none 0 0), (Value.slice Option.none 0 0), (Value.int IntKind.i64 0)] r5317.1 (⟨(Option.some a5320), 1, 1⟩) fun (l5321 : Sl) =>
      .ret 0 [(Value.slice l5321.base l5321.len l5321.cap), (Value.int IntKind.i64 (addI IntKind.i64 r5317.2.1 1))]) <|
     .ret 6 [(Value.slice r5317.1.base r5317.1.len r5317.1.cap)]) fun (k5322 : Nat) =>
   fun (vs5323 : (List Value)) =>
   ifB (eqN k5322 6)
    (.cast [(Ty.one B.sl)] vs5323 fun (r5324 : (Sl × Unit)) =>
    .call (F_law6_stands S r5324.1) [(Ty.one B.bool)] fun (r5325 : (Bool × Unit)) =>
    .ret 0 [(Value.bool r5325.1)]) <|
   .fail) h fun tg vs h' => tg = 0 ∧ vs = [.bool true] ∧ Keep n h h' := by
 have lq := k.oq.1
 rw [Nat.mul_one, List.length_map] at lq
 refine wp_while (fun (r : Sl × Int × Unit) h' => ∃ (i : Nat) (rho' : Nat → Nat) (H' : List HdD), i ≤ Qs.length ∧ r.2.1 = (i : Int) ∧ H'.length = H.length + i ∧ KpR n h' rho' r.1 qs H' Qs i ∧ Keep n h h' ∧ n ≤ h'.size) (fun r _ => (Qs.length - r.2.1).toNat)
  (fun tag vs h' => tag = 6 ∧ ∃ (r : Sl) (rho' : Nat → Nat) (H' : List HdD), vs = [slv r] ∧ H'.length ≤ 2000 ∧ KpR n h' rho' r qs H' Qs Qs.length ∧ Keep n h h' ∧ n ≤ h'.size) ⟨0, rho, H, Nat.zero_le _, rfl, rfl, k, Keep.refl _ _, hn⟩ ?_ ?_
 ·rintro ⟨(r : Sl), (i' : Int), u⟩ h1 ⟨i, rho1, H1, hi, hi', hH1, k1, kp1, hn1⟩
  dsimp only at hi' k1 ⊢
  subst hi'
  refine wp_ifB (fun hc => ?_) fun hc => ?_
  ·rw [ltI_iff, natI_def, lq] at hc
   have hil : i < Qs.length := by omega
   obtain ⟨s, hs'⟩ : ∃ s, Qs[i]? = some s := ⟨Qs[i], List.getElem?_eq_getElem hil⟩
   obtain ⟨⟨l, ol, hl⟩, hr⟩ := k1.qu i s (Nat.le_refl _) hs'
   refine s_ldV (b := .sl) (x := s) k1.oq (by rw [List.getElem?_map, hs']; rfl) ?_
   rw [add_ok (a := 2000000) (by omega) (by omega)]
   refine wp_callW (c_hold ol hn1 (by rw [fits_i64]; omega) (by omega)) fun tg vs h2 ⟨ht, x, hv, c2, rx, hb⟩ => ⟨ht, x, hv, ?_⟩
   obtain ⟨rho2, k2, z2, z2'⟩ := k1.free hs' c2
   have q2 := c2.1
   have kp2 : Keep n h1 h2 := c2.keep hn1 fun j hj ⟨a, ha, e⟩ => by have := (ol.own.lt ha).1; omega
   obtain ⟨x, _⟩ := x
   have fresh : ∀ j, hdB x j → rho2 j = 0 := fun j hj => by
    rcases hb j hj with hj' | hj'
    ·exact z2 j hj'
    ·exact z2' j (k1.lo j hj')
   refine k2.pushh (by omega) rx fresh (by omega) fun r' h3 rho3 c3 k3 _ _ => ?_
   have kp3 : Keep n h2 h3 := c3.keep (by omega) fun j hj e => by have := k2.ge j (by omega); omega
   rw [add_ok (by omega) (by omega)]
   exact s_ret ⟨fun _ => ⟨(r', (i : Int) + 1, ()), rfl, ⟨i + 1, rho3, _, hil, by dsimp only; omega, by rw [List.length_append, hH1]; rfl, k3, Keep.trans kp1 (Keep.trans kp2 kp3), by have := c3.1; omega⟩, by dsimp only; omega⟩, fun hh => absurd rfl hh⟩
  ·rw [ltI_not, natI_def, lq] at hc
   have : i = Qs.length := by omega
   subst this
   exact s_ret ⟨fun hh => absurd hh (by decide), fun _ => ⟨rfl, r, rho1, H1, rfl, by omega, k1, kp1, hn1⟩⟩
 ·rintro tag vs h1 ⟨rfl, r, rho1, H1, rfl, hl, k1, kp1, hn1⟩
  refine s_tag (wp_cast (tys := [.one .sl]) (r, ()) rfl (wp_call (c_stands k1.oh (fun x hx => (k1.it x hx).1) (by omega)) fun ⟨(b : Bool), _⟩ h2 e2 hb => s_ret ⟨rfl, ?_, ?_⟩))
  ·have hb : b = true := hb
   rw [hb]
  ·exact Keep.trans kp1 (e2.keep hn1)
end Go.Sw.Piece

set_option linter.unusedVariables false
set_option linter.unusedSimpArgs false
set_option maxRecDepth 100000
namespace Go.Sw.Piece
open Go.Sw.Any Go.Sw.Codec
open Go.Sw.Tree (iv s_putAll s_newP s_getP s_getT s_putP eqI_self Placed cell_own wp_whileG minI_eq)
variable {P : Program} {S : Ids} {h : Heap} {Q : Nat → List Value → Heap → Prop}
structure RdR (S : Ids) (n : Nat) (h : Heap) (rho : Nat → Nat) (b : Addr) (T : TX) (s tg : Sl) (TG : List Int) (hs qs : Sl) (H : List HdD) (Qs : List Sl) : Prop where
 k : KpR n h rho hs qs H Qs 0
 B : BothR S n h b T s 0
 ot : OwnL n .i64 h tg TG
 z1 : ∀ i, bF b T s i ∨ baseB tg i → rho i = 1
variable {n : Nat} {rho : Nat → Nat} {b : Addr} {T : TX} {s tg hs qs : Sl} {TG : List Int} {H : List HdD} {Qs : List Sl}
theorem RdR.chg {F : Nat → Prop} {h' : Heap} (r : RdR S n h rho b T s tg TG hs qs H Qs) (c : Chg F h h') (hF : ∀ i, F i → rho i = 0) : RdR S n h' rho b T s tg TG hs qs H Qs :=
 ⟨r.k.chg c fun i hi => .inl (hF i hi), r.B.chg c fun i hi f => by have := r.z1 i (.inl hi); have := hF i f; omega, c.ownL r.ot fun x hx f => by have := r.z1 _ (.inr ⟨x, hx, rfl⟩); have := hF _ f; omega, r.z1⟩
theorem RdR.ext {h' : Heap} (r : RdR S n h rho b T s tg TG hs qs H Qs) (e : Ext h h') : RdR S n h' rho b T s tg TG hs qs H Qs := ⟨r.k.ext e, r.B.ext e, r.ot.ext e, r.z1⟩
theorem RdR.pushq {t : Sl} {l : List Int} {K : Sl → Prog} (r : RdR S n h rho b T s tg TG hs qs H Qs) (hn : n ≤ h.size) (os : OwnL n .i64 h t l) (hl : l.length ≤ 100000000) (fr : ∀ i, baseB t i → rho i = 0) (hQ : Qs.length ≤ 1000000)
  (hk : ∀ q' h' rho', Chg (fun i => rho i = 3) h h' → RdR S n h' rho' b T s tg TG hs q' H (Qs ++ [t]) → (∀ i, rho i ≠ 0 → rho' i = rho i) → (∀ i, i < h.size → rho i = 0 → ¬ baseB t i → rho' i = 0) → wp P (K q') h' Q) :
  wp P (.alloc [slv t] fun a => .append 1 24 [.slice none 0 0] qs ⟨some a, 1, 1⟩ K) h Q :=
 r.k.pushq hn os hl fr hQ (Nat.zero_le _) fun q' h' rho' c k a d => hk q' h' rho' c ⟨k, r.B.chg c fun i hi f => by have := r.z1 i (.inl hi); omega, c.ownL r.ot fun x hx f => by have := r.z1 _ (.inr ⟨x, hx, rfl⟩); omega, fun i hi => by have := r.z1 i hi; rw [a i (by omega)]; exact this⟩ a d
theorem RdR.pushh {x : HdD} {K : Sl → Prog} (r : RdR S n h rho b T s tg TG hs qs H Qs) (hn : n ≤ h.size) (rx : HdR n h x) (fr : ∀ i, hdB x i → rho i = 0) (hH : H.length ≤ 1000000)
  (hk : ∀ q' h' rho', Chg (fun i => rho i = 2) h h' → RdR S n h' rho' b T s tg TG q' qs (H ++ [x]) Qs → (∀ i, rho i ≠ 0 → rho' i = rho i) → (∀ i, i < h.size → rho i = 0 → ¬ hdB x i → rho' i = 0) → wp P (K q') h' Q) :
  wp P (.alloc (Bs.inj bH x) fun a => .append 3 56 [.slice none 0 0, .slice none 0 0, .int .i64 0] hs ⟨some a, 1, 1⟩ K) h Q :=
 r.k.pushh hn rx fr hH fun q' h' rho' c k a d => hk q' h' rho' c ⟨k, r.B.chg c fun i hi f => by have := r.z1 i (.inl hi); omega, c.ownL r.ot fun x hx f => by have := r.z1 _ (.inr ⟨x, hx, rfl⟩); omega, fun i hi => by have := r.z1 i hi; rw [a i (by omega)]; exact this⟩ a d
theorem RdR.keep {h' : Heap} {v : Nat} (r : RdR S n h rho b T s tg TG hs qs H Qs) (hn : n ≤ h.size) (c : Chg (fun i => rho i = v) h h') (hv : v ≠ 0) : Keep n h h' := c.keep hn fun i hi e => by have := r.k.ge i (by omega); omega
theorem native_pos (A : List Int) : 1 ≤ nativeF A 9 := by
 unfold nativeF
 split
 ·rename_i hq
  obtain ⟨q, _, hb⟩ := brk_lt A 0
  rw [hb] at hq ⊢
  omega
 ·decide
theorem c_LinesKept (M : Meth0 P S) (C : Cl1 P S) (L : ClL P S) {x : StX} {z : Scr} (hx : StSh.ok h x) (hz : (Sh.list OpSh).ok h z) (wz : (Sh.list OpSh).wt z ≤ 1048576) :
  Gives P (F_law6_LinesKept S (x.1, x.2.1.1, ()) z.1) [.one .bool] h fun (r : Bool × Unit) _ => r.1 = true := by
 unfold F_law6_LinesKept Gives
 have lx := Sh.lst hx.2.1
 have lz := hz.len
 have zb : z.2.length < 2 ^ 63 := by have := hz.2.1; have := hz.2.2.1; omega
 refine s_newO (bs := bS) ((x.1, x.2.1.1, ()) : StaD) (by decide) fun h1 e1 o1 => s_getO (bs := bS) o1 (wp_call (c_opened6 M (lx.ext e1)) fun ⟨⟨(p1 : Option Addr), (s1 : Sl), _⟩, (b1 : Bool), _⟩ h2 e2 ⟨hb1, T1, hp1, O1⟩ => ?_)
 have hb1 : b1 = true := hb1
 have hp1 : p1 = some T1.p := hp1
 subst hb1; subst hp1
 have O1 : OpB S h1.size h2 (x.2.1.2.take 50000) T1 s1 := O1
 have e12 := e1.trans e2
 refine s_putO (bs := bB) (z := ((none, ⟨none, 0, 0⟩, ()) : BoD)) ((some T1.p, s1, ()) : BoD) (by decide) flatB2 fun h3 e3 o3 => ?_
 have q1 := e1.size; have q12 := e12.size
 have B1 : BothR S h.size h3 ⟨h2.size, 0, none⟩ T1 s1 0 := O1.both q1 e3 o3 q12 (Nat.le_refl _)
 have e13 := e12.trans e3
 have hN := nLines_le (txA T1)
 have hnB : nB (txA T1) ≤ (txA T1).length := cntE_le _ _
 have hfew := B1.few
 have lA := B1.at_.len
 refine bind_no (wp_ifB (fun hh => by cases hh) fun _ => s_cell (b := .ptr) (some T1.p) rfl B1.ob.cells rfl (wp_call (c_lCount M C B1.t) fun ⟨(c : Int), _⟩ h4 e4 hc => f_ret2 e4 ?_)) fun h4 e4 => wp_ifB (fun hh => by cases hh) fun _ => ?_
 ·have hc : c = nLines (txA T1) := hc
  subst hc
  rw [ltI_not]; dsimp only; omega
 have B4 := B1.ext e4
 have e04 := e13.trans e4
 have hns : natI s1.len = ((txA T1).length : Int) := by rw [natI_def, lA]
 have hns1 : addI .i64 ((txA T1).length : Int) 1 = ((txA T1).length : Int) + 1 := add_ok (by omega) (by omega)
 generalize hTG : (cutL (els T1.enc T1.cur.ps) 0 ((txA T1).length : Int)).map (·.2) = TG
 have hTGl : TG.length ≤ 66000 := by rw [← hTG, List.length_map]; have h1 := txA_len T1; unfold cutL; rw [List.length_drop, List.length_take]; omega
 refine s_cell (b := .ptr) (some T1.p) rfl B4.ob.cells rfl (s_cell (b := .sl) s1 rfl B4.ob.cells rfl ?_)
 rw [hns]
 refine wp_call (c_Tags M C B4.t (fits_i64.2 (by omega))) fun ⟨(t0 : Sl), _⟩ h5 e5 ot0 => ?_
 have ot0 : OwnL h4.size .i64 h5 t0 ((cutL (els T1.enc T1.cur.ps) 0 ((txA T1).length : Int)).map (·.2)) := ot0
 rw [hTG] at ot0
 refine wp_call (c_copied ot0.lst (by omega)) fun ⟨(tg : Sl), _⟩ h6 e6 otg => ?_
 have otg : OwnL h5.size .i64 h6 tg TG := otg
 have e06 := (e04.trans e5).trans e6
 have B6 := (B4.ext e5).ext e6
 have q05 := (e04.trans e5).size
 have r6 : ∃ rho, RdR S h.size h6 rho ⟨h2.size, 0, none⟩ T1 s1 tg TG ⟨none, 0, 0⟩ ⟨none, 0, 0⟩ [] [] := by
  classical
  refine ⟨fun i => if bF ⟨h2.size, 0, none⟩ T1 s1 i ∨ baseB tg i then 1 else 0, ⟨Own.nil _ _ _, Own.nil _ _ _, fun i ⟨a, ha, _⟩ => (by cases ha), fun i ⟨a, ha, _⟩ => (by cases ha), fun x hx => (by cases hx), fun j t _ ht => (by simp at ht), fun i hi => if_neg fun hf => ?_, fun i hi => ?_⟩, B6, otg.mono q05, fun i hi => if_pos hi⟩
  ·rcases hf with hf | ⟨a, ha, rfl⟩
   ·have := (B6.lo i hf).2; omega
   ·have := (otg.own.lt ha).2; omega
  ·by_cases hf : bF ⟨h2.size, 0, none⟩ T1 s1 i ∨ baseB tg i
   ·rcases hf with hf | ⟨a, ha, rfl⟩
    ·exact (B6.lo i hf).1
    ·have := (otg.own.lt ha).1; omega
   ·rw [if_neg hf] at hi; exact absurd rfl hi
 obtain ⟨rho0, r6⟩ := r6
 refine wp_while (fun (r : Sl × Sl × Int × Unit) h' => ∃ (i : Nat) (rho : Nat → Nat) (H : List HdD) (Qs : List Sl), i ≤ 40 ∧ i ≤ z.2.length ∧ r.2.2.1 = (i : Int) ∧ H.length = i ∧ Qs.length = 2 * i ∧ Ext h h' ∧ RdR S h.size h' rho ⟨h2.size, 0, none⟩ T1 s1 tg TG r.1 r.2.1 H Qs) (fun r _ => (40 - r.2.2.1).toNat)
  (fun tag vs h' => tag = 2 ∧ ∃ (hs qs : Sl) (rho : Nat → Nat) (H : List HdD) (Qs : List Sl), vs = [slv hs, slv qs] ∧ H.length ≤ 40 ∧ Qs.length ≤ 80 ∧ Ext h h' ∧ RdR S h.size h' rho ⟨h2.size, 0, none⟩ T1 s1 tg TG hs qs H Qs) ⟨0, rho0, [], [], by omega, Nat.zero_le _, rfl, rfl, rfl, e06, r6⟩ ?_ ?_
 ·rintro ⟨(hs : Sl), (qs : Sl), (i' : Int), u⟩ g0 ⟨i, rho, H, Qs, hi40, hil, hi', hHl, hQl, ex0, r0⟩
  dsimp only at hi' r0 ⊢
  subst hi'
  refine bind_bool (i < z.2.length ∧ i < 40) ?_ fun bb g1 eg1 hb => wp_ifB (fun hc => ?_) fun hc => s_ret ⟨fun hh => absurd hh (by decide), fun _ => ⟨rfl, hs, qs, rho, H, Qs, rfl, by omega, by omega, ex0.trans eg1, r0.ext eg1⟩⟩
  ·refine wp_ifB (fun hc => s_ret ⟨rfl, Ext.refl _, _, rfl, ?_⟩) fun hc => s_ret ⟨rfl, Ext.refl _, false, rfl, Iff.intro (fun h => by cases h) fun h => ?_⟩
   ·rw [ltI_iff, natI_def, lz] at hc; rw [ltI_iff]; omega
   ·rw [ltI_not, natI_def, lz] at hc; omega
  have hc := hb.1 hc
  have ex1 := ex0.trans eg1
  obtain ⟨e, he⟩ : ∃ e, z.2[i]? = some e := ⟨z.2[i]'hc.1, List.getElem?_eq_getElem hc.1⟩
  have he' : z.2[((i : Nat) : Int).toNat]? = some e := he
  have hle := op_wt wz he
  refine s_atSh (e := OpSh) (x := z) (bs := bO) (z := (e.1, e.2.1, e.2.2.1, e.2.2.2.1, e.2.2.2.2.1.1, ())) (Sh.ok.ext ex1 hz) (by omega) he' rfl rfl ?_
  refine s_putO (bs := bO) (z := ((0, 0, 0, 0, ⟨none, 0, 0⟩, ()) : OpD)) ((e.1, e.2.1, e.2.2.1, e.2.2.2.1, e.2.2.2.2.1.1, ()) : OpD) (by decide) (by intro v hv; simp [Bs.inj] at hv; rcases hv with rfl | rfl | rfl | rfl | rfl <;> rfl) fun g2 eg2 o2 => ?_
  have ok := hz.el he
  have put : ∀ {g : Heap}, Ext h g → Lst .i64 g e.2.2.2.2.1.1 e.2.2.2.2.1.2 := fun {g} eg => Sh.lst ((Sh.ok.ext eg hz).el he).2.2.2.2.1
  have okA : fitsI .i64 e.2.2.1 := ok.2.2.1
  have okB : fitsI .i64 e.2.2.2.1 := ok.2.2.2.1
  obtain ⟨v1, v2, v3, v4, ⟨ps, l⟩, vu⟩ := e
  dsimp only at hle okA okB put o2 ⊢
  clear ok he he'
  have lps : ps.len = l.length := (put (Ext.refl h)).len
  have ex2 := ex1.trans eg2
  have lo1 : ∀ j, g1.size ≤ j → rho j = 0 := (r0.ext eg1).k.lo
  have r2 := (r0.ext eg1).ext eg2
  have l12 : g1.size < g2.size := (o2.lt rfl).2
  refine s_cell (b := .int .i64) v3 rfl o2.cells rfl (s_cell (b := .sl) s1 rfl r2.B.ob.cells rfl ?_)
  rw [hns]
  have w1 := within_le (x := v3) (n := ((txA T1).length : Int)) (by omega)
  refine wp_call (c_within okA (by omega) (by omega)) fun ⟨(p : Int), _⟩ g3 eg3 hp => ?_
  have hp : p = withinF v3 (txA T1).length := hp
  rw [← hp] at w1
  obtain ⟨p, rfl⟩ : ∃ q : Nat, p = q := ⟨p.toNat, by omega⟩
  clear hp
  refine s_cell (b := .int .i64) v4 rfl (o2.ext eg3).cells rfl ?_
  have w2 := within_le (x := v4) (n := 2) (by decide)
  refine wp_call (c_within (n := 2) okB (by decide) (by decide)) fun ⟨(nv : Int), _⟩ g4 eg4 hnv => ?_
  have hnv : nv = withinF v4 2 := hnv
  rw [← hnv] at w2
  clear hnv
  dsimp only
  rw [add_ok (a := 1) (by omega) (by omega)]
  have eg24 := eg3.trans eg4
  have r4 := r2.ext eg24
  have o4 := o2.ext eg24
  have ex4 := ex2.trans eg24
  have ty : ∀ l' : List Int, typedF (txA T1) (p : Int) (1 + nv) l' = (tyF (txA T1) p (1 + nv) l' l'.length, 0) := fun l' => by
   unfold typedF
   rw [if_neg (by omega), if_neg (by omega)]; rfl
  have tyl := tyF_len (txA T1) p (1 + nv) l l.length
  have tyd : ∀ {g : Heap} {sl : Sl} {l' : List Int} {K : Sl × Int × Unit → Prog} {R : Nat → List Value → Heap → Prop}, TextR S h.size g T1 → Lst .i64 g sl l' → l'.length ≤ 1073741824 → (∀ f g', Ext g g' → OwnL g.size .i64 g' f (tyF (txA T1) p (1 + nv) l' l'.length) → wp P (K (f, 0, ())) g' R) → wp P (.call (F_lines_Typed S (some T1.p) (p : Int) sl (1 + nv)) [.one .sl, .one (.int .i64)] K) g R := fun {g sl l' K R} tr hl hl' hk =>
   wp_call (c_lTyped M C tr hl hl') fun ⟨(f : Sl), (er : Int), _⟩ g' eg ⟨of, her⟩ => by
    have of' : OwnL g.size .i64 g' f (typedF (txA T1) (p : Int) (1 + nv) l').1 := of
    have her' : er = (typedF (txA T1) (p : Int) (1 + nv) l').2 := her
    rw [ty] at of' her'
    dsimp only at of' her'
    clear her of
    subst her'
    exact hk f g' eg of'
  refine s_cell (b := .ptr) (some T1.p) rfl r4.B.ob.cells rfl (s_cell (b := .sl) ps rfl o4.cells rfl (wp_call (c_copied (put ex4) (by omega)) fun ⟨(c1 : Sl), _⟩ g5 eg5 oc1 => ?_))
  have oc1 : OwnL g4.size .i64 g5 c1 l := oc1
  have r5 := r4.ext eg5
  refine s_ckC r5.B.ob.cells rfl (tyd r5.B.t oc1.lst (by omega) fun f1 g6 eg6 of1 => ?_)
  have eg46 := eg5.trans eg6
  have r6 := r4.ext eg46
  have o6 := o4.ext eg46
  have ex6 := ex4.trans eg46
  refine s_cell (b := .ptr) (some T1.p) rfl r6.B.ob.cells rfl (s_cell (b := .sl) ps rfl o6.cells rfl (wp_call (c_copied (put ex6) (by omega)) fun ⟨(c2 : Sl), _⟩ g7 eg7 oc2 => ?_))
  have oc2 : OwnL g6.size .i64 g7 c2 l := oc2
  have r7 := r6.ext eg7
  refine s_ckC r7.B.ob.cells rfl (tyd r7.B.t oc2.lst (by omega) fun f2 g8 eg8 of2 => ?_)
  have eg68 := eg7.trans eg8
  have r8 := r6.ext eg68
  have o8 := o6.ext eg68
  have ex8 := ex6.trans eg68
  generalize hU : tyF (txA T1) p (1 + nv) l l.length = U at *
  have q0 := ex0.size; have q1' := eg1.size; have q24 := eg24.size; have q45 := eg5.size; have q56 := eg6.size; have q67 := eg7.size; have q78 := eg8.size
  have bf1 : ∀ j, baseB f1 j → g5.size ≤ j ∧ j < g6.size := fun j ⟨a, ha, ej⟩ => by subst ej; exact of1.own.lt ha
  have bf2 : ∀ j, baseB f2 j → g7.size ≤ j ∧ j < g8.size := fun j ⟨a, ha, ej⟩ => by subst ej; exact of2.own.lt ha
  refine r8.pushq (by omega) ((of1.ext eg68).mono (by omega)) (by omega) (fun j hj => lo1 j (by have := bf1 j hj; omega)) (by omega) fun q1 g9 rho1 c9 r9 ka9 kb9 => ?_
  have f2at9 : OwnL g7.size .i64 g9 f2 U := c9.ownL of2 fun y hy ej => by have := bf2 _ ⟨y, hy, rfl⟩; have := lo1 y.block (by omega); omega
  have rho1f2 : ∀ j, baseB f2 j → rho1 j = 0 := fun j hj => by have b2 := bf2 j hj; exact kb9 j b2.2 (lo1 j (by omega)) fun hj' => by have := bf1 j hj'; omega
  have q89 := c9.1
  have ex9 : Ext h g9 := Keep.trans ex8 (r8.keep (by omega) c9 (by decide))
  refine r9.pushq (by omega) (f2at9.mono (by omega)) (by omega) rho1f2 (by rw [List.length_append]; show _ + 1 ≤ _; omega) fun q2 g10 rho2 c10 r10 ka10 kb10 => ?_
  have q910 := c10.1
  have ex10 : Ext h g10 := Keep.trans ex9 (r9.keep (by omega) c10 (by decide))
  have f2at10 : OwnL g7.size .i64 g10 f2 U := c10.ownL f2at9 fun y hy ej => by have := rho1f2 _ ⟨y, hy, rfl⟩; omega
  have rho1f1 : ∀ j, baseB f1 j → rho1 j = 10 + Qs.length := fun j hj => (r9.k.qu Qs.length f1 (Nat.zero_le _) (by rw [List.getElem?_append_right (Nat.le_refl _), Nat.sub_self]; rfl)).2 j hj
  have f1at10 : OwnL g5.size .i64 g10 f1 U := c10.ownL (c9.ownL (of1.ext eg68) fun y hy ej => by have := bf1 _ ⟨y, hy, rfl⟩; have := lo1 y.block (by omega); omega) fun y hy ej => by have := rho1f1 _ ⟨y, hy, rfl⟩; omega
  have rho1o : rho1 g1.size = 0 := kb9 _ (by omega) (lo1 _ (Nat.le_refl _)) fun hj => by have := bf1 _ hj; omega
  have rho2o : rho2 g1.size = 0 := kb10 _ (by omega) rho1o fun hj => by have := bf2 _ hj; omega
  have o10 : Own g1.size 1 g10 ⟨some ⟨g1.size, 0, none⟩, 5, 5⟩ (Bs.inj bO ((v1, v2, v3, v4, ps, ()) : OpD)) := c10.own (c9.own o8 fun y hy ej => by cases hy; have := lo1 g1.size (Nat.le_refl _); dsimp only at ej; omega) fun y hy ej => by cases hy; dsimp only at ej; omega
  have lo10 : ∀ j, g10.size ≤ j → rho2 j = 0 := r10.k.lo
  refine s_cell (b := .sl) ps rfl o10.cells rfl (s_given (put ex10) (by omega) fun g g11 eg11 og => ?_)
  have r11 := r10.ext eg11
  have o11 := o10.ext eg11
  have ex11 := ex10.trans eg11
  have q1011 := eg11.size
  have lg := og.len
  have lcg := og.own.2.1
  have bg : ∀ j, baseB g j → g10.size ≤ j ∧ j < g11.size := fun j ⟨a, ha, ej⟩ => by subst ej; exact og.own.lt ha
  have hgl : (l ++ [7001, 7002]).length = l.length + 2 := by rw [List.length_append]; rfl
  have grdp : leB (natI ps.len) g.cap = true := leB_ok (by rw [natI_def]; omega) (by rw [natI_def]; omega)
  have pl11 := part_lst og (s := ps) lps (by omega)
  rw [List.take_left' rfl] at pl11
  refine s_cell (b := .ptr) (some T1.p) rfl r11.B.ob.cells rfl (s_cell (b := .sl) ps rfl o11.cells rfl (wp_grd grdp (tyd r11.B.t pl11 (by omega) fun got g12 eg12 ogot => ?_)))
  rw [hU] at ogot
  have q1112 := eg12.size
  have ex12 := ex11.trans eg12
  have r12 := r11.ext eg12
  have o12 := o11.ext eg12
  have og12 := og.ext eg12
  have lgot := ogot.len
  have f1at12 := f1at10.ext (eg11.trans eg12)
  have f2at12 := f2at10.ext (eg11.trans eg12)
  refine bind_no (wp_ifB (fun hh => by rw [neI_iff] at hh; exact absurd rfl hh) fun _ => s_cell (b := .sl) ps rfl o12.cells rfl (wp_ifB (fun hh => by rw [ltI_iff, natI_def, natI_def, lgot, lps] at hh; omega) fun _ => s_cell (b := .sl) ps rfl o12.cells rfl (s_given (put ex12) (by omega) fun g' g13 eg13 og' => ?_))) fun g13 eg13 => wp_ifB (fun hh => by cases hh) fun _ => ?_
  ·refine wp_call (c_same6 (og12.ext eg13).lst og'.lst) fun ⟨(y : Bool), _⟩ g14 eg14 hy => ?_
   have hy : y = decide (l ++ [7001, 7002] = l ++ [7001, 7002]) := hy
   have hy : y = true := hy.trans (decide_eq_true rfl)
   subst hy
   have e1 := eg13.trans eg14
   refine wp_ifB (fun hh => by cases hh) fun _ => wp_call (c_same6 (ogot.ext e1).lst (f1at12.ext e1).lst) fun ⟨(y : Bool), _⟩ g15 eg15 hy => ?_
   have hy : y = decide (U = U) := hy
   have hy : y = true := hy.trans (decide_eq_true rfl)
   subst hy
   have e2 := e1.trans eg15
   refine wp_ifB (fun hh => by cases hh) fun _ => wp_call (c_same6 (ogot.ext e2).lst (f2at12.ext e2).lst) fun ⟨(y : Bool), _⟩ g16 eg16 hy => f_ret2 (e2.trans eg16) ?_
   have hy : y = decide (U = U) := hy
   have hy : y = true := hy.trans (decide_eq_true rfl)
   rw [hy]; rfl
  have ex13 := ex12.trans eg13
  have r13 := r12.ext eg13
  have o13 := o12.ext eg13
  have og13 := og12.ext eg13
  have ogot13 := ogot.ext eg13
  have q1213 := eg13.size
  have bgot : ∀ j, baseB got j → g11.size ≤ j ∧ j < g12.size := fun j ⟨a, ha, ej⟩ => by subst ej; exact ogot.own.lt ha
  rw [add_ok (a := 1000000) (by omega) (by omega)]
  refine wp_callW (c_hold (n := h.size) (ogot13.mono (by omega)) (by omega) (by rw [fits_i64]; omega) (by omega)) fun tg' vs g14 ⟨ht, x, hv, c14, rx, hbx⟩ => ⟨ht, x, hv, ?_⟩
  obtain ⟨x, _⟩ := x
  have q1314 := c14.1
  have r14 := r13.chg c14 fun j hj => lo10 j (by have := bgot j hj; omega)
  have ex14 : Ext h g14 := Keep.trans ex13 (c14.keep (by omega) fun j hj f => by have := bgot j f; omega)
  have o14 := c14.own o13 fun y hy f => by cases hy; have := bgot _ f; dsimp only at this; omega
  have og14 := c14.ownL og13 fun y hy f => by have := bgot _ f; have := bg _ ⟨y, hy, rfl⟩; omega
  have hbx' : ∀ j, hdB x j → g11.size ≤ j := fun j hj => by
   rcases hbx j hj with h | h
   ·exact (bgot j h).1
   ·omega
  refine r14.pushh (by omega) rx (fun j hj => lo10 j (by have := hbx' j hj; omega)) (by omega) fun hs' g15 rho3 c15 r15 ka15 kb15 => ?_
  have q1415 := c15.1
  have ex15 : Ext h g15 := Keep.trans ex14 (r14.keep (by omega) c15 (by decide))
  have o15 := c15.own o14 fun y hy f => by cases hy; dsimp only at f; omega
  have og15 := c15.ownL og14 fun y hy f => by have := lo10 _ (bg _ ⟨y, hy, rfl⟩).1; omega
  have rho3g : ∀ j, baseB g j → rho3 j = 0 := fun j hj => by have b := bg j hj; exact kb15 j (by omega) (lo10 j b.1) fun hj' => by have := hbx' j hj'; omega
  refine s_cell (b := .sl) ps rfl o15.cells rfl (s_given (put ex15) (by omega) fun g' g16 eg16 og' => wp_call (c_same6 (og15.ext eg16).lst og'.lst) fun ⟨(y : Bool), _⟩ g17 eg17 hy => ?_)
  have hy : y = decide (l ++ [7001, 7002] = l ++ [7001, 7002]) := hy
  have hy : y = true := hy.trans (decide_eq_true rfl)
  subst hy
  have e1517 := eg16.trans eg17
  have ex17 := ex15.trans e1517
  have r17 := r15.ext e1517
  have o17 := o15.ext e1517
  have og17 := og15.ext e1517
  have q1517 := e1517.size
  refine wp_ifB (fun hh => by cases hh) fun _ => ?_
  refine wp_while (fun (q : Int × Unit) h' => ∃ (j : Nat) (G : List Int), j ≤ l.length ∧ q.1 = (j : Int) ∧ G.length = l.length + 2 ∧ Chg (baseB g) g17 h' ∧ OwnL g10.size .i64 h' g G) (fun q _ => (l.length - q.1).toNat)
   (fun tag vs h' => tag = 4 ∧ vs = [] ∧ ∃ G : List Int, G.length = l.length + 2 ∧ Chg (baseB g) g17 h' ∧ OwnL g10.size .i64 h' g G) ⟨0, _, Nat.zero_le _, rfl, hgl, Chg.refl _ _, og17⟩ ?_ ?_
  ·rintro ⟨(j' : Int), u⟩ h' ⟨j, G, hj, hj', hG, cG, oG⟩
   dsimp only at hj' ⊢
   subst hj'
   have o' := cG.own o17 fun y hy f => by cases hy; have := bg _ f; dsimp only at this; omega
   refine s_cell (b := .sl) ps rfl o'.cells rfl (wp_ifB (fun hd => ?_) fun hd => s_ret ⟨fun hh => absurd hh (by decide), fun _ => ⟨rfl, rfl, G, hG, cG, oG⟩⟩)
   rw [ltI_iff, natI_def, lps] at hd
   refine wp_grd rfl ?_
   have hrem : remI .i64 (j : Int) 2 = (j : Int) % 2 := rem_ok (by omega)
   rw [hrem, mul_ok (by omega) (by omega), add_ok (a := 10) (by omega) (by omega)]
   refine s_set oG (by omega) (by omega) (by rw [fits_i64]; omega) fun h'' o'' u'' _ => ?_
   rw [add_ok (by omega) (by omega)]
   exact s_ret ⟨fun _ => ⟨((j : Int) + 1, ()), rfl, ⟨j + 1, _, by omega, by dsimp only; omega, by rw [List.length_set]; exact hG, cG.trans (Chg.of_upd (F := baseB g) u'' fun y hy _ => ⟨y, hy, rfl⟩) fun _ _ f => f, o''⟩, by dsimp only; omega⟩, fun hh => absurd rfl hh⟩
  rintro tag vs g18 ⟨rfl, rfl, G, hG, c18, oG⟩
  refine s_tag (s_cast0 ?_)
  have q1718 := c18.1
  have r18 := r17.chg c18 fun j hj => rho3g j hj
  have ex18 : Ext h g18 := Keep.trans ex17 (c18.keep (by omega) fun j hj f => by have := bg j f; omega)
  have o18 := c18.own o17 fun y hy f => by cases hy; have := bg _ f; dsimp only at this; omega
  have pl18 := part_lst oG (s := ps) lps (by omega)
  have lG : (G.take l.length).length = l.length := by rw [List.length_take]; omega
  refine s_cell (b := .ptr) (some T1.p) rfl r18.B.ob.cells rfl (s_cell (b := .sl) ps rfl o18.cells rfl (wp_grd grdp (tyd r18.B.t pl18 (by omega) fun oth g19 eg19 ooth => ?_)))
  have r19 := r18.ext eg19
  have o19 := o18.ext eg19
  refine s_cell (b := .sl) s1 rfl r19.B.ob.cells rfl (s_cell (b := .sl) ps rfl o19.cells rfl (wp_grd grdp (wp_call (c_copied (pl18.ext eg19) (by omega)) fun ⟨(c3 : Sl), _⟩ g20 eg20 oc3 => ?_)))
  have oc3 : OwnL g19.size .i64 g20 c3 (G.take l.length) := oc3
  have r20 := r19.ext eg20
  refine s_ckC r20.B.ob.cells rfl (wp_call (c_refTyped r20.B.at_.lst (by omega) oc3.lst (by omega)) fun ⟨(wt : Sl), (ew : Int), _⟩ g21 eg21 ⟨owt, _⟩ => ?_)
  have owt : OwnL g20.size .i64 g21 wt (typedF (txA T1) (p : Int) (1 + nv) (G.take l.length)).1 := owt
  rw [ty] at owt
  have owt : OwnL g20.size .i64 g21 wt (tyF (txA T1) p (1 + nv) (G.take l.length) (G.take l.length).length) := owt
  refine wp_call (c_same6 (ooth.ext (eg20.trans eg21)).lst owt.lst) fun ⟨(y : Bool), _⟩ g22 eg22 hy => ?_
  have hy : y = decide (tyF (txA T1) p (1 + nv) (G.take l.length) (G.take l.length).length = tyF (txA T1) p (1 + nv) (G.take l.length) (G.take l.length).length) := hy
  have hy : y = true := hy.trans (decide_eq_true rfl)
  subst hy
  have e1822 := ((eg19.trans eg20).trans eg21).trans eg22
  have r22 := r18.ext e1822
  have o22 := o18.ext e1822
  have ex22 := ex18.trans e1822
  refine wp_ifB (fun hh => by cases hh) fun _ => ?_
  refine s_cell (b := .ptr) (some T1.p) rfl r22.B.ob.cells rfl (s_cell (b := .int .i64) v3 rfl o22.cells rfl (wp_call (c_lAt M C r22.B.t) fun _ g23 eg23 _ => ?_))
  have r23 := r22.ext eg23
  refine s_cell (b := .ptr) (some T1.p) rfl r23.B.ob.cells rfl (wp_call (c_lKinds M C L r23.B.t) fun _ g24 eg24' _ => ?_)
  have r24 := r23.ext eg24'
  have o24 := (o22.ext eg23).ext eg24'
  refine s_cell (b := .ptr) (some T1.p) rfl r24.B.ob.cells rfl (s_cell (b := .int .i64) v3 rfl o24.cells rfl (s_cell (b := .int .i64) v4 rfl o24.cells rfl (wp_call (c_lWhole M C r24.B.t) fun _ g25 eg25 _ => ?_)))
  have r25 := r24.ext eg25
  have ex25 := ((ex22.trans eg23).trans eg24').trans eg25
  refine bind_no ?_ fun g26 eg26 => wp_ifB (fun hh => by cases hh) fun _ => ?_
  ·refine s_cell (b := .ptr) (some T1.p) rfl r25.B.ob.cells rfl (wp_call (c_lNative (fb := 9) M C r25.B.t) fun ⟨(y : Int), _⟩ j1 f1' hy => ?_)
   have hy : y = nativeF (txA T1) 9 := hy
   have hp := native_pos (txA T1)
   have B1' := r25.B.ext f1'
   refine wp_ifB (fun hh => by rw [ltI_iff] at hh; dsimp only at hh; omega) fun _ => s_cell (b := .ptr) (some T1.p) rfl B1'.ob.cells rfl (s_cell (b := .sl) s1 rfl B1'.ob.cells rfl (s_cell (b := .ptr) (some T1.p) rfl B1'.ob.cells rfl ?_))
   rw [hns]
   refine s_of M C B1'.t (Nat.le_refl _) fun j2 f2' => ?_
   have B2' := B1'.ext f2'
   refine s_ckC B2'.ob.cells rfl (wp_call (c_lCount M C B2'.t) fun ⟨(y : Int), _⟩ j3 f3' hy => ?_)
   have hy : y = nLines (txA T1) := hy
   have B3' := B2'.ext f3'
   refine wp_ifB (fun hh => ?_) fun _ => s_cell (b := .ptr) (some T1.p) rfl B3'.ob.cells rfl (s_cell (b := .sl) s1 rfl B3'.ob.cells rfl (s_cell (b := .sl) s1 rfl B3'.ob.cells rfl ?_))
   ·rw [gtI_iff] at hh
    have : cntE (txA T1) (txA T1).length = nB (txA T1) := rfl
    dsimp only at hh
    omega
   rw [hns, hns1]
   refine wp_call (c_Atoms M C B3'.t (fits_i64.2 (by omega))) fun ⟨(v : Sl), _⟩ j4 f4' ov => ?_
   have ov : OwnL j3.size .i64 j4 v ((cutL (els T1.enc T1.cur.ps) 0 ((txA T1).length + 1 : Int)).map (·.1)) := ov
   rw [part_map] at ov
   have ov : OwnL j3.size .i64 j4 v (partL (txA T1) 0 ((txA T1).length + 1 : Int)) := ov
   rw [partL_all _ (by omega)] at ov
   have B4' := B3'.ext f4'
   refine s_ckC B4'.ob.cells rfl (wp_call (c_same6 ov.lst B4'.at_.lst) fun ⟨(y : Bool), _⟩ j5 f5' hy => ?_)
   have hy : y = decide (txA T1 = txA T1) := hy
   have hy : y = true := hy.trans (decide_eq_true rfl)
   subst hy
   have B5' := B4'.ext f5'
   refine wp_ifB (fun hh => by cases hh) fun _ => s_cell (b := .ptr) (some T1.p) rfl B5'.ob.cells rfl (s_cell (b := .sl) s1 rfl B5'.ob.cells rfl ?_)
   rw [hns]
   refine wp_call (c_Tags M C B5'.t (fits_i64.2 (by omega))) fun ⟨(v : Sl), _⟩ j6 f6' ov => ?_
   have ov : OwnL j5.size .i64 j6 v ((cutL (els T1.enc T1.cur.ps) 0 ((txA T1).length : Int)).map (·.2)) := ov
   rw [hTG] at ov
   have e16' := ((((f1'.trans f2').trans f3').trans f4').trans f5').trans f6'
   refine wp_call (c_same6 ov.lst (r25.ot.ext e16').lst) fun ⟨(y : Bool), _⟩ j7 f7' hy => f_ret2 (e16'.trans f7') ?_
   have hy : y = decide (TG = TG) := hy
   have hy : y = true := hy.trans (decide_eq_true rfl)
   rw [hy]; rfl
  have r26 := r25.ext eg26
  refine wp_call (c_stands r26.k.oh (fun x hx => (r26.k.it x hx).1) (by rw [List.length_append]; show _ + 1 ≤ _; omega)) fun ⟨(y : Bool), _⟩ g27 eg27 hy => ?_
  have hy : y = true := hy
  subst hy
  refine wp_ifB (fun hh => by cases hh) fun _ => ?_
  rw [add_ok (a := (i : Int)) (by omega) (by omega)]
  exact s_ret ⟨fun _ => ⟨(hs', q2, (i : Int) + 1, ()), rfl, ⟨i + 1, rho3, _, _, by omega, by omega, by dsimp only; omega, by rw [List.length_append, hHl]; rfl, by simp only [List.length_append, List.length_cons, List.length_nil]; omega, (ex25.trans eg26).trans eg27, r26.ext eg27⟩, by dsimp only; omega⟩, fun hh => absurd rfl hh⟩
 ·rintro tag vs g0 ⟨rfl, hs, qs, rho, H, Qs, rfl, hHl, hQl, ex0, r0⟩
  refine s_tag (wp_cast (tys := [.one .sl, .one .sl]) (hs, qs, ()) rfl ?_)
  exact wp_mono _ (fun tag vs h' ⟨ht, hv, k⟩ => ⟨ht, Keep.trans ex0 k, (true, ()), hv, rfl⟩) (c_endKept (T := fun _ => .fail) r0.k ex0.size (by omega) (by omega))
end Go.Sw.Piece
