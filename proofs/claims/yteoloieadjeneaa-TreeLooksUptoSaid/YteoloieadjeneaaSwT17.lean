/-
  Tree: the document's Replace; what is refused; lists that are looked at and written over (spoil).
-/
import Derived.Test.YteoloieadjeneaaSwT16
set_option linter.unusedVariables false
set_option linter.unusedSimpArgs false
set_option maxRecDepth 100000
namespace Go.Sw.Tree
variable {P : Program} {S : Ids} {h : Heap} {Q : Nat → List Value → Heap → Prop}

/-- May these places be replaced? -/
def Placed (i j : Int) (n : Nat) : Prop := 0 ≤ i ∧ i ≤ j ∧ j ≤ n

theorem c_ReplaceNo {p : Option Addr} {t : BT} {items : Sl} {i j : Int} (nt : Nd h p t) (hno : ¬ Placed i j t.list.length) :
    Gives P (F_Tree_Run_Replace S (p, ()) i j items) [.agg [.ptr], .one (.int .i64)] h fun (y : TR × Int × Unit) h' => y.2.1 = 1 ∧ y.1.1 = none := by
  unfold Placed at hno
  unfold F_Tree_Run_Replace Gives
  refine s_newP p fun k1 e1 o1 => s_newP none fun k2 e2 o2 => ?_
  have e02 := e1.trans e2
  have o12 := o1.ext e2
  refine bind_bool True ?_ fun b k3 e3 hb => ?_
  · refine wp_ifB (fun hz => s_ret ⟨rfl, Ext.refl _, true, rfl, Iff.intro (fun _ => trivial) (fun _ => rfl)⟩) fun hz => wp_ifB (fun hy => s_ret ⟨rfl, Ext.refl _, true, rfl, Iff.intro (fun _ => trivial) (fun _ => rfl)⟩) fun hy => s_getT o12 (wp_call (c_Size (nt.ext e02)) fun y k3 e3 hx => ?_)
    obtain ⟨(y : Int), w⟩ := y
    dsimp only at hx ⊢
    rw [ltI_not] at hz
    rw [gtI_not] at hy
    exact s_ret ⟨rfl, e3, gtI j y, rfl, Iff.intro (fun _ => trivial) (fun _ => gtI_iff.2 (by omega))⟩
  have hbt : b = true := hb.2 trivial
  subst hbt
  dsimp only
  exact s_ifT (s_putP none (o2.ext e3) fun k4 o4 u4 => s_getT o4 (s_ret ⟨rfl, Upd.extN (e02.trans e3) u4 (by intro a ha; cases ha; exact e1.size), ((none, ()), 1, ()), rfl, rfl, rfl⟩))

theorem c_refReplace {s items : Sl} {l its : List (Int × Int)} {i j : Int} (hr : Runs h s l) (hi : Runs h items its) (hroom : l.length + its.length ≤ 4398046511104) :
    Gives P (F_ref4_Replace S s i j items) [.one .sl, .one (.int .i64)] h fun (y : Sl × Int × Unit) h' =>
      (Placed i j l.length ∧ y.2.1 = 0 ∧ OwnR h.size h' y.1 (l.take i.toNat ++ its ++ l.drop j.toNat)) ∨ (¬ Placed i j l.length ∧ y.2.1 = 1) := by
  have hlen := hr.len
  have hil := hi.len
  unfold F_ref4_Replace Gives
  refine bind_bool (¬ Placed i j l.length) ?_ fun b h1 e1 hb => ?_
  · unfold Placed
    refine wp_ifB (fun hz => ?_) fun hz => wp_ifB (fun hy => ?_) fun hy => ?_
    · rw [ltI_iff] at hz
      exact s_ret ⟨rfl, Ext.refl _, true, rfl, Iff.intro (fun _ => by omega) (fun _ => rfl)⟩
    · rw [gtI_iff] at hy
      exact s_ret ⟨rfl, Ext.refl _, true, rfl, Iff.intro (fun _ => by omega) (fun _ => rfl)⟩
    · rw [ltI_not] at hz
      rw [gtI_not] at hy
      refine s_ret ⟨rfl, Ext.refl _, _, rfl, ?_⟩
      rw [gtI_iff, natI_def, hlen]; omega
  dsimp only
  refine wp_ifB (fun hc => s_ret ⟨rfl, e1, (⟨none, 0, 0⟩, 1, ()), rfl, .inr ⟨hb.1 hc, rfl⟩⟩) fun hc => ?_
  have hp : Placed i j l.length := Classical.byContradiction fun x => by rw [hb.2 x] at hc; cases hc
  obtain ⟨p0, p1, p2⟩ := id hp
  refine wp_while (fun (r : Sl × Int × Unit) h' => Ext h h' ∧ 0 ≤ r.2.1 ∧ r.2.1 ≤ i ∧ OwnR h.size h' r.1 (l.take r.2.1.toNat)) (fun r _ => (i - r.2.1).toNat)
    (fun t vs h' => t = 2 ∧ ∃ x : Sl × Unit, vs = Ts.inj [.one .sl] x ∧ Ext h h' ∧ OwnR h.size h' x.1 (l.take i.toNat)) ⟨e1, by simp, by simpa using p0, OwnR.nil ..⟩ ?_ ?_
  · rintro ⟨t, (k : Int), u⟩ h2 ⟨e2, k0, k1, ho⟩
    dsimp only at k0 k1 ho ⊢
    refine wp_ifB (fun hd => ?_) fun hd => ?_
    · rw [ltI_iff] at hd
      refine s_at2 (hr.ext e2) k0 (by omega) fun r hj => ?_
      obtain ⟨f1, f2⟩ := hr.wf.get hj
      refine s_push2 ho e2.size f1 f2 (by rw [List.length_take]; omega) fun t' h3 k3 ho => ?_
      rw [add_ok (by omega) (by omega)]
      refine s_ret ⟨fun _ => ⟨(t', k + 1, ()), rfl, ⟨Keep.trans e2 k3, by dsimp only; omega, by dsimp only; omega, ?_⟩, by dsimp only; omega⟩, fun h => absurd rfl h⟩
      dsimp only
      rw [take_succ k0 hj]; exact ho
    · rw [ltI_not] at hd
      rw [show k.toNat = i.toNat by omega] at ho
      exact s_ret ⟨fun h => absurd h (by decide), fun _ => ⟨rfl, (t, ()), rfl, e2, ho⟩⟩
  rintro t vs h2 ⟨rfl, ⟨x, w⟩, rfl, e2, ho⟩
  refine s_tag ⟨(x, ()), rfl, ?_⟩
  dsimp only at ho ⊢
  have lt1 : (l.take i.toNat).length ≤ l.length := by rw [List.length_take]; omega
  refine wp_while (fun (r : Sl × Int × Unit) h' => Ext h h' ∧ 0 ≤ r.2.1 ∧ r.2.1 ≤ its.length ∧ OwnR h.size h' r.1 (l.take i.toNat ++ its.take r.2.1.toNat)) (fun r _ => (its.length - r.2.1).toNat)
    (fun t vs h' => t = 4 ∧ ∃ x : Sl × Unit, vs = Ts.inj [.one .sl] x ∧ Ext h h' ∧ OwnR h.size h' x.1 (l.take i.toNat ++ its)) ⟨e2, by simp, by simp, by simpa using ho⟩ ?_ ?_
  · rintro ⟨t, (k : Int), u⟩ h3 ⟨e3, k0, k1, ho⟩
    dsimp only at k0 k1 ho ⊢
    refine wp_ifB (fun hd => ?_) fun hd => ?_
    · rw [ltI_iff, natI_def, hil] at hd
      refine s_at2 (hi.ext e3) k0 (by omega) fun r hj => ?_
      obtain ⟨f1, f2⟩ := hi.wf.get hj
      refine s_push2 ho e3.size f1 f2 (by rw [List.length_append, List.length_take (l := its)]; omega) fun t' h4 k4 ho => ?_
      rw [add_ok (by omega) (by omega)]
      refine s_ret ⟨fun _ => ⟨(t', k + 1, ()), rfl, ⟨Keep.trans e3 k4, by dsimp only; omega, by dsimp only; omega, ?_⟩, by dsimp only; omega⟩, fun h => absurd rfl h⟩
      dsimp only
      rw [take_succ k0 hj, ← List.append_assoc]; exact ho
    · rw [ltI_not, natI_def, hil] at hd
      rw [show its.take k.toNat = its from List.take_of_length_le (by omega)] at ho
      exact s_ret ⟨fun h => absurd h (by decide), fun _ => ⟨rfl, (t, ()), rfl, e3, ho⟩⟩
  rintro t vs h3 ⟨rfl, ⟨x, w⟩, rfl, e3, ho⟩
  refine s_tag ⟨(x, ()), rfl, ?_⟩
  dsimp only at ho ⊢
  refine wp_while (fun (r : Sl × Int × Unit) h' => Ext h h' ∧ j ≤ r.2.1 ∧ r.2.1 ≤ l.length ∧ OwnR h.size h' r.1 (l.take i.toNat ++ its ++ (l.drop j.toNat).take (r.2.1 - j).toNat)) (fun r _ => (l.length - r.2.1).toNat)
    (fun t vs h' => t = 6 ∧ ∃ x : Sl × Unit, vs = Ts.inj [.one .sl] x ∧ Ext h h' ∧ OwnR h.size h' x.1 (l.take i.toNat ++ its ++ l.drop j.toNat)) ⟨e3, by simp, by simpa using p2, by simpa using ho⟩ ?_ ?_
  · rintro ⟨t, (k : Int), u⟩ h4 ⟨e4, k0, k1, ho⟩
    dsimp only at k0 k1 ho ⊢
    refine wp_ifB (fun hd => ?_) fun hd => ?_
    · rw [ltI_iff, natI_def, hlen] at hd
      refine s_at2 (hr.ext e4) (by omega) (by omega) fun r hj => ?_
      obtain ⟨f1, f2⟩ := hr.wf.get hj
      refine s_push2 ho e4.size f1 f2 (by rw [List.length_append, List.length_append, List.length_take (l := l.drop j.toNat), List.length_drop, List.length_take]; omega) fun t' h5 k5 ho => ?_
      rw [add_ok (by omega) (by omega)]
      refine s_ret ⟨fun _ => ⟨(t', k + 1, ()), rfl, ⟨Keep.trans e4 k5, by dsimp only; omega, by dsimp only; omega, ?_⟩, by dsimp only; omega⟩, fun h => absurd rfl h⟩
      dsimp only
      have hj' : (l.drop j.toNat)[(k - j).toNat]? = some r := by rw [List.getElem?_drop, show j.toNat + (k - j).toNat = k.toNat by omega]; exact hj
      rw [show k + 1 - j = (k - j) + 1 by omega, take_succ (by omega) hj', ← List.append_assoc]; exact ho
    · rw [ltI_not, natI_def, hlen] at hd
      rw [show (l.drop j.toNat).take (k - j).toNat = l.drop j.toNat from List.take_of_length_le (by rw [List.length_drop]; omega)] at ho
      exact s_ret ⟨fun h => absurd h (by decide), fun _ => ⟨rfl, (t, ()), rfl, e4, ho⟩⟩
  rintro t vs h4 ⟨rfl, ⟨x, w⟩, rfl, e4, ho⟩
  exact s_tag ⟨(x, ()), rfl, s_ret ⟨rfl, e4, (x, 0, ()), rfl, .inl ⟨hp, rfl, ho⟩⟩⟩

end Go.Sw.Tree
