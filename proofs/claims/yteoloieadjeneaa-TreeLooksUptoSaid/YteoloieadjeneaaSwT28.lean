/-
  Tree: a step that makes a tree (makes).
-/
import Derived.Test.YteoloieadjeneaaSwT27
set_option linter.unusedVariables false
set_option linter.unusedSimpArgs false
set_option maxRecDepth 100000
namespace Go.Sw.Tree
variable {P : Program} {S : Ids} {h : Heap} {Q : Nat → List Value → Heap → Prop}
variable {n : Nat} {Z : Nat → Prop} {w : Addr} {ts ss : Sl} {ps : List (Option Addr)} {sl : List Sl} {bs : List BT} {ls : List (List (Int × Int))} {M : Nat}

theorem Runs.keepN {m : Nat} {h' : Heap} {s : Sl} {l : List (Int × Int)} (r : Runs h s l) (k : Keep m h h') (hb : l ≠ [] → ∀ a, s.base = some a → a.block < m) : Runs h' s l :=
  ⟨⟨r.rd.1, fun i v hi => let ⟨a, e, c⟩ := r.rd.2 i v hi; ⟨a, e, by
    rw [k.cell (by rw [add_block]; exact hb (by rintro rfl; simp [cR] at hi) a e)]; exact c⟩⟩, r.cap, r.max, r.wf⟩

def Replaced (t : BT) (its : List (Int × Int)) (i j : Int) (h' : Heap) (p : Option Addr) (e : Int) : Prop :=
  (Placed i j t.list.length ∧ e = 0 ∧ ∃ t', Nd h' p t' ∧ t'.list = t.list.take i.toNat ++ its ++ t.list.drop j.toNat ∧ t'.Avl) ∨ (¬ Placed i j t.list.length ∧ e = 1 ∧ p = none)
theorem Replaced.ext {t : BT} {its : List (Int × Int)} {i j : Int} {h h' : Heap} {p : Option Addr} {e : Int} (r : Replaced t its i j h p e) (x : Ext h h') : Replaced t its i j h' p e :=
  r.elim (fun ⟨h1, h2, t', h3, h4, h5⟩ => .inl ⟨h1, h2, t', h3.ext x, h4, h5⟩) .inr
theorem c_ReplaceAny {p : Option Addr} {t : BT} {items : Sl} {its : List (Int × Int)} {i j : Int} (nt : Nd h p t) (hr : Runs h items its) (hw : wfR t.list) (ha : t.Avl) (hroom : t.list.length + its.length ≤ 4398046511104) :
    Gives P (F_Tree_Run_Replace S (p, ()) i j items) [.agg [.ptr], .one (.int .i64)] h fun (y : TR × Int × Unit) h' => Replaced t its i j h' y.1.1 y.2.1 := by
  by_cases hp : Placed i j t.list.length
  · exact (c_Replace nt hr hw hp.1 hp.2.1 hp.2.2 hroom).mono fun y h' e ⟨h1, t', h2, h3, h4⟩ => .inl ⟨hp, h1, t', h2, h3, h4 ha⟩
  · exact (c_ReplaceNo nt hp).mono fun y h' e ⟨h1, h2⟩ => .inr ⟨hp, h1, h2⟩

theorem Replaced.len {t t' : BT} {its : List (Int × Int)} {i j : Int} (hp : Placed i j t.list.length) (hl : t'.list = t.list.take i.toNat ++ its ++ t.list.drop j.toNat) : t'.list.length ≤ t.list.length + its.length := by
  obtain ⟨h1, h2, h3⟩ := hp
  rw [hl, List.length_append, List.length_append, List.length_take, List.length_drop]
  omega

theorem s_sameAt {s : Sl} {vs : List Value} {v : Value} {j : Int} {K : Prog} (hr : Rd 1 h s vs) (hj : vs[j.toNat]? = some v) (hk : wp P K h Q) : wp P (.check (shiftTo s.base (mulN (toN j) 1)) [v] K) h Q := by
  obtain ⟨a, e, c⟩ := hr.2 _ _ hj
  refine s_check0 (a := a.add j.toNat) (by simp [shiftTo, e, mulN, toN]) (cells_iff.2 fun i u hi => ?_) hk
  match i, hi with
  | 0, hi => simp at hi; subst hi; rw [add_zero']; exact c
  | i + 1, hi => simp at hi
theorem s_sub0 (m : Nat) : subN (toN (natI m)) 0 = m := by simp [subN, toN, natI_def]
theorem spoilts_at {m i : Nat} (hi : i < m) : (spoilts m)[i]? = some (spoilt i) := by simp [spoilts, hi]

/-- What a step that makes a tree leaves. -/
def Made (n : Nat) (h' : Heap) (w : Addr) (bs : List BT) (M : Nat) : Prop :=
  ∃ Z' ts' ss' ps' sl' bs', Wood n Z' h' w ts' ss' ps' sl' bs' (bs'.map BT.list) M ∧ bs.length ≤ bs'.length ∧ bs'.length ≤ bs.length + 1

theorem c_makes {o : Op7} {its : List (Int × Int)} (hW : Wood n Z h w ts ss ps sl bs (bs.map BT.list) M) (hn : n ≤ h.size) (hits : Runs h o.2.2.2.2.2.2.1 its) (hb : its ≠ [] → ∀ a, o.2.2.2.2.2.2.1.base = some a → a.block < n)
    (hpos : 0 < bs.length) (hroom : bs.length + 1 ≤ 4194304) (hM : M + its.length ≤ 4194304) :
    GivesN n P (F_wood_makes S (some w) o) [.one .bool] h fun (y : Bool × Unit) h' => y.1 = true ∧ Made n h' w bs (M + its.length) := by
  obtain ⟨(o0 : Int), (o1 : Int), (o2 : Int), (o3 : Int), (o4 : Int), (o5 : Int), s, u⟩ := o
  dsimp only at hits hb
  have hil := hits.len
  unfold F_wood_makes GivesN
  dsimp only
  intro elem
  have e1 : Ext h (h.push (.cells [iv o0, iv o1, iv o2, iv o3, iv o4, iv o5, .slice s.base s.len s.cap].toArray elem)) := Ext.push ..
  have q1 : Own h.size 1 (h.push (.cells [iv o0, iv o1, iv o2, iv o3, iv o4, iv o5, .slice s.base s.len s.cap].toArray elem)) ⟨some ⟨h.size, 0, none⟩, 7, 7⟩ [iv o0, iv o1, iv o2, iv o3, iv o4, iv o5, .slice s.base s.len s.cap] := own_alloc rfl (by decide) (by decide)
  generalize (h.push (.cells [iv o0, iv o1, iv o2, iv o3, iv o4, iv o5, .slice s.base s.len s.cap].toArray elem)) = h1 at e1 q1 ⊢
  have b1 := (q1.lt rfl).2
  dsimp only at b1
  have s1 := e1.size
  refine ⟨⟨h.size, 0, none⟩, rfl, (o0, o1, o2, o3, o4, o5, s, ()), q1.cells, ?_⟩
  refine wp_call (c_handed (o := (o0, o1, o2, o3, o4, o5, s, ())) (its := its) (hits.ext e1) (by omega)) fun y h2 e2 hy => ?_
  obtain ⟨⟨lb, ll, lc⟩, w1⟩ := y
  obtain ⟨hlc, hic, oL⟩ := hy
  dsimp only at hlc hic oL ⊢
  have s2 := e2.size
  have hll := oL.len
  have hlm := oL.own.2.2.1
  dsimp only at hll hlm
  have e02 := e1.trans e2
  have q2 := q1.ext e2
  have W2 : Wood n (fun i => h.size ≤ i ∧ i < h2.size) h2 w ts ss ps sl bs (bs.map BT.list) (M + its.length) := ((hW.mono (Nat.le_add_right M its.length)).anew fun i hi => hi.1).ext e02
  have zL : ∀ a, lb = some a → h.size ≤ a.block ∧ a.block < h2.size := fun a ha => by have := oL.own.lt (a := a) ha; omega
  have hits2 : ∀ {h'}, Keep n h h' → Runs h' s its := fun k => hits.keepN k hb
  have oLt : ∀ {h'}, OwnR h1.size h' ⟨lb, ll, lc⟩ (its ++ marksR its.length (lc - its.length)) → Runs h' ⟨lb, its.length, lc⟩ its := fun oo => by
    have := oo.runs.take (n := its.length) (m := lc) (by rw [List.length_append]; omega) (by omega) hlm
    rw [List.take_left' rfl] at this; exact this
  refine s_cell (b := .int .i64) (x := o0) rfl q2.cells rfl (wp_ifB (fun hc => ?_) fun hc => ?_)
  · refine s_cell (b := .sl) (x := s) rfl q2.cells rfl (s_grd (leB_ok (by rw [natI_def]; omega) (by rw [natI_def, hil]; omega)) ?_)
    rw [s_sub0, hil, cutBase_zero, show subN lc 0 = lc from rfl]
    refine wp_call (c_Of (oLt oL) (by omega)) fun y h3 e3 hy => ?_
    obtain ⟨⟨(p : Option Addr), w2⟩, w3⟩ := y
    obtain ⟨t, nt, lt, ft⟩ := hy
    dsimp only at nt ⊢
    refine s_putTree p nt fun h4 e4 oT => ?_
    have W4 := W2.ext (e3.trans e4)
    have s3 := e3.size
    have s4 := e4.size
    refine grd_some rfl (grd_some rfl (s_cell (b := .sl) (x := ts) rfl W4.ow.cells rfl (s_getT oT (s_newP p fun h5 e5 o5 => q_same (W4.ext e5).ow.cells (fun i v hi => by match i, hi with | 0, hi => exact hi) ?_))))
    have s5 := e5.size
    have e25 := (e3.trans e4).trans e5
    have q5 := q2.ext e25
    have oL5 := oL.ext e25
    refine s_appT (W4.ext e5) (by omega) o5 (by omega) fun r h6 m6 => grd_some rfl (grd_some rfl (s_stoT (b := t) m6 (by omega) (nt.ext (e4.trans e5)) ft.2.2 (by rw [lt]; omega) (fun i hi => by omega) fun h7 W7 z7 k7 => ?_))
    have s7 := k7.size
    have q7 : Own h.size 1 h7 _ _ := q5.keep fun a ha => z7 _ (by cases ha; exact ⟨Nat.le_refl _, Nat.lt_of_lt_of_le b1 s2⟩)
    have oL7 : OwnR h1.size h7 _ _ := ⟨oL5.own.keep fun a ha => z7 _ (zL a ha), oL5.wf⟩
    have k07 : Keep n h h7 := Keep.trans ((e02.trans e25).mono hn) k7
    refine grd_some rfl (grd_some rfl (s_cell (b := .sl) (x := ss) rfl W7.ow.cells rfl (s_cell (b := .sl) (x := s) rfl q7.cells rfl (wp_call (c_plain (hits2 k07) (by omega)) fun y h8 e8 hy => ?_))))
    obtain ⟨x, w4⟩ := y
    dsimp only at hy ⊢
    have s8 := e8.size
    refine q_same (W7.ext e8).ow.cells (fun i v hi => by match i, hi with | 0, hi => exact hi) (s_newS x fun h9 e9 o9 => q_same (W7.ext (e8.trans e9)).ow.cells (fun i v hi => by match i, hi with | 0, hi => exact hi) ?_)
    have s9 := e9.size
    refine s_appL (W7.ext (e8.trans e9)) (by omega) o9 (by rw [List.length_map]; omega) fun r2 h10 m10 => grd_some rfl (grd_some rfl (s_stoL (l := its) m10 (by omega) (hy.ext e9).runs (fun _ a ha => by have := (hy.own.lt ha).1; omega) (fun i hi => by omega) fun h11 W11 z11 k11 => ?_))
    have s11 := k11.size
    have e79 := e8.trans e9
    have q11 : Own h.size 1 h11 _ _ := (q7.ext e79).keep fun a ha => z11 _ (by cases ha; exact ⟨Nat.le_refl _, Nat.lt_of_lt_of_le b1 s2⟩)
    have oL11 : OwnR h1.size h11 _ _ := ⟨(oL7.ext e79).own.keep fun a ha => z11 _ (zL a ha), oL7.wf⟩
    have k11' : Keep n h h11 := Keep.trans k07 (Keep.trans (e79.mono (by omega)) k11)
    refine s_cell (b := .sl) (x := s) rfl q11.cells rfl (wp_callN (c_spoil oL11 (by omega) (hits2 k11') fun hne a ha => by have := hb hne a ha; omega) fun y h12 k12 hy => ?_)
    obtain ⟨(y : Bool), w5⟩ := y
    obtain ⟨hy, oL12, u12⟩ := hy
    dsimp only at hy ⊢
    subst y
    have s12 := k12.size
    have W12 := W11.spoiled u12 (fun a ha => zL a ha) (oL11.allK hlc)
    have q12 : Own h.size 1 h12 _ _ := q11.keep fun a ha => by cases ha; exact k12.2.1 _ (by dsimp only; omega)
    have k012 : Keep n h h12 := Keep.trans k11' (k12.mono (by omega))
    have rS : ∀ {h'}, Ext h12 h' → Runs h' ⟨lb, its.length, lc⟩ (spoilts its.length) := fun e => by
      have := (oL12.ext e).runs.take (n := its.length) (m := lc) (by rw [List.length_append, spoilts_len]; omega) (by omega) hlm
      rw [List.take_left' (spoilts_len _)] at this; exact this
    have fin : ∀ {h'}, Ext h12 h' → Made n h' w bs (M + its.length) := fun e =>
      ⟨_, _, _, _, _, bs ++ [t], by rw [map_snoc, lt]; exact W12.ext e, by simp, by simp⟩
    refine s_cell (b := .sl) (x := s) rfl q12.cells rfl (s_grd (leB_ok (by rw [natI_def]; omega) (by rw [natI_def, hil]; omega)) ?_)
    rw [s_sub0, hil]
    refine wp_call (c_Of (rS (Ext.refl _)) (by rw [spoilts_len]; omega)) fun y h13 e13 hy => ?_
    obtain ⟨⟨(p2 : Option Addr), w6⟩, w7⟩ := y
    obtain ⟨t2, nt2, lt2, _⟩ := hy
    dsimp only at nt2 ⊢
    have hw2 : wfR t2.list := by rw [lt2]; exact (rS (Ext.refl _)).wf
    have hl2 : t2.list.length = its.length := by rw [lt2, spoilts_len]
    refine s_putTree p2 nt2 fun h14 e14 oT2 => ?_
    have e24 := e13.trans e14
    refine s_cell (b := .sl) (x := s) rfl (q12.ext e24).cells rfl (s_grd (leB_ok (by rw [natI_def]; omega) (by rw [natI_def, hil]; omega)) ?_)
    rw [s_sub0, hil]
    refine wp_call (c_plain (rS e24) (by rw [spoilts_len]; omega)) fun y h15 e15 hy => ?_
    obtain ⟨v, w8⟩ := y
    dsimp only at hy ⊢
    have rV := hy.runs
    have vl := rV.len
    rw [spoilts_len] at vl
    have e25' := e24.trans e15
    have n15 := nt2.ext (e14.trans e15)
    have oT15 := oT2.ext e15
    have vL := V.sum hw2
    refine bind_bool False ?_ fun b h16 e16 hbf => ?_
    · refine s_getT oT15 (wp_call (c_Size n15) fun y k1 d1 hy => ?_)
      obtain ⟨(y : Int), w9⟩ := y
      dsimp only at hy ⊢
      rw [show neI y (natI v.len) = false from neI_not.2 (by rw [natI_def, vl, hy, hl2])]
      refine s_ifF (s_getT (oT15.ext d1) (wp_call (c_Sum (n15.ext d1) hw2 (by omega)) fun y k2 d2 hy => wp_call (c_Upto (rV.ext (d1.trans d2)) (by rw [spoilts_len]; omega)) fun z k3 d3 hz => ?_))
      obtain ⟨y, w10⟩ := y
      obtain ⟨z, w11⟩ := z
      dsimp only at hy hz
      rw [natI_def, vl, Int.toNat_natCast, List.take_of_length_le (by rw [spoilts_len]; omega), ← lt2, ← hy] at hz
      subst hz
      subst hy
      refine wp_call (c_sameRuns vL (by omega)) fun y k4 d4 hy => ?_
      obtain ⟨(y : Bool), w12⟩ := y
      dsimp only at hy ⊢
      subst y
      exact s_ret ⟨rfl, ((d1.trans d2).trans d3).trans d4, false, rfl, Iff.intro (fun x => by cases x) False.elim⟩
    · have hbb : b = false := by cases b; rfl; exact (hbf.1 rfl).elim
      subst hbb
      dsimp only
      have e26 := e25'.trans e16
      refine s_ifF (wp_while (fun (r : Int × Unit) h' => Ext h12 h' ∧ Ext h16 h' ∧ 0 ≤ r.1 ∧ r.1 ≤ its.length) (fun r _ => (its.length - r.1).toNat) (fun t vs h' => t = 2 ∧ vs = [] ∧ Ext h12 h') ⟨e26, Ext.refl _, by simp, by simp⟩ ?_ ?_)
      · rintro ⟨(i : Int), u⟩ k1 ⟨d1, d16, i0, i1⟩
        dsimp only at i0 i1 ⊢
        have e1k := e16.trans d16
        refine wp_ifB (fun hc => ?_) fun hc => s_ret ⟨fun h => absurd h (by decide), fun _ => ⟨rfl, rfl, d1⟩⟩
        rw [ltI_iff, natI_def, vl] at hc
        have hat := spoilts_at (m := its.length) (i := i.toNat) (by omega)
        refine s_getT (oT15.ext e1k) (wp_call (c_At (i := i) (x := spoilt i.toNat) (n15.ext e1k) hw2 (by omega) i0 (by rw [lt2]; exact hat)) fun y k2 d2 hy => ?_)
        obtain ⟨⟨(y1 : Int), (y2 : Int), w13⟩, (y3 : Bool), w14⟩ := y
        obtain ⟨hy1, hy2, hy3⟩ := hy
        dsimp only at hy1 hy2 hy3 ⊢
        subst y1; subst y2; subst y3
        have fsp := rV.wf.get hat
        refine s_put2 _ _ fsp fun k3 d3 oX => ?_
        refine bind_bool False ?_ fun b k4 d4 hbf => ?_
        · refine s_ifF (s_get2 rfl oX (s_at2 (rV.ext ((e1k.trans d2).trans d3)) i0 (by rw [spoilts_len]; omega) fun r hj => ?_))
          rw [hat] at hj
          cases hj
          refine wp_call (c_sameRun (a := ((spoilt i.toNat).1, (spoilt i.toNat).2, ())) (b := ((spoilt i.toNat).1, (spoilt i.toNat).2, ())) fsp fsp) fun y k4 d4 hy => ?_
          obtain ⟨(y : Bool), w15⟩ := y
          dsimp only at hy ⊢
          rw [hy.2 ⟨rfl, rfl⟩]
          exact s_ret ⟨rfl, d4, false, rfl, Iff.intro (fun x => by cases x) False.elim⟩
        · have hbb : b = false := by cases b; rfl; exact (hbf.1 rfl).elim
          subst hbb
          dsimp only
          have dd := (d2.trans d3).trans d4
          refine s_ifF (wp_ifB (fun _ => s_ret ⟨fun h => absurd h (by decide), fun _ => ⟨rfl, rfl, d1.trans dd⟩⟩) fun _ => ?_)
          rw [add_ok (by omega) (by omega)]
          exact s_ret ⟨fun _ => ⟨(i + 1, ()), rfl, ⟨d1.trans dd, d16.trans dd, by dsimp only; omega, by dsimp only; omega⟩, by dsimp only; omega⟩, fun h => absurd rfl h⟩
      · rintro t' vs k1 ⟨rfl, rfl, d1⟩
        exact s_tag (s_cast0 (s_ret ⟨rfl, Keep.trans k012 (d1.mono (by omega)), (true, ()), rfl, rfl, fin d1⟩))
  · refine ⟨⟨h.size, 0, none⟩, rfl, (o0, o1, o2, o3, o4, o5, s, ()), q2.cells, ?_⟩
    have hR := W2.toR hpos (by omega) hM
    have htl := hR.t.1
    rw [List.length_map, hR.tl] at htl
    refine wp_call (c_who (o := (o0, o1, o2, o3, o4, o5, s, ())) hR.obj (by omega) (by omega)) fun y h3 e3 hy => ?_
    obtain ⟨(k : Int), w2⟩ := y
    obtain ⟨k0, k1⟩ := hy
    dsimp only at k0 k1 ⊢
    have W3 := W2.ext e3
    have R3 := hR.ext e3
    have q3 := q2.ext e3
    have s3 := e3.size
    have hbk : bs[k.toNat]? = some bs[k.toNat] := List.getElem?_eq_getElem (by omega)
    obtain ⟨p, x, hp, hx, nd, rn, av, rm⟩ := R3.nd _ _ hbk
    obtain ⟨_, _, _, _, rm'⟩ := hW.nt _ _ hbk
    generalize bs[k.toNat] = t at nd rn av rm rm'
    have hpP : (ps.map Value.pointer)[k.toNat]? = some (.pointer p) := by rw [List.getElem?_map, hp]; rfl
    have hxP : (sl.map slV)[k.toNat]? = some (slV x) := by rw [List.getElem?_map, hx]; rfl
    have ckA : ∀ {h'} {j : Nat} {v : Value} {K : Prog} {Q : Nat → List Value → Heap → Prop}, Ext h3 h' → [iv o0, iv o1, iv o2, iv o3, iv o4, iv o5, .slice s.base s.len s.cap][j]? = some v → wp P K h' Q → wp P (.check (shiftTo (some ⟨h.size, 0, none⟩) j) [v] K) h' Q := fun e hv hk =>
      q_same (q3.ext e).cells (fun i u hi => by match i, hi with | 0, hi => simp at hi; subst hi; exact hv) hk
    have ckW : ∀ {h'} {K : Prog} {Q : Nat → List Value → Heap → Prop}, Ext h3 h' → wp P K h' Q → wp P (.check (shiftTo (some w) 0) [slV ts] K) h' Q := fun e hk =>
      q_same (W3.ext e).ow.cells (fun i v hi => by match i, hi with | 0, hi => exact hi) hk
    have ckX : ∀ {h'} {K : Prog} {Q : Nat → List Value → Heap → Prop}, Ext h3 h' → wp P K h' Q → wp P (.check (shiftTo (some w) 1) [slV ss] K) h' Q := fun e hk =>
      q_same (W3.ext e).ow.cells (fun i v hi => by match i, hi with | 0, hi => exact hi) hk
    refine bind_val (tys := [.one .ptr, .one (.int .i64)]) (fun (y : Option Addr × Int × Unit) h' => ∃ a q m, y.1 = some a ∧ h3.size ≤ a.block ∧ Own m 1 h' ⟨some a, 1, 1⟩ [.pointer q] ∧ Replaced t its o2 o3 h' q y.2.1) ⟨?_, ?_⟩ fun y h4 e4 hy => ?_
    · refine grd_some rfl (grd_some rfl (s_cell (b := .sl) (x := ts) rfl R3.obj rfl (s_atP R3.t k0 hp (s_cell (b := .int .i64) (x := o2) rfl q3.cells rfl (s_cell (b := .int .i64) (x := o3) rfl q3.cells rfl (s_cell (b := .sl) (x := s) rfl q3.cells rfl
        (s_grd (leB_ok (by rw [natI_def]; omega) (by rw [natI_def, hil]; omega)) ?_)))))))
      rw [s_sub0, hil, cutBase_zero, show subN lc 0 = lc from rfl]
      refine wp_call (c_ReplaceAny nd (oLt (oL.ext e3)) rn.wf av (by omega)) fun y k1 d1 hy => s_newP none fun k2 d2 o2 => ?_
      have d02 := d1.trans d2
      obtain ⟨⟨(q : Option Addr), w3⟩, (e : Int), w4⟩ := y
      dsimp only at hy ⊢
      rw [← hil]
      refine ckA d02 rfl (ckA d02 rfl (ckA d02 rfl (s_sameAt (R3.ext d02).t hpP (ckW d02 (s_putP q o2 fun k3 o3 u3 => ?_)))))
      have e3 := Upd.extN d02 u3 (by intro a ha; cases ha; exact d1.size)
      refine s_ret ⟨rfl, e3, (some ⟨k1.size, 0, none⟩, e, ()), rfl, ⟨k1.size, 0, none⟩, q, k1.size, rfl, d1.size, o3, ?_⟩
      have hy2 := hy.ext d2
      rcases hy2 with ⟨a1, a2, t', a3, a4, a5⟩ | a
      · exact .inl ⟨a1, a2, t', a3.upd u3 o2 (by decide), a4, a5⟩
      · exact .inr a
    · refine grd_some rfl (grd_some rfl (s_cell (b := .sl) (x := ts) rfl R3.obj rfl (s_atP R3.t k0 hp (s_cell (b := .int .i64) (x := o2) rfl q3.cells rfl (s_cell (b := .int .i64) (x := o3) rfl q3.cells rfl (s_cell (b := .sl) (x := s) rfl q3.cells rfl
        (s_grd (leB_ok (by rw [natI_def]; omega) (by rw [natI_def, hil]; omega)) ?_)))))))
      refine s_newP none fun k1 d1 oN => ckA d1 rfl (ckA d1 rfl (ckA d1 rfl (s_sameAt (R3.ext d1).t hpP (ckW d1 ?_))))
      rw [s_sub0, hil, cutBase_zero, show subN lc 0 = lc from rfl]
      refine wp_call (c_ReplaceAny (nd.ext d1) (oLt (oL.ext (e3.trans d1))) rn.wf av (by omega)) fun y k2 d2 hy => ?_
      obtain ⟨⟨(q : Option Addr), w3⟩, (e : Int), w4⟩ := y
      dsimp only at hy ⊢
      refine s_putP q (oN.ext d2) fun k3 o3 u3 => ?_
      have e3 := Upd.extN (d1.trans d2) u3 (by intro a ha; cases ha; exact Nat.le_refl _)
      refine s_ret ⟨rfl, e3, (some ⟨h3.size, 0, none⟩, e, ()), rfl, ⟨h3.size, 0, none⟩, q, h3.size, rfl, Nat.le_refl _, o3, ?_⟩
      rcases hy with ⟨a1, a2, t', a3, a4, a5⟩ | a
      · exact .inl ⟨a1, a2, t', a3.upd u3 (oN.ext d2) (by decide), a4, a5⟩
      · exact .inr a
    obtain ⟨(y1 : Option Addr), (e : Int), w3⟩ := y
    obtain ⟨a, q, m, hy1, hya, oQ, rep⟩ := hy
    dsimp only at hy1 oQ rep ⊢
    subst y1
    have R4 := R3.ext e4
    have q4 := q3.ext e4
    have s4 := e4.size
    refine grd_some rfl (grd_some rfl (s_cell (b := .sl) (x := ss) rfl R4.obj rfl (s_atS R4.s k0 hx (s_cell (b := .int .i64) (x := o2) rfl q4.cells rfl (s_cell (b := .int .i64) (x := o3) rfl q4.cells rfl (s_cell (b := .sl) (x := s) rfl q4.cells rfl
      (wp_call (c_plain (hits2 (((e02.trans e3).trans e4).mono hn)) (by omega)) fun y h5 e5 hy => ?_)))))))
    obtain ⟨x5, w4⟩ := y
    dsimp only at hy ⊢
    have e35 := e4.trans e5
    have s5 := e5.size
    refine ckA e35 rfl (ckA e35 rfl (s_sameAt (R4.ext e5).s hxP (ckX e35 (wp_call (c_refReplace (rn.ext e35) hy.runs (by omega)) fun y h6 e6 hz => ?_))))
    obtain ⟨x6, (f : Int), w5⟩ := y
    dsimp only at hz ⊢
    refine wp_call c_num fun y h7 e7 hy7 => ?_
    obtain ⟨(y : Int), w6⟩ := y
    dsimp only at hy7 ⊢
    subst y
    have e47 := (e5.trans e6).trans e7
    have e37 := e4.trans e47
    have s6 := e6.size
    have s7 := e7.size
    have W7 : Wood n (fun i => h.size ≤ i ∧ i < h7.size) h7 w ts ss ps sl bs (bs.map BT.list) (M + its.length) := ((hW.mono (Nat.le_add_right M its.length)).anew fun i hi => hi.1).ext ((e02.trans e3).trans e37)
    have rep7 := rep.ext e47
    have oQ7 := oQ.ext e47
    rcases rep7 with ⟨r1, r2, t', nt', lt', at'⟩ | ⟨r1, r2, r3⟩
    · obtain ⟨rfl, oX⟩ : f = 0 ∧ OwnR h5.size h6 x6 t'.list := by
        rcases hz with ⟨_, z1, z2⟩ | ⟨z, _⟩
        · exact ⟨z1, by rw [lt']; exact z2⟩
        · exact absurd r1 z
      subst e
      refine s_ifF (s_ifF (grd_some rfl (grd_some rfl (s_cell (b := .sl) (x := ts) rfl W7.ow.cells rfl (s_getT oQ7 (s_newP q fun h8 e8 o8 => q_same (W7.ext e8).ow.cells (fun i v hi => by match i, hi with | 0, hi => exact hi) ?_))))))
      have s8 := e8.size
      have oL8 := oL.ext ((e3.trans e37).trans e8)
      have q8 := q3.ext (e37.trans e8)
      have hlen := Replaced.len r1 lt'
      refine s_appT (W7.ext e8) (by omega) o8 (by omega) fun r h9 m9 => grd_some rfl (grd_some rfl (s_stoT (b := t') m9 (by omega) (nt'.ext e8) at' (by omega) (fun i hi => by omega) fun h10 W10' z10 k10 => ?_))
      have s10 := k10.size
      have q10 : Own h.size 1 h10 _ _ := q8.keep fun a ha => z10 _ (by cases ha; exact ⟨Nat.le_refl _, by dsimp only; omega⟩)
      have oL10 : OwnR h1.size h10 _ _ := ⟨oL8.own.keep fun a ha => z10 _ (by have := zL a ha; omega), oL8.wf⟩
      have W10 : Wood n (fun i => h.size ≤ i ∧ i < h2.size) h10 _ _ _ _ _ _ _ _ := W10'.less fun i hi => by omega
      have k010 : Keep n h h10 := Keep.trans ((((e02.trans e3).trans e37).trans e8).mono hn) k10
      refine grd_some rfl (grd_some rfl (s_cell (b := .sl) (x := ss) rfl W10.ow.cells rfl (s_newS x6 fun h11 e11 o11 => ?_)))
      have s11 := e11.size
      have x10 : Runs h10 x6 t'.list := OwnR.runs (n := h5.size) ⟨((oX.ext e7).ext e8).own.keep fun a ha => z10 _ (by have := (oX.own.lt ha).1; have := (oX.own.lt ha).2; omega), oX.wf⟩
      refine s_appL (W10.ext e11) (by omega) o11 (by rw [List.length_map]; omega) fun r2 h12 m12 => grd_some rfl (grd_some rfl (s_stoL (l := t'.list) m12 (by omega) (x10.ext e11) (fun _ a ha => by have := (oX.own.lt ha).1; omega) (fun i hi => by omega) fun h13 W13 z13 k13 => ?_))
      have s13 := k13.size
      have q13 : Own h.size 1 h13 _ _ := (q10.ext e11).keep fun a ha => z13 _ (by cases ha; exact ⟨Nat.le_refl _, Nat.lt_of_lt_of_le b1 s2⟩)
      have oL13 : OwnR h1.size h13 _ _ := ⟨(oL10.ext e11).own.keep fun a ha => z13 _ (zL a ha), oL10.wf⟩
      have k013 : Keep n h h13 := Keep.trans k010 (Keep.trans (e11.mono (by omega)) k13)
      refine s_cell (b := .sl) (x := s) rfl q13.cells rfl (wp_callN (c_spoil oL13 (by omega) (hits2 k013) fun hne a ha => by have := hb hne a ha; omega) fun y h14 k14 hy => ?_)
      obtain ⟨(y : Bool), w7⟩ := y
      obtain ⟨hy, oL14, u14⟩ := hy
      dsimp only at hy ⊢
      subst y
      have W14 := W13.spoiled u14 (fun a ha => zL a ha) (oL13.allK hlc)
      refine s_ret ⟨rfl, Keep.trans k013 (k14.mono (by omega)), (true, ()), rfl, rfl, _, _, _, _, _, bs ++ [t'], by rw [map_snoc]; exact W14, by simp, by simp⟩
    · obtain rfl : f = 1 := by
        rcases hz with ⟨z, _⟩ | ⟨_, z⟩
        · exact absurd z r1
        · exact z
      subst e; subst q
      refine s_ifF (s_ifT (s_getT oQ7 (wp_call (c_Size (t := .nil) (p := none) rfl) fun y h8 e8 hy => ?_)))
      obtain ⟨(y : Int), w7⟩ := y
      dsimp only at hy ⊢
      rw [show eqI y 0 = true from eqI_iff.2 hy]
      exact s_ret ⟨rfl, (((e02.trans e3).trans e37).trans e8).mono hn, (true, ()), rfl, rfl, _, _, _, _, _, bs, W7.ext e8, Nat.le_refl _, by omega⟩

end Go.Sw.Tree
