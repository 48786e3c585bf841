/-
  Tree: the steps that ask (tells), but those of At, Items and Height.
-/
import Derived.Test.YteoloieadjeneaaSwT23
set_option linter.unusedVariables false
set_option linter.unusedSimpArgs false
set_option maxRecDepth 100000
namespace Go.Sw.Tree
variable {P : Program} {S : Ids} {h : Heap} {Q : Nat → List Value → Heap → Prop}

/-- The wood, to be read: its trees, their lists. -/
structure WoodR (h : Heap) (w : Addr) (ts ss : Sl) (ps : List (Option Addr)) (sl : List Sl) (bs : List BT) : Prop where
  obj : Cells h w [slV ts, slV ss]
  t : Rd 1 h ts (ps.map .pointer)
  s : Rd 1 h ss (sl.map slV)
  tl : ps.length = bs.length
  sln : sl.length = bs.length
  pos : 0 < bs.length
  room : bs.length ≤ 4194304
  nd : ∀ (i : Nat) (b : BT), bs[i]? = some b → ∃ p x, ps[i]? = some p ∧ sl[i]? = some x ∧ Nd h p b ∧ Runs h x b.list ∧ b.Avl ∧ b.list.length ≤ 4194304

theorem WoodR.ext {h h' : Heap} {w : Addr} {ts ss : Sl} {ps : List (Option Addr)} {sl : List Sl} {bs : List BT} (o : WoodR h w ts ss ps sl bs) (e : Ext h h') : WoodR h' w ts ss ps sl bs :=
  ⟨e.cells o.obj, e.rd o.t, e.rd o.s, o.tl, o.sln, o.pos, o.room, fun i b hi => let ⟨p, x, h1, h2, h3, h4, h5, h6⟩ := o.nd i b hi; ⟨p, x, h1, h2, h3.ext e, h4.ext e, h5, h6⟩⟩

theorem s_atP {s : Sl} {ps : List (Option Addr)} {p : Option Addr} {K : TR → Prog} {j : Int} (hr : Rd 1 h s (ps.map .pointer)) (h0 : 0 ≤ j) (hj : ps[j.toNat]? = some p) (hk : wp P (K (p, ())) h Q) :
    wp P (grd (andB (someB s.base) (inB j s.len)) (.load (.agg [.ptr]) (shiftTo s.base (mulN (toN j) 1)) K)) h Q := by
  have hlt := (List.getElem?_eq_some_iff.1 hj).1
  have hl := hr.1
  rw [List.length_map] at hl
  obtain ⟨a, e, c⟩ := hr.2 j.toNat (.pointer p) (by rw [List.getElem?_map, hj]; rfl)
  refine wp_grd (andB_iff.2 ⟨by simp [someB, e], inB_is.2 ⟨h0, by omega⟩⟩) ⟨a.add j.toNat, by simp [shiftTo, e, mulN, toN], (p, ()), cells_iff.2 fun i v hi => ?_, hk⟩
  match i, hi with
  | 0, hi => simp [Ty.cells, Bs.inj] at hi; subst hi; rw [add_zero']; exact c
  | i + 1, hi => simp [Ty.cells, Bs.inj] at hi
theorem s_atS {s : Sl} {sl : List Sl} {x : Sl} {K : Sl → Prog} {j : Int} (hr : Rd 1 h s (sl.map slV)) (h0 : 0 ≤ j) (hj : sl[j.toNat]? = some x) (hk : wp P (K x) h Q) :
    wp P (grd (andB (someB s.base) (inB j s.len)) (.load (.one .sl) (shiftTo s.base (mulN (toN j) 1)) K)) h Q := by
  have hlt := (List.getElem?_eq_some_iff.1 hj).1
  have hl := hr.1
  rw [List.length_map] at hl
  obtain ⟨a, e, c⟩ := hr.2 j.toNat (slV x) (by rw [List.getElem?_map, hj]; rfl)
  exact wp_grd (andB_iff.2 ⟨by simp [someB, e], inB_is.2 ⟨h0, by omega⟩⟩) (wp_load1 (b := .sl) (a.add j.toNat) x (by simp [shiftTo, e, mulN, toN]) c hk)

theorem c_tells {w : Addr} {ts ss : Sl} {ps : List (Option Addr)} {sl : List Sl} {bs : List BT} {o : Op7} (hW : WoodR h w ts ss ps sl bs) (hk : o.1 ≠ 6 ∧ o.1 ≠ 8 ∧ o.1 ≠ 9) :
    Gives P (F_wood_tells S (some w) o) [.one .bool] h fun (y : Bool × Unit) _ => y.1 = true := by
  obtain ⟨(o0 : Int), (o1 : Int), (o2 : Int), (o3 : Int), (o4 : Int), (o5 : Int), s, u⟩ := o
  obtain ⟨hk6, hk8, hk9⟩ := hk
  dsimp only at hk6 hk8 hk9
  unfold F_wood_tells Gives
  dsimp only
  intro elem
  have e1 : Ext h (h.push (.cells [iv o0, iv o1, iv o2, iv o3, iv o4, iv o5, .slice s.base s.len s.cap].toArray elem)) := Ext.push ..
  have q1 : Own h.size 1 (h.push (.cells [iv o0, iv o1, iv o2, iv o3, iv o4, iv o5, .slice s.base s.len s.cap].toArray elem)) ⟨some ⟨h.size, 0, none⟩, 7, 7⟩ [iv o0, iv o1, iv o2, iv o3, iv o4, iv o5, .slice s.base s.len s.cap] := own_alloc rfl (by decide) (by decide)
  generalize (h.push (.cells [iv o0, iv o1, iv o2, iv o3, iv o4, iv o5, .slice s.base s.len s.cap].toArray elem)) = h1 at e1 q1 ⊢
  have hW1 := hW.ext e1
  have htl := hW.t.1
  rw [List.length_map, hW.tl] at htl
  have hpos := hW.pos
  have hrm := hW.room
  refine ⟨⟨h.size, 0, none⟩, rfl, (o0, o1, o2, o3, o4, o5, s, ()), q1.cells, ?_⟩
  refine wp_call (c_who (o := (o0, o1, o2, o3, o4, o5, s, ())) hW1.obj (by omega) (by omega)) fun y h2 e2 hy => ?_
  obtain ⟨(k : Int), w1⟩ := y
  obtain ⟨k0, k1⟩ := hy
  dsimp only at k0 k1 ⊢
  have hW2 := hW1.ext e2
  have hb : bs[k.toNat]? = some bs[k.toNat] := List.getElem?_eq_getElem (by omega)
  obtain ⟨p, x, hp, hx, nd, rn, av, rm⟩ := hW2.nd _ _ hb
  generalize bs[k.toNat] = t at nd rn av rm
  refine grd_some rfl (grd_some rfl (s_cell (b := .sl) (x := ts) rfl hW2.obj rfl (s_atP hW2.t k0 hp (s_putTree p nd fun h3 e3 oT => ?_))))
  have hW3 := hW2.ext e3
  have n3 := nd.ext e3
  have r3 := rn.ext e3
  have q3 := (q1.ext (e2.trans e3)).cells
  have hl := rn.len
  have hw := rn.wf
  have e03 := (e1.trans e2).trans e3
  refine grd_some rfl (grd_some rfl (s_cell (b := .sl) (x := ss) rfl hW3.obj rfl (s_atS hW3.s k0 hx (s_cell (b := .int .i64) (x := o0) rfl q3 rfl ?_))))
  have vL := V.sum hw
  refine wp_ifB (fun hc => ?_) fun _ => wp_ifB (fun hc => ?_) fun _ => wp_ifB (fun hc => ?_) fun _ => wp_ifB (fun hc => ?_) fun _ => wp_ifB (fun hc => ?_) fun _ => wp_ifB (fun hc => ?_) fun _ => wp_ifB (fun hc => ?_) fun _ => ?_
  · refine s_getT oT (wp_call (c_Size n3) fun y h4 e4 hy => ?_)
    obtain ⟨(y : Int), w2⟩ := y
    dsimp only at hy ⊢
    exact s_ret ⟨rfl, e03.trans e4, (_, ()), rfl, eqI_iff.2 (by rw [natI_def, hl]; exact hy)⟩
  · refine s_getT oT (wp_call (c_Sum n3 hw (by omega)) fun y h4 e4 hy => wp_call (c_Upto (r3.ext e4) (by omega)) fun z h5 e5 hz => ?_)
    obtain ⟨y, w2⟩ := y
    obtain ⟨z, w3⟩ := z
    dsimp only at hy hz
    rw [natI_def, hl, Int.toNat_natCast, List.take_length, ← hy] at hz
    subst hz
    subst hy
    refine wp_call (c_sameRuns vL (by omega)) fun y h6 e6 hy => ?_
    exact s_ret ⟨rfl, ((e03.trans e4).trans e5).trans e6, (y.1, ()), rfl, hy⟩
  · refine s_getT oT (s_cell (b := .int .i64) (x := o5) rfl q3 rfl (s_cell (b := .int .i64) (x := o5) rfl q3 rfl (wp_call (c_Upto' n3 hw (by omega)) fun y h4 e4 hy => ?_)))
    refine q_same (j := 5) (e4.cells q3) (fun i v hi => by match i, hi with | 0, hi => exact hi) (wp_call (c_Upto (r3.ext e4) (by omega)) fun z h5 e5 hz => ?_)
    obtain ⟨y, w2⟩ := y
    obtain ⟨z, w3⟩ := z
    dsimp only at hy hz
    rw [← hy] at hz
    subst hz
    subst hy
    have vt : V t.list.length (sum (t.list.take o5.toNat)) := (V.sum (hw.take _)).mono (by rw [List.length_take]; omega)
    refine wp_call (c_sameRuns vt (by omega)) fun y h6 e6 hy => ?_
    exact s_ret ⟨rfl, ((e03.trans e4).trans e5).trans e6, (y.1, ()), rfl, hy⟩
  · exact absurd (eqI_iff.1 hc) hk6
  · refine s_getT oT (s_cell (b := .int .i64) (x := o4) rfl q3 rfl (s_cell (b := .int .i64) (x := o5) rfl q3 rfl (s_cell (b := .int .i64) (x := o4) rfl q3 rfl (s_cell (b := .int .i64) (x := o5) rfl q3 rfl (wp_call (c_Find n3 hw (by omega)) fun y h4 e4 hy => ?_)))))
    refine q_same (j := 5) (e4.cells q3) (fun i v hi => by match i, hi with | 0, hi => exact hi) (q_same (j := 4) (e4.cells q3) (fun i v hi => by match i, hi with | 0, hi => exact hi) (wp_call (c_refFind (r3.ext e4) (by omega)) fun z h5 e5 hz => ?_))
    exact s_ret ⟨rfl, (e03.trans e4).trans e5, (_, ()), rfl, eqI_iff.2 (found_one hw hy hz)⟩
  · exact absurd (eqI_iff.1 hc) hk8
  · exact absurd (eqI_iff.1 hc) hk9
  · exact s_ret ⟨rfl, e03, (true, ()), rfl, rfl⟩

end Go.Sw.Tree
