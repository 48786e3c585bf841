/-
  Tree: a script is played (plays).
-/
import Derived.Test.YteoloieadjeneaaSwT28
set_option linter.unusedVariables false
set_option linter.unusedSimpArgs false
set_option maxRecDepth 100000
namespace Go.Sw.Tree
variable {P : Program} {S : Ids} {h : Heap} {Q : Nat → List Value → Heap → Prop}

theorem s_putAll {n m c : Nat} {a : Addr} {old : List Value} (new : List Value) {K : Prog} (ho : Own n 1 h ⟨some a, m, c⟩ old) (hl : new.length = old.length) (hf : ∀ v ∈ new, flat v = true)
    (hk : ∀ h', Own n 1 h' ⟨some a, m, c⟩ new → Upd ⟨some a, m, c⟩ h h' → wp P K h' Q) : wp P (.store (some a) new K) h Q := by
  have := s_putEnd (P := P) (Q := Q) (K := K) (pre := []) (old := old) new ho rfl hl hf hk
  simpa [shiftTo, add_zero'] using this

/-- l[j], all of a step. -/
theorem s_opAll {s : Sl} {l : List OpV} {o : OpV} {j : Int} {K : Op7 → Prog} (hr : Ops h s l) (h0 : 0 ≤ j) (hj : l[j.toNat]? = some o) (hk : wp P (K (o.k, o.w, o.f, o.t, o.kk, o.n, o.s, ())) h Q) :
    wp P (grd (andB (someB s.base) (inB j s.len)) (.load (.agg [.int .i64, .int .i64, .int .i64, .int .i64, .int .i64, .int .i64, .sl]) (shiftTo s.base (mulN (toN j) 7)) K)) h Q := by
  obtain ⟨a, ha, hc, _, _⟩ := hr.at_ _ _ hj
  have hlt := (List.getElem?_eq_some_iff.1 hj).1
  have hl := hr.len
  refine wp_grd (andB_iff.2 ⟨by simp [someB, ha], inB_is.2 ⟨h0, by omega⟩⟩) ⟨a.add (j.toNat * 7), by simp [shiftTo, ha, mulN, toN], (o.k, o.w, o.f, o.t, o.kk, o.n, o.s, ()), cells_iff.2 fun i v hi => ?_, hk⟩
  rw [add_add]
  exact hc i v hi

def tot (l : List OpV) : Nat := (l.map fun o => o.its.length).sum
theorem tot_take {l : List OpV} {i : Nat} {o : OpV} (hi : l[i]? = some o) : tot (l.take (i + 1)) = tot (l.take i) + o.its.length := by
  unfold tot
  rw [List.take_add_one, hi, List.map_append, List.sum_append]; simp
theorem sum_take_le (l : List Nat) (i : Nat) : (l.take i).sum ≤ l.sum := by
  induction l generalizing i with
  | nil => simp
  | cons x l ih => cases i with
    | zero => simp
    | succ i => have := ih i; simp only [List.take_succ_cons, List.sum_cons]; omega
theorem tot_take_le (l : List OpV) (i : Nat) : tot (l.take i) ≤ tot l := by
  unfold tot
  rw [List.map_take]; exact sum_take_le _ i

/-- What holds behind the first i steps. -/
def Played (n : Nat) (h' : Heap) (w : Addr) (l : List OpV) (i : Nat) : Prop :=
  ∃ Z ts ss ps sl bs, Wood n Z h' w ts ss ps sl bs (bs.map BT.list) (tot (l.take i)) ∧ 0 < bs.length ∧ bs.length ≤ i + 1

/-- The steps from lo to hi are told right. -/
def Told3 (P : Program) (S : Ids) (lo hi : Int) : Prop := ∀ {h : Heap} {w : Addr} {ts ss : Sl} {ps : List (Option Addr)} {sl : List Sl} {bs : List BT} {o : OpV}, WoodR h w ts ss ps sl bs → lo ≤ o.k → o.k ≤ hi → o.fits → (∀ n, o.s.len = n → n ≤ 4194304) →
    Gives P (F_wood_tells S (some w) (o.k, o.w, o.f, o.t, o.kk, o.n, o.s, ())) [.one .bool] h fun (y : Bool × Unit) _ => y.1 = true

theorem c_plays {s : Sl} {l : List OpV} {lo hi : Int} (hr : Ops h s l) (hT : Told3 P S lo hi) (hl : l.length ≤ 2097152) (htot : tot l ≤ 2097152) :
    Gives P (F_law4_plays S s lo hi) [.one .bool] h fun (y : Bool × Unit) _ => y.1 = true := by
  have hlen := hr.len
  unfold F_law4_plays Gives
  refine wp_call c_alive fun y h1 e1 hy => wp_call c_begin fun z h2 e2 hz => ?_
  obtain ⟨(y : Bool), w1⟩ := y
  obtain ⟨(z : Option Addr), w2⟩ := z
  obtain ⟨w, ts, ss, ps, sl, hz, W2⟩ := hz
  dsimp only at hy hz ⊢
  subst y; subst z
  have s1 := e1.size
  refine wp_while (fun (r : Bool × Int × Unit) h' => Ext h h' ∧ h1.size ≤ h'.size ∧ r.1 = true ∧ 0 ≤ r.2.1 ∧ r.2.1 ≤ l.length ∧ Played h1.size h' w l r.2.1.toNat) (fun r _ => (l.length - r.2.1).toNat)
    (fun t vs h' => t = 2 ∧ vs = [.bool true] ∧ Ext h h') ⟨e1.trans e2, e2.size, rfl, by simp, by simp, _, _, _, _, _, [.nil], W2.mono (Nat.zero_le _), by simp, by simp⟩ ?_ ?_
  · rintro ⟨b, (i : Int), u⟩ h3 ⟨e3, s3, hb, i0, i1, Z, ts, ss, ps, sl, bs, W3, hpos, hroom⟩
    dsimp only at hb i0 i1 W3 hpos hroom ⊢
    subst b
    refine bind_bool (i < l.length) ?_ fun b h4 e4 hb => ?_
    · refine wp_ifB (fun hc => ?_) fun hc => ?_
      · rw [ltI_iff, natI_def, hlen] at hc
        exact s_ret ⟨rfl, Ext.refl _, true, rfl, Iff.intro (fun _ => hc) fun _ => rfl⟩
      · rw [ltI_not, natI_def, hlen] at hc
        exact s_ret ⟨rfl, Ext.refl _, false, rfl, Iff.intro (fun x => by cases x) fun x => by omega⟩
    dsimp only
    refine wp_ifB (fun hc => ?_) fun hc => s_ret ⟨fun h => absurd h (by decide), fun _ => ⟨rfl, rfl, e3.trans e4⟩⟩
    have hi' := hb.1 hc
    have hj : l[i.toNat]? = some l[i.toNat] := List.getElem?_eq_getElem (by omega)
    obtain ⟨_, _, _, hof, hor⟩ := hr.at_ _ _ hj
    generalize l[i.toNat] = o at hj hof hor
    have htk := tot_take hj
    have htl := tot_take_le l (i.toNat + 1)
    have e04 := e3.trans e4
    have s4 := e4.size
    refine wp_bind (fun t vs h' => t = 0 ∧ vs = [.bool true] ∧ Ext h h' ∧ h1.size ≤ h'.size ∧ Played h1.size h' w l (i.toNat + 1)) ?_ ?_
    · refine s_opAll (hr.ext e04) i0 hj fun elem => ?_
      have e5 : Ext h4 (h4.push (.cells [iv 0, iv 0, iv 0, iv 0, iv 0, iv 0, .slice none 0 0].toArray elem)) := Ext.push ..
      have q5 : Own h4.size 1 (h4.push (.cells [iv 0, iv 0, iv 0, iv 0, iv 0, iv 0, .slice none 0 0].toArray elem)) ⟨some ⟨h4.size, 0, none⟩, 7, 7⟩ [iv 0, iv 0, iv 0, iv 0, iv 0, iv 0, .slice none 0 0] := own_alloc rfl (by decide) (by decide)
      generalize (h4.push (.cells [iv 0, iv 0, iv 0, iv 0, iv 0, iv 0, .slice none 0 0].toArray elem)) = h5 at e5 q5 ⊢
      refine s_putAll (cO o) q5 rfl (fun v hv => by simp only [cO, List.mem_cons, List.not_mem_nil, or_false] at hv; rcases hv with rfl | rfl | rfl | rfl | rfl | rfl | rfl <;> rfl) fun h6 q6 u6 => ?_
      have e46 : Ext h4 h6 := Upd.extN e5 u6 (fun a ha => by cases ha; exact Nat.le_refl _)
      have e06 := e04.trans e46
      have W6 := W3.ext (e4.trans e46)
      have s6 := e46.size
      refine bind_bool (o.k = 1 ∨ o.k = 2) ?_ fun b h7 e7 hb7 => ?_
      · refine s_cell (b := .int .i64) (x := o.k) rfl q6.cells rfl (wp_ifB (fun hc => ?_) fun hc => s_cell (b := .int .i64) (x := o.k) rfl q6.cells rfl ?_)
        · exact s_ret ⟨rfl, Ext.refl _, true, rfl, Iff.intro (fun _ => .inl (eqI_iff.1 hc)) fun _ => rfl⟩
        · rw [eqI_not] at hc
          exact s_ret ⟨rfl, Ext.refl _, _, rfl, Iff.intro (fun x => .inr (eqI_iff.1 x)) fun x => eqI_iff.2 (x.resolve_left hc)⟩
      have q7 := q6.ext e7
      have e07 := e06.trans e7
      have W7 := W6.ext e7
      have s7 := e7.size
      have ld : ∀ {h'} {K : Op7 → Prog} {Q : Nat → List Value → Heap → Prop}, Ext h7 h' → wp P (K (o.k, o.w, o.f, o.t, o.kk, o.n, o.s, ())) h' Q →
          wp P (.load (.agg [.int .i64, .int .i64, .int .i64, .int .i64, .int .i64, .int .i64, .sl]) (some ⟨h4.size, 0, none⟩) K) h' Q := fun e hk => ⟨_, rfl, (o.k, o.w, o.f, o.t, o.kk, o.n, o.s, ()), (q7.ext e).cells, hk⟩
      dsimp only
      refine wp_ifB (fun hc => ?_) fun hc => ?_
      · refine ld (Ext.refl _) (wp_callN (c_makes (o := (o.k, o.w, o.f, o.t, o.kk, o.n, o.s, ())) W7 (by omega) (hor.ext e07) (fun hne a ha => by have := hor.low hne ha; omega) hpos (by omega) (by omega)) fun y h8 k8 hy => ?_)
        obtain ⟨(y : Bool), w3⟩ := y
        obtain ⟨hy, Z', ts', ss', ps', sl', bs', W8, m1, m2⟩ := hy
        dsimp only at hy ⊢
        subst y
        have s8 := k8.size
        exact s_ret ⟨rfl, rfl, Keep.trans e07 (k8.mono s1), by omega, _, _, _, _, _, bs', by rw [htk]; exact W8, by omega, by omega⟩
      · have stay : ∀ {h'}, Ext h7 h' → Played h1.size h' w l (i.toNat + 1) := fun e => ⟨_, _, _, _, _, bs, (W7.ext e).mono (by omega), hpos, by omega⟩
        refine bind_bool (lo ≤ o.k ∧ o.k ≤ hi) ?_ fun b h8 e8 hb8 => ?_
        · refine s_cell (b := .int .i64) (x := o.k) rfl q7.cells rfl (wp_ifB (fun hd => s_cell (b := .int .i64) (x := o.k) rfl q7.cells rfl ?_) fun hd => ?_)
          · rw [geI_iff] at hd
            exact s_ret ⟨rfl, Ext.refl _, _, rfl, Iff.intro (fun x => ⟨hd, leI_iff.1 x⟩) fun x => leI_iff.2 x.2⟩
          · rw [geI_not] at hd
            exact s_ret ⟨rfl, Ext.refl _, false, rfl, Iff.intro (fun x => by cases x) fun x => by omega⟩
        dsimp only
        have s8 := e8.size
        refine wp_ifB (fun hd => ?_) fun hd => s_ret ⟨rfl, rfl, e07.trans e8, by omega, stay e8⟩
        obtain ⟨d1, d2⟩ := hb8.1 hd
        refine ld e8 (wp_call (hT ((W7.ext e8).toR hpos (by omega) (by have := tot_take_le l i.toNat; omega)) d1 d2 hof (fun m hm => by have := hor.len; omega)) fun y h9 e9 hy => ?_)
        obtain ⟨(y : Bool), w3⟩ := y
        dsimp only at hy ⊢
        subst y
        have s9 := e9.size
        exact s_ret ⟨rfl, rfl, (e07.trans e8).trans e9, by omega, stay (e8.trans e9)⟩
    · rintro t vs h5 ⟨rfl, rfl, e5, s5, pl⟩
      refine s_tag (s_castB ?_)
      rw [add_ok (by omega) (by omega)]
      refine s_ret ⟨fun _ => ⟨(true, i + 1, ()), rfl, ⟨e5, s5, rfl, by dsimp only; omega, by dsimp only; omega, ?_⟩, by dsimp only; omega⟩, fun h => absurd rfl h⟩
      dsimp only
      rw [show (i + 1).toNat = i.toNat + 1 by omega]; exact pl
  · rintro t vs h3 ⟨rfl, rfl, e3⟩
    exact s_tag (s_castB (s_ret ⟨rfl, e3, (true, ()), rfl, rfl⟩))

theorem told_plain {lo hi : Int} (hk : ∀ k, lo ≤ k → k ≤ hi → k ≠ 6 ∧ k ≠ 8 ∧ k ≠ 9) : Told3 P S lo hi := fun hW h1 h2 _ _ => c_tells hW (hk _ h1 h2)

theorem c_TreeSums {s : Sl} {l : List OpV} (hr : Ops h s l) (hl : l.length ≤ 2097152) (htot : tot l ≤ 2097152) : Gives P (F_law4_TreeSums S s) [.one .bool] h fun (y : Bool × Unit) _ => y.1 = true := by
  unfold F_law4_TreeSums Gives
  refine wp_call (c_fits hr) fun y h1 e1 _ => bind_val (tys := [.one .bool]) (fun (x : Bool × Unit) _ => x.1 = true) ?_ fun x h2 e2 hx => s_ret ⟨rfl, e1.trans e2, (x.1, ()), rfl, hx⟩
  refine wp_ifB (fun _ => s_ret ⟨rfl, Ext.refl _, (true, ()), rfl, rfl⟩) fun _ => wp_call (c_plays (hr.ext e1) (told_plain fun k h1 h2 => ⟨fun e => by subst e; exact absurd h2 (by decide), fun e => by subst e; exact absurd h2 (by decide), fun e => by subst e; exact absurd h2 (by decide)⟩) hl htot) fun y h2 e2 hy => ?_
  exact s_ret ⟨rfl, e2, (y.1, ()), rfl, hy⟩
theorem c_TreeFind {s : Sl} {l : List OpV} (hr : Ops h s l) (hl : l.length ≤ 2097152) (htot : tot l ≤ 2097152) : Gives P (F_law4_TreeFind S s) [.one .bool] h fun (y : Bool × Unit) _ => y.1 = true := by
  unfold F_law4_TreeFind Gives
  refine wp_call (c_fits hr) fun y h1 e1 _ => bind_val (tys := [.one .bool]) (fun (x : Bool × Unit) _ => x.1 = true) ?_ fun x h2 e2 hx => s_ret ⟨rfl, e1.trans e2, (x.1, ()), rfl, hx⟩
  refine wp_ifB (fun _ => s_ret ⟨rfl, Ext.refl _, (true, ()), rfl, rfl⟩) fun _ => wp_call (c_plays (hr.ext e1) (told_plain fun k h1 h2 => ⟨fun e => by subst e; exact absurd h1 (by decide), fun e => by subst e; exact absurd h2 (by decide), fun e => by subst e; exact absurd h2 (by decide)⟩) hl htot) fun y h2 e2 hy => ?_
  exact s_ret ⟨rfl, e2, (y.1, ()), rfl, hy⟩

end Go.Sw.Tree
