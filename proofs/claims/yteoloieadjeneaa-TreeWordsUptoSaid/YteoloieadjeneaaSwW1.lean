/-
  Words: the tree's second kind of things: Measure, Add, Key; the tree's programs are those over any things.
-/
import Derived.Test.YteoloieadjeneaaSwK6
set_option linter.unusedVariables false
set_option linter.unusedSimpArgs false
set_option maxRecDepth 100000
namespace Go.Sw.Words
open Go.Sw.Any
open Go.Sw.Tree (iv s_putAll s_newP s_getP s_getT s_putP eqI_self Placed s_any cell_own cell_upd1)
variable {P : Program} {S : Ids} {h : Heap} {Q : Nat → List Value → Heap → Prop}

abbrev W1 := ByteArray × Unit
abbrev W2 := ByteArray × Int × Unit
def e0 : ByteArray := ByteArray.mk #[]
theorem e0_eq : ByteArray.mk #[] = ByteArray.empty := rfl

/-- slot's answer. -/
def slotF (i n : Int) : Int := if i.tmod (n + 1) < 0 then i.tmod (n + 1) + n + 1 else i.tmod (n + 1)
theorem c_slotF {i n : Int} (hn : 0 ≤ n) (hn1 : n ≤ 4398046511104) : Gives P (F_law4_slot S i n) [.one (.int .i64)] h fun (y : Int × Unit) h' => y.1 = slotF i n := by
  unfold F_law4_slot Gives
  rw [add_ok (a := n) (by omega) (by omega)]
  have h1 : eqI (n + 1) 0 = false := eqI_not.2 (by omega)
  have hr : remI .i64 i (n + 1) = i.tmod (n + 1) := rfl
  have hb1 : i.tmod (n + 1) < n + 1 := Int.tmod_lt_of_pos i (by omega)
  have hb2 : -(n + 1) < i.tmod (n + 1) := by
    have := Int.lt_tmod_of_pos i (show 0 < n + 1 by omega)
    omega
  rw [hr, h1]
  refine s_not (bind_val (tys := [.one (.int .i64)]) (fun (x : Int × Unit) _ => x.1 = slotF i n) ?_ fun x h2 e2 hx => s_ret ⟨rfl, e2, (x.1, ()), rfl, hx⟩)
  unfold slotF
  refine wp_ifB (fun hc => ?_) fun hc => ?_
  · rw [ltI_iff] at hc
    rw [add_ok (a := i.tmod (n + 1)) (by omega) (by omega), add_ok (by omega) (by omega), if_pos hc]
    exact s_ret ⟨rfl, Ext.refl _, (i.tmod (n + 1) + n + 1, ()), rfl, rfl⟩
  · rw [ltI_not] at hc
    rw [if_neg (by omega)]
    exact s_ret ⟨rfl, Ext.refl _, (i.tmod (n + 1), ()), rfl, rfl⟩
theorem slotF_range {i n : Int} (hn : 0 ≤ n) : 0 ≤ slotF i n ∧ slotF i n ≤ n := by
  have hb1 : i.tmod (n + 1) < n + 1 := Int.tmod_lt_of_pos i (by omega)
  have hb2 := Int.lt_tmod_of_pos i (show 0 < n + 1 by omega)
  unfold slotF
  split <;> omega

/-- How many letters there are of a kind. -/
def cnt (l : List UInt8) (m : Int) : Int := ((l.filter fun b => decide (((b.toNat : Int)).tmod 11 = m)).length : Int)
theorem cnt_append (a b : List UInt8) (m : Int) : cnt (a ++ b) m = cnt a m + cnt b m := by simp [cnt]
theorem cnt_nonneg (a : List UInt8) (m : Int) : 0 ≤ cnt a m := by simp [cnt]
theorem cnt_one {b : UInt8} {m : Int} (h : (b.toNat : Int).tmod 11 = m) : cnt [b] m = 1 := by simp [cnt, h]
theorem cnt_zero {b : UInt8} {m : Int} (h : (b.toNat : Int).tmod 11 ≠ m) : cnt [b] m = 0 := by simp [cnt, h]
theorem cnt_le (a : List UInt8) (m : Int) : cnt a m ≤ a.length := by unfold cnt; have := List.length_filter_le (fun b : UInt8 => decide (((b.toNat : Int)).tmod 11 = m)) a; omega

def meas (x : W1) : W2 := (x.1, 1, ())
def add (s o : W2) : W2 := (s.1 ++ o.1, s.2.1 + o.2.1, ())
def key (s : W2) (k : Int) : Int := if k = 0 then (s.1.size : Int) else if k = 9 then s.2.1 else if k = -1099511627776 ∨ k = 1099511627776 then (s.1.size : Int) + 2 * s.2.1 else cnt s.1.data.toList (slotF k 10)
def V (n : Nat) (s : W2) : Prop := 0 ≤ s.2.1 ∧ (s.1.size : Int) + s.2.1 ≤ n
def zs : W2 := (ByteArray.mk #[], 0, ())

theorem c_Measure {x : W1} : Gives P (F_Word_Measure S x) [.agg [.str, .int .i64]] h fun (y : W2 × Unit) _ => y.1 = meas x := by
  unfold F_Word_Measure Gives
  refine s_newO (bs := [.str]) x (by decide) fun h1 e1 o1 => s_newO (bs := [.str, .int .i64]) zs (by decide) fun h2 e2 o2 => ?_
  refine wp_load1 (b := .str) _ x.1 rfl (cells_iff.1 (o1.ext e2).cells 0 _ rfl) ?_
  exact s_tellO (bs := [.str, .int .i64]) (meas x) o2 e1.size (e1.trans e2) (by intro v hv; simp only [Bs.inj, List.mem_cons, List.not_mem_nil, or_false] at hv; rcases hv with rfl | rfl <;> rfl) fun h' e => ⟨rfl, e, (meas x, ()), rfl, rfl⟩

theorem flat2 (s : W2) : ∀ v, v ∈ Bs.inj [.str, .int .i64] s → flat v = true := by
  intro v hv; simp only [Bs.inj, List.mem_cons, List.not_mem_nil, or_false] at hv; rcases hv with rfl | rfl <;> rfl
theorem flat1 (s : W1) : ∀ v, v ∈ Bs.inj [.str] s → flat v = true := by
  intro v hv; simp only [Bs.inj, List.mem_cons, List.not_mem_nil, or_false] at hv; rcases hv with rfl; rfl

theorem V.add {n m : Nat} {s o : W2} (v : V n s) (w : V m o) : V (n + m) (add s o) := by
  obtain ⟨a, b⟩ := v
  obtain ⟨c, d⟩ := w
  unfold V Words.add
  dsimp only
  rw [ByteArray.size_append]
  omega
theorem c_Add {n m : Nat} {s o : W2} (v : V n s) (w : V m o) (hn : n + m ≤ 4398046511104) : Gives P (F_Words_Add S s o) [.agg [.str, .int .i64]] h fun (y : W2 × Unit) _ => y.1 = add s o := by
  obtain ⟨a, b⟩ := id v
  obtain ⟨c, d⟩ := id w
  unfold F_Words_Add Gives
  refine s_newO (bs := [.str, .int .i64]) s (by decide) fun h1 e1 o1 => s_newO (bs := [.str, .int .i64]) o (by decide) fun h2 e2 o2 => s_newO (bs := [.str, .int .i64]) zs (by decide) fun h3 e3 o3 => ?_
  have e23 := e2.trans e3
  refine wp_load1 (b := .str) _ s.1 rfl (cells_iff.1 (o1.ext e23).cells 0 _ rfl) (wp_load1 (b := .str) _ o.1 rfl (cells_iff.1 (o2.ext e3).cells 0 _ rfl) (wp_grd ?_ ?_))
  · unfold catOk
    exact decide_eq_true (by show _ ≤ (9223372036854775807 : Int); omega)
  · refine wp_load1 (b := .int .i64) _ s.2.1 rfl (cells_iff.1 (o1.ext e23).cells 1 _ rfl) (wp_load1 (b := .int .i64) _ o.2.1 rfl (cells_iff.1 (o2.ext e3).cells 1 _ rfl) ?_)
    rw [add_ok (a := s.2.1) (by omega) (by omega)]
    exact s_tellO (bs := [.str, .int .i64]) (add s o) o3 (Nat.le_trans e1.size e2.size) (e1.trans e23) (flat2 _) fun h' e => ⟨rfl, e, (add s o, ()), rfl, rfl⟩

theorem c_Key {n : Nat} {s : W2} {k : Int} (v : V n s) (hn : n ≤ 4398046511104) : Gives P (F_Words_Key S s k) [.one (.int .i64)] h fun (y : Int × Unit) _ => y.1 = key s k := by
  obtain ⟨a, b⟩ := id v
  unfold F_Words_Key Gives
  refine s_newO (bs := [.str, .int .i64]) s (by decide) fun h1 e1 o1 => ?_
  have ld0 : ∀ {h'} {K : ByteArray → Prog} {Q : Nat → List Value → Heap → Prop}, Ext h1 h' → wp P (K s.1) h' Q → wp P (.load (.one .str) (shiftTo (some ⟨h.size, 0, none⟩) 0) K) h' Q := fun e hk =>
    wp_load1 (b := .str) _ s.1 rfl (cells_iff.1 (o1.ext e).cells 0 _ rfl) hk
  have ld1 : ∀ {h'} {K : Int → Prog} {Q : Nat → List Value → Heap → Prop}, Ext h1 h' → wp P (K s.2.1) h' Q → wp P (.load (.one (.int .i64)) (shiftTo (some ⟨h.size, 0, none⟩) 1) K) h' Q := fun e hk =>
    wp_load1 (b := .int .i64) _ s.2.1 rfl (cells_iff.1 (o1.ext e).cells 1 _ rfl) hk
  refine wp_bind (fun t vs h' => Ext h1 h' ∧ ((t = 1 ∧ vs = [iv (key s k)]) ∨ (t = 0 ∧ vs = [] ∧ key s k = cnt s.1.data.toList (slotF k 10)))) ?_ ?_
  · unfold key
    refine wp_ifB (fun hc => ?_) fun hc => wp_ifB (fun hd => ?_) fun hd => wp_ifB (fun he => ?_) fun he => wp_ifB (fun hf => ?_) fun hf => ?_
    · rw [eqI_iff] at hc
      exact ld0 (Ext.refl _) (s_ret ⟨Ext.refl _, .inl ⟨rfl, by rw [if_pos hc]; rfl⟩⟩)
    · rw [eqI_not] at hc; rw [eqI_iff] at hd
      exact ld1 (Ext.refl _) (s_ret ⟨Ext.refl _, .inl ⟨rfl, by rw [if_neg hc, if_pos hd]⟩⟩)
    · rw [eqI_not] at hc hd
      have he' := eqI_iff.1 he
      rw [he]
      refine s_ifT (ld0 (Ext.refl _) (ld1 (Ext.refl _) ?_))
      unfold sizeS
      rw [natI_def, mul64 (a := 2) (by omega) (by omega), add_ok (by omega) (by omega)]
      exact s_ret ⟨Ext.refl _, .inl ⟨rfl, by rw [if_neg hc, if_neg hd, if_pos (.inl he')]⟩⟩
    · rw [eqI_not] at hc hd he; rw [eqI_iff] at hf
      refine ld0 (Ext.refl _) (ld1 (Ext.refl _) ?_)
      unfold sizeS
      rw [natI_def, mul64 (a := 2) (by omega) (by omega), add_ok (by omega) (by omega)]
      exact s_ret ⟨Ext.refl _, .inl ⟨rfl, by rw [if_neg hc, if_neg hd, if_pos (.inr hf)]⟩⟩
    · rw [eqI_not] at hc hd he hf
      exact s_ret ⟨Ext.refl _, .inr ⟨rfl, rfl, by rw [if_neg hc, if_neg hd, if_neg (by omega)]⟩⟩
  rintro t vs h2 ⟨e2, ⟨rfl, rfl⟩ | ⟨rfl, rfl, hkey⟩⟩
  · exact s_tag (s_castI (s_ret ⟨rfl, e1.trans e2, (key s k, ()), rfl, rfl⟩))
  refine s_skip (by decide) (s_tag (s_cast0 ?_))
  rw [hkey]
  have hsz : s.1.data.toList.length = s.1.size := rfl
  generalize hL : s.1.data.toList = L at hsz
  refine wp_while (fun (r : Int × Int × Unit) h' => Ext h1 h' ∧ 0 ≤ r.2.1 ∧ r.2.1 ≤ L.length ∧ r.1 = cnt (L.take r.2.1.toNat) (slotF k 10)) (fun r _ => (L.length - r.2.1).toNat)
    (fun t vs h' => t = 3 ∧ vs = [iv (cnt L (slotF k 10))] ∧ Ext h1 h') ⟨e2, by simp, by simp, by simp [cnt]⟩ ?_ ?_
  · rintro ⟨(c : Int), (i : Int), u⟩ h3 ⟨e3, i0, i1, hc⟩
    dsimp only at i0 i1 hc ⊢
    have hle := cnt_le (L.take i.toNat) (slotF k 10)
    have hnn := cnt_nonneg (L.take i.toNat) (slotF k 10)
    rw [List.length_take] at hle
    refine ld0 e3 (wp_ifB (fun hd => ?_) fun hd => ?_)
    · rw [ltI_iff, natI_def, show sizeS s.1 = s.1.size from rfl] at hd
      have hj : L[i.toNat]? = some L[i.toNat] := List.getElem?_eq_getElem (by omega)
      have htk : L.take (i + 1).toNat = L.take i.toNat ++ [L[i.toNat]] := by rw [show (i + 1).toNat = i.toNat + 1 by omega, List.take_add_one, hj]; rfl
      have hca := cnt_append (L.take i.toNat) [L[i.toNat]] (slotF k 10)
      refine wp_bind (fun t vs h' => t = 0 ∧ vs = [iv (cnt (L.take (i + 1).toNat) (slotF k 10))] ∧ Ext h1 h') ?_ ?_
      · refine ld0 e3 (wp_grd (inB_is.2 ⟨i0, hd⟩) (s_not (wp_call (c_slotF (n := Int.ofNat 10) (by decide) (by decide)) fun y h4 e4 hy => ?_)))
        obtain ⟨(y : Int), w⟩ := y
        dsimp only at hy ⊢
        subst y
        refine s_check0 (a := Addr.add ⟨h.size, 0, none⟩ 0) rfl (cells_iff.2 fun q v hq => ?_) ?_
        · match q, hq with
          | 0, hq => simp at hq; subst hq; rw [add_zero', add_zero']; have := cells_iff.1 (o1.ext (e3.trans e4)).cells 0 _ rfl; rwa [add_zero'] at this
          | q + 1, hq => simp at hq
        have hbyte : remI .i64 (wrapI .i64 (byteAt s.1 i)) 11 = ((L[i.toNat].toNat : Int)).tmod 11 := by
          unfold remI wrapI byteAt
          rw [hL, List.getD_eq_getElem?_getD, hj, Option.getD_some, wrap64_id (by omega) (by have := L[i.toNat].toNat_lt; omega)]
        rw [hbyte, htk, hca, ← hc]
        refine wp_ifB (fun hx => ?_) fun hx => ?_
        · rw [eqI_iff] at hx
          rw [add_ok (a := c) (by omega) (by omega)]
          have h1c : cnt [L[i.toNat]] (slotF k 10) = 1 := cnt_one hx
          exact s_ret ⟨rfl, by rw [h1c], e3.trans e4⟩
        · rw [eqI_not] at hx
          have h1c : cnt [L[i.toNat]] (slotF k 10) = 0 := cnt_zero hx
          exact s_ret ⟨rfl, by rw [h1c, Int.add_zero], e3.trans e4⟩
      · rintro t vs h4 ⟨rfl, rfl, e4⟩
        refine s_tag (s_castI ?_)
        rw [add_ok (a := i) (by omega) (by omega)]
        exact s_ret ⟨fun _ => ⟨(_, i + 1, ()), rfl, ⟨e4, by dsimp only; omega, by dsimp only; omega, rfl⟩, by dsimp only; omega⟩, fun h => absurd rfl h⟩
    · rw [ltI_not, natI_def, show sizeS s.1 = s.1.size from rfl] at hd
      rw [List.take_of_length_le (by omega)] at hc
      exact s_ret ⟨fun h => absurd h (by decide), fun _ => ⟨rfl, by rw [hc], e3⟩⟩
  · rintro t vs h3 ⟨rfl, rfl, e3⟩
    exact s_tag (s_castI (s_ret ⟨rfl, e1.trans e3, (_, ()), rfl, rfl⟩))

noncomputable abbrev word (S : Ids) : Inst :=
  ⟨[.str], [.str, .int .i64], (ByteArray.mk #[], ()), zs, F_Word_Measure S, F_Words_Add S, F_Words_Key S, S.f_Tree_Word_Items_1, S.f_Tree_Word_Items_1_1, fun _ => True, fun x => x.1.size + 1, V, meas, add, key⟩

theorem key_mono {n m : Nat} {s o : W2} {k : Int} (v : V n s) (w : V m o) : key s k ≤ key (add s o) k := by
  obtain ⟨a, b⟩ := v
  obtain ⟨c, d⟩ := w
  unfold key add
  dsimp only
  rw [ByteArray.size_append]
  split
  · omega
  · split
    · omega
    · split
      · omega
      · rw [ByteArray.data_append, Array.toList_append, cnt_append]
        have := cnt_nonneg o.1.data.toList (slotF k 10)
        omega

theorem word_ok : (word S).Ok P where
  i1 := ⟨Nat.le_refl 1, (by decide : 1 ≤ 100)⟩
  s1 := ⟨(by decide : 1 ≤ 2), (by decide : 2 ≤ 100)⟩
  fi := flat1
  fs := flat2
  w1 := fun x => Nat.le_add_left 1 _
  v0 := ⟨(by decide : (0 : Int) ≤ 0), (by decide : ((0 : Nat) : Int) + 0 ≤ ((0 : Nat) : Int))⟩
  vm := fun x _ => ⟨by simp [word, meas], by simp [word, meas]⟩
  va := fun n m s o v w => V.add v w
  mono := fun n m s v h => ⟨v.1, by have := v.2; omega⟩
  az := fun n s v => by
    obtain ⟨a, b, u⟩ := s
    show (a ++ ByteArray.empty, b + 0, ()) = _
    rw [ByteArray.append_empty, Int.add_zero]
  za := fun n s v => by
    obtain ⟨a, b, u⟩ := s
    show (ByteArray.empty ++ a, 0 + b, ()) = _
    rw [ByteArray.empty_append, Int.zero_add]
  assoc := fun n m k x y z _ _ _ => by
    show ((x.1 ++ y.1) ++ z.1, x.2.1 + y.2.1 + z.2.1, ()) = (x.1 ++ (y.1 ++ z.1), x.2.1 + (y.2.1 + z.2.1), ())
    rw [ByteArray.append_assoc, Int.add_assoc]
  key0 := fun k => by
    show key zs k = 0
    unfold key
    split; · rfl
    split; · rfl
    split; · rfl
    rfl
  kmono := fun n m s o k v w => key_mono v w
  cm := fun h x _ => c_Measure (S := S)
  ca := fun h n m s o v w hn => c_Add (S := S) v w hn
  ck := fun h n s k v hn => c_Key (S := S) v hn

/-! ### The words' tree is the tree over any things -/
theorem g_build (S : Ids) : ∀ n, R_tree_build_Word n S = Gr_build n (word S)
  | 0 => rfl
  | n + 1 => by
    funext items
    show R_tree_build_Word (n + 1) S items = _
    unfold R_tree_build_Word
    rw [g_build S n]
    rfl
theorem g_join (S : Ids) : ∀ n, R_tree_join_Word n S = Gr_join n (word S)
  | 0 => rfl
  | n + 1 => by
    funext l x r
    show R_tree_join_Word (n + 1) S l x r = _
    unfold R_tree_join_Word
    rw [g_join S n]
    rfl
theorem g_joinF (S : Ids) : F_tree_join_Word S = G_join (word S) := by
  funext l x r
  unfold F_tree_join_Word G_join
  simp only [g_join]
theorem g_cut (S : Ids) : ∀ n, R_node_Word_cut n S = Gr_cut n (word S)
  | 0 => rfl
  | n + 1 => by
    funext p i
    show R_node_Word_cut (n + 1) S p i = _
    unfold R_node_Word_cut
    rw [g_cut S n, g_joinF]
    rfl
theorem g_first (S : Ids) : ∀ n, R_node_Word_first n S = Gr_first n (word S)
  | 0 => rfl
  | n + 1 => by
    funext p
    show R_node_Word_first (n + 1) S p = _
    unfold R_node_Word_first
    rw [g_first S n]
    rfl
theorem g_both (S : Ids) : F_tree_both_Word S = G_both (word S) := by
  funext l r
  unfold F_tree_both_Word G_both F_node_Word_first G_first
  rw [g_joinF]
  simp only [g_first]
  rfl
theorem g_Of (S : Ids) (s : Sl) : F_tree_Of_Word S s = G_Of (word S) s := by
  unfold F_tree_Of_Word G_Of F_tree_build_Word G_build
  simp only [g_build]
theorem g_Replace (S : Ids) (t : Option Addr × Unit) (i j : Int) (s : Sl) : F_Tree_Word_Replace S t i j s = G_Replace (word S) t i j s := by
  unfold F_Tree_Word_Replace G_Replace F_tree_build_Word G_build F_node_Word_cut G_cut
  rw [g_both]
  simp only [g_build, g_cut]
  rfl

end Go.Sw.Words
