/-
  A text: Chunks.
-/
import Derived.Test.YtjhnjehmbgaciaaSwG1
set_option linter.unusedVariables false
set_option linter.unusedSimpArgs false
set_option maxRecDepth 100000
namespace Go.Sw.Piece
open Go.Sw.Any Go.Sw.Codec
open Go.Sw.Tree (iv s_putAll s_newP s_getP s_getT s_putP eqI_self Placed cell_own wp_whileG minI_eq)
variable {P : Program} {S : Ids} {h : Heap} {Q : Nat → List Value → Heap → Prop}
def nch (L sz : Nat) : Nat := (L + sz - 1) / sz
theorem lt_nch {L sz c : Nat} (hs : 1 ≤ sz) : c < nch L sz ↔ c * sz < L := by
 unfold nch
 rw [← Nat.succ_le_iff, Nat.le_div_iff_mul_le (by omega), Nat.succ_mul]
 omega
def IterC (P : Program) (it : Value) (N : Nat) (ch : Nat → List Int) (Z : Nat → Prop) (m : Nat) (h0 : Heap) : Prop :=
 ∀ (h : Heap) (y : Value) (J : Nat → Heap → Prop) (F : Heap → Prop), h0.size ≤ h.size → Held Z h0 h → flat y = true →
  (∀ k a b, J k a → Chg (own h.size m) a b → J k b) → (∀ a b, F a → Chg (own h.size m) a b → F b) →
  (∀ k hp h1 s, k < N → J k hp → h.size + m ≤ hp.size → Chg (own h.size m) hp h1 → Held Z h0 h1 → OwnL hp.size .u8 h1 s (ch k) →
   DynV P y [slv s] h1 fun vs h2 => ∃ b, vs = [.bool b] ∧ Held (fun i => own h.size m i ∨ (Z i ∧ i < h0.size)) h1 h2 ∧ (b = true → J (k + 1) h2) ∧ (b = false → F h2)) →
  J 0 h → DynE P it [y] h fun vs h' => vs = [] ∧ h.size ≤ h'.size ∧ Held Z h0 h' ∧ (J N h' ∨ F h')
structure ChR (S : Ids) (Z : Nat → Prop) (h : Heap) (root : Option Addr) (t : Bt Part) (ps : List Pc) : Prop where
 nd : Nd (part S Z) h root t
 ls : t.list = ps.map (·.1)
 room : (part S Z).W t.list ≤ 4398046511104
 lst : ∀ q, q ∈ ps → Lst .u8 h q.1.1 q.2 ∧ ∀ a, q.1.1.base = some a → Z a.block ∧ a.block < h.size
 small : (bytesL ps).length ≤ 1099511627776
end Go.Sw.Piece
namespace Go.Sw
open Go.Sw.Piece
open Go.Sw.Any Go.Sw.Codec
open Go.Sw.Tree (iv s_putAll s_newP s_getP s_getT s_putP eqI_self Placed cell_own wp_whileG minI_eq)
variable {P : Program} {S : Ids} {h : Heap} {Q : Nat → List Value → Heap → Prop}
theorem OwnL.raise {n m : Nat} {k : IntKind} {h : Heap} {s : Sl} {l : List Int} (o : OwnL n k h s l) (hb : ∀ a, s.base = some a → m ≤ a.block) : OwnL m k h s l := by
 obtain ⟨⟨o1, o2, o3, o4⟩, w⟩ := o
 refine ⟨⟨o1, o2, o3, ?_⟩, w⟩
 cases hs : s.base with
 | none => rw [hs] at o4; exact o4
 | some a => rw [hs] at o4; exact ⟨o4.1, o4.2.1, hb a hs, o4.2.2.2⟩
end Go.Sw
namespace Go.Sw.Piece
open Go.Sw.Any Go.Sw.Codec
open Go.Sw.Tree (iv s_putAll s_newP s_getP s_getT s_putP eqI_self Placed cell_own wp_whileG minI_eq)
variable {P : Program} {S : Ids} {h : Heap} {Q : Nat → List Value → Heap → Prop}
structure CS (J : Nat → Heap → Prop) (Z : Nat → Prop) (h0 h : Heap) (B : List Int) (sz : Nat) (y : Value) (n c : Nat) (s : Sl) (hp h' : Heap) : Prop where
 j : J c hp
 hp1 : h.size + 8 ≤ hp.size ∨ s.base = none
 hp0 : h.size ≤ hp.size
 chg : Chg (own h.size 8) hp h'
 held : Held Z h0 h'
 cy : Cel h.size h' ⟨h.size, 0, none⟩ y
 ca : Cel (h.size + 1) h' ⟨h.size + 1, 0, none⟩ (slv s)
 lo : c * sz ≤ n
 hi : n < c * sz + sz
 o : OwnL hp.size .u8 h' s ((B.drop (c * sz)).take (n - c * sz))
variable {J : Nat → Heap → Prop} {Z : Nat → Prop} {h0 hs hp h' : Heap} {B : List Int} {sz n c : Nat} {y : Value} {s : Sl}
theorem CS.own4 {b : Heap} (g : CS J Z h0 hs B sz y n c s hp h) (h08 : h0.size ≤ hs.size) (e : Chg (own (hs.size + 4) 4) h b) : CS J Z h0 hs B sz y n c s hp b where
 j := g.j
 hp1 := g.hp1
 hp0 := g.hp0
 chg := g.chg.trans e fun i _ f => ⟨by have := f.1; omega, by have := f.2; omega⟩
 held := g.held.chg e fun i hi _ f => by have := f.1; omega
 cy := e.own g.cy fun x hx f => by cases hx; have := f.1; dsimp only at this; omega
 ca := e.own g.ca fun x hx f => by cases hx; have := f.1; dsimp only at this; omega
 lo := g.lo
 hi := g.hi
 o := by
  rcases g.hp1 with h | h
  ·exact e.ownL g.o fun x hx f => by have := (g.o.own.lt hx).1; have := f.2; omega
  ·exact e.ownL g.o fun x hx f => by rw [h] at hx; cases hx
theorem CS.rebase (g : CS J Z h0 hs B sz y n c s hp h) (sJ : ∀ k a b, J k a → Chg (own hs.size 8) a b → J k b) (hz : hs.size + 8 ≤ h.size) : ∃ hp', hs.size + 8 ≤ hp'.size ∧ CS J Z h0 hs B sz y n c s hp' h := by
 rcases g.hp1 with h1 | h1
 ·exact ⟨hp, h1, g⟩
 ·exact ⟨h, hz, sJ _ _ _ g.j g.chg, .inl hz, by omega, Chg.refl _ _, g.held, g.cy, g.ca, g.lo, g.hi, g.o.raise fun a ha => by rw [h1] at ha; cases ha⟩
theorem c_ItemsX {p : Option Addr} {i : Int} : wp P (F_Tree_part_Items S (p, ()) i) h fun tag vs h' => tag = 0 ∧ vs = [.func (.func S.f_Tree_part_Items_1) #[] #[.pointer (some ⟨h.size, 0, none⟩), .pointer (some ⟨h.size + 1, 0, none⟩)]] ∧ Ext h h' ∧ h'.size = h.size + 2 ∧ ItR h' p i ⟨h.size, 0, none⟩ ⟨h.size + 1, 0, none⟩ := by
 unfold F_Tree_part_Items
 refine s_new1 _ fun h1 e1 o1 z1 => s_new1 _ fun h2 e2 o2 z2 => ?_
 rw [z1] at o2 ⊢
 exact s_ret ⟨rfl, rfl, e1.trans e2, by omega, cell_own (o1.ext e2), cell_own o2⟩
theorem iter_chunks (C : Cl P S) {root : Option Addr} {t : Bt Part} {ps : List Pc} {a1 a3 : Addr} (cr : ChR S Z h0 root t ps) (hsz : 1 ≤ sz) (hmax : sz < 2 ^ 63) (c1 : Sw.cell h0 a1 = some (i64v sz)) (c3 : Sw.cell h0 a3 = some (.pointer root)) (z1 : Z a1.block) (z3 : Z a3.block) :
  IterC P (.func (.func S.f_Text_Chunks_1) #[] #[.pointer (some a1), .pointer (some a3)]) (nch (bytesL ps).length sz) (fun k => ((bytesL ps).drop (k * sz)).take sz) Z 8 h0 := by
 intro h y J F hs hz fy sJ sF hY j0
 generalize hB : bytesL ps = B at hY ⊢
 have hBl : B.length ≤ 1099511627776 := by rw [← hB]; exact cr.small
 refine C.chunks y (some a1) (some a3) h _ ?_
 unfold F_Text_Chunks_1
 refine wp_grd fy (s_new1 y fun g1 e1 o1 s1 => ?_)
 have hcell : ∀ {h' : Heap} {a : Addr} {v : Value}, Held Z h0 h' → Sw.cell h0 a = some v → Z a.block → Sw.cell h' a = some v := fun u hc z => u.cell hc z
 have hz1 : Held Z h0 g1 := hz.trans (Held.of_ext e1)
 refine wp_load1 (b := .int .i64) a1 (sz : Int) rfl (hcell hz1 c1 z1) (wp_ifB (fun hc => by rw [ltI_iff] at hc; omega) fun _ => ?_)
 refine s_new1 _ fun g2 e2 o2 s2 => ?_
 rw [s1] at o2 ⊢
 have hz2 : Held Z h0 g2 := hz1.trans (Held.of_ext e2)
 refine ⟨a3, rfl, (root, ()), cells_iff.2 fun j v hj => ?_, ?_⟩
 ·match j, hj with
  | 0, hj => simp [Ty.cells, Bs.inj] at hj; subst hj; rw [add_zero']; exact hcell hz2 c3 z3
  | j + 1, hj => simp [Ty.cells, Bs.inj] at hj
 refine wp_callW c_ItemsX fun tag vs g3 ⟨ht, hv, e3, s3, itr⟩ => ⟨ht, (_, ()), hv, ?_⟩
 dsimp only
 have sR : g3.size = h.size + 4 := by omega
 have hz3 : Held Z h0 g3 := hz2.trans (Held.of_ext e3)
 let Z' : Nat → Prop := fun i => (Z i ∧ i < h0.size) ∨ i = g2.size ∨ i = g2.size + 1
 have nd : Nd (part S Z') g3 root t := by
  have n1 : Nd (part S fun i => Z i ∧ i < h0.size) h0 root t := part_mono cr.nd fun i hi hz => ⟨hz, hi⟩
  have n2 := Nd.chg (I := part S fun i => Z i ∧ i < h0.size) (hz3.to_chg (F := fun i => ¬ (Z i ∧ i < h0.size)) fun i hi hf => Classical.byContradiction fun k => hf fun k2 => k k2.1) (fun i _ hz hf => hf hz) n1
  exact part_mono n2 fun i _ hz => .inl hz
 have itg : IterG P (.func (.func S.f_Tree_part_Items_1) #[] #[.pointer (some ⟨g2.size, 0, none⟩), .pointer (some ⟨g2.size + 1, 0, none⟩)]) t.list.length (AL (part S Z') t.list) Z' 2 g3 := iter_items (part_ok S Z' (P := P)) (C.clos Z') (i := Int.ofNat 0) nd cr.room (fits_i64.2 (by decide)) itr.ca itr.cb (.inr (.inl rfl)) (.inr (.inr rfl))
 have hlen : t.list.length = ps.length := by rw [cr.ls, List.length_map]
 let CJ : Nat → Heap → Prop := fun k h' => ∃ c s hp, CS J Z h0 h B sz y (bytesL (ps.take k)).length c s hp h'
 let W : Nat → Prop := fun i => (own h.size 8 i ∧ i ≠ h.size + 1) ∨ (Z i ∧ i < h0.size)
 refine wp_range (A := AL (part S Z') t.list) (N := t.list.length) (Z := Z') (m := 2) (h0 := g3) itg (Held.refl _ _) CJ (fun tag h' => tag = 1 ∧ F h' ∧ Held Z h0 h' ∧ h.size ≤ h'.size) ?_ ?_ (fun k hp h1 args ⟨r, _, e⟩ => ⟨(r, ()), e⟩) ?_ ?_ ?_
 ·rintro k a b ⟨c, s, hp, g⟩ e
  rw [sR] at e
  exact ⟨c, s, hp, g.own4 hs e⟩
 ·rintro k a b ⟨ht, f, hh, hsz'⟩ e
  rw [sR] at e
  exact ⟨ht, sF _ _ f (e.mono fun i _ f => ⟨by have := f.1; omega, by have := f.2; omega⟩), hh.chg e fun i hi _ f => by have := f.1; omega, Nat.le_trans hsz' e.1⟩
 ·rintro k hp h1 ⟨x, u⟩ hkN ⟨c, s, hpp, g⟩ hps cc hs1 hzz ⟨r, hrr, hre⟩
  have hx : Bs.inj PB x = Bs.inj PB r := by
   have h1 := congrArg (fun l => l.head?) hre
   simp only [Ts.inj, List.head?_cons, Option.some.injEq] at h1
   have h2 : (Value.agg (Bs.inj PB x).toArray) = Value.agg (Bs.inj PB r).toArray := h1
   injection h2 with h2
   exact List.toArray_inj h2
  change wp P (.alloc (Bs.inj PB zP) fun (c : Addr) => .store (some c) (Bs.inj PB x) <| .ret 0 [.pointer (some c)]) h1 _
  rw [hx]
  obtain ⟨q, hq, rfl⟩ : ∃ q, ps[k]? = some q ∧ r = q.1 := by
   have h1 : t.list[k]? = some r := hrr
   rw [cr.ls, List.getElem?_map] at h1
   cases hq : ps[k]? with
   | none => rw [hq] at h1; cases h1
   | some q => rw [hq] at h1; exact ⟨q, rfl, (Option.some.inj h1).symm⟩
  have hqm := List.mem_of_getElem? hq
  rw [sR] at cc hs1
  have g1' := g.own4 hs cc
  refine s_newO (bs := PB) zP (by decide) fun h2 e2' o2' => s_stoO (bs := PB) q.1 o2' (flatP _) fun h3 o3 u3 => s_ret ⟨rfl, (some ⟨h1.size, 0, none⟩, ()), rfl, ?_, fun h3' c3' hs3 => ?_⟩
  ·exact Held.of_ext (Upd.extN e2' u3 (by intro z hz; cases hz; exact Nat.le_refl _))
  have e13 : Ext h1 h3 := Upd.extN e2' u3 (by intro z hz; cases hz; exact Nat.le_refl _)
  rw [sR] at c3'
  have g3' : CS J Z h0 h B sz y (bytesL (ps.take k)).length c s hpp h3' := (g1'.own4 hs (Chg.of_ext e13)).own4 hs c3'
  have oc : Own h1.size 1 h3' ⟨some ⟨h1.size, 0, none⟩, 7, 7⟩ (Bs.inj PB q.1) := c3'.own o3 fun z hz f => by cases hz; have := f.2; dsimp only at this; omega
  have q3 : h.size + 8 ≤ h3'.size := by have := e13.size; omega
  refine wp_grd rfl (wp_load1 (b := .sl) _ q.1.1 rfl (cells_iff.1 oc.cells 0 _ rfl) ?_)
  have hsplit : B = bytesL (ps.take k) ++ (q.2 ++ bytesL (ps.drop (k + 1))) := by
   have hlt := (List.getElem?_eq_some_iff.1 hq).1
   have h1 : ps = ps.take k ++ (q :: ps.drop (k + 1)) := by
    have := (List.getElem?_eq_some_iff.1 hq).2
    rw [← this, ← List.drop_eq_getElem_cons hlt, List.take_append_drop]
   rw [← hB]
   conv => lhs; rw [h1]
   simp [bytesL]
  have hsucc : (bytesL (ps.take (k + 1))).length = (bytesL (ps.take k)).length + q.2.length := by rw [List.take_add_one, hq]; simp [bytesL]
  generalize hn0 : (bytesL (ps.take k)).length = n0 at g3' hsucc
  have hBlen : n0 + q.2.length ≤ B.length := by rw [hsplit, List.length_append, List.length_append, hn0]; omega
  have hpart : ∀ o m, o + m ≤ q.2.length → (q.2.drop o).take m = (B.drop (n0 + o)).take m := fun o m hm => by
   rw [hsplit, ← List.drop_drop, List.drop_left' hn0, List.drop_append_of_le_length (by omega), List.take_append_of_le_length (by rw [List.length_drop]; omega)]
  obtain ⟨lq0, zq⟩ := cr.lst q hqm
  have lq : ∀ {h' : Heap}, Held Z h0 h' → Lst .u8 h' q.1.1 q.2 := fun u => lq0.blocks fun a ha hl => u.2.1 _ hl (zq a ha).1
  refine wp_whileG (G := Nat × Nat × Sl × Heap) (fun gg (r : Sl × Unit) h' => gg.1 ≤ q.2.length ∧ (∀ {h''}, Held Z h0 h'' → Lst .u8 h'' r.1 (q.2.drop gg.1)) ∧ CS J Z h0 h B sz y (n0 + gg.1) gg.2.1 gg.2.2.1 gg.2.2.2 h' ∧ Held W h3' h' ∧ h.size + 8 ≤ h'.size) (fun gg => q.2.length - gg.1)
   (fun tag vs h' => vs = [] ∧ Held W h3' h' ∧ ((tag = 4 ∧ ∃ c s hp, CS J Z h0 h B sz y (n0 + q.2.length) c s hp h') ∨ (tag = 1 ∧ F h' ∧ Held Z h0 h' ∧ h.size ≤ h'.size))) (0, c, s, hpp)
   ⟨Nat.zero_le _, fun u => by rw [List.drop_zero]; exact lq u, g3', Held.refl _ _, q3⟩ ?_ ?_
  ·rintro ⟨o, c, s, hp⟩ ⟨(rs : Sl), uu⟩ h4 ⟨ho, hrs, g4, w4, q4⟩
   dsimp only at ho hrs g4 ⊢
   have lr := hrs g4.held
   have lrl := lr.len
   rw [List.length_drop] at lrl
   refine wp_ifB (fun hc => ?_) fun hc => ?_
   ·rw [gtI_iff, natI_def, lrl] at hc
    have hol : o < q.2.length := by omega
    obtain ⟨hp, hpz, g4⟩ := g4.rebase sJ q4
    have hsl := g4.o.len
    have hcs := g4.lo; have hch := g4.hi
    have g4o := g4.o
    rw [List.length_take, List.length_drop] at hsl
    have hsl : s.len = n0 + o - c * sz := by rw [hsl]; omega
    generalize hw : c * sz = w at *
    refine wp_load1 (b := .int .i64) a1 (sz : Int) rfl (hcell g4.held c1 z1) (s_cel (b := .sl) (x := s) g4.ca (s_cel (b := .sl) (x := s) g4.ca ?_))
    have hsub : subI .i64 (sz : Int) (natI s.len) = ((sz - s.len : Nat) : Int) := by rw [natI_def, sub_ok (by omega) (by omega)]; omega
    rw [hsub, minI_eq]
    have hmin : min ((sz - s.len : Nat) : Int) (natI rs.len) = ((min (sz - s.len) (q.2.length - o) : Nat) : Int) := by rw [natI_def, lrl]; omega
    rw [hmin]
    generalize hm : min (sz - s.len) (q.2.length - o) = m at *
    have hm0 : 1 ≤ m := by omega
    have hcap := lr.cap
    have hmx := lr.max
    refine wp_grd (leB_ok (by omega) (by omega)) ?_
    rw [cutBase_zero, toN_def, Int.toNat_natCast, show subN m 0 = m from rfl, show subN rs.cap 0 = rs.cap from rfl]
    have lpart := lr.take (n := m) (m := rs.cap) (by rw [List.length_drop]; omega) (by omega) hmx
    rw [hpart o m (by omega)] at lpart
    have hpl : ((B.drop (n0 + o)).take m).length = m := by rw [List.length_take, List.length_drop]; omega
    have hcl : ((B.drop w).take (n0 + o - w)).length = n0 + o - w := by rw [List.length_take, List.length_drop]; omega
    have hjoin : (B.drop w).take (n0 + o - w) ++ (B.drop (n0 + o)).take m = (B.drop w).take (n0 + o + m - w) := by
     have h1 := List.take_add (l := B.drop w) (i := n0 + o - w) (j := m)
     rw [List.drop_drop, show w + (n0 + o - w) = n0 + o by omega, show n0 + o - w + m = n0 + o + m - w by omega] at h1
     exact h1.symm
    have q4h := g4.chg.1
    refine s_append g4o (by omega) lpart (by rw [hcl, hpl]; omega) (by rw [hcl, hpl]; omega) fun s' h5 k5 o5 u5 b5 => ?_
    rw [hjoin] at o5
    have cu : Chg (fun i => ∃ a, s.base = some a ∧ a.block = i) h4 h5 := Chg.of_upd u5 fun x hx _ => ⟨x, hx, rfl⟩
    have sb : ∀ a, s.base = some a → hp.size ≤ a.block := fun a ha => (g4.o.own.lt ha).1
    have ca5 := cu.own g4.ca fun x hx ⟨z, hz, f⟩ => by cases hx; have := sb z hz; dsimp only at f; omega
    have cy5 := cu.own g4.cy fun x hx ⟨z, hz, f⟩ => by cases hx; have := sb z hz; dsimp only at f; omega
    refine s_celput (slv s') ca5 rfl fun h6 ca6 u6 => wp_grd (leB_ok (by omega) (by omega)) ?_
    have c6 : Chg (fun i => i = h.size + 1) h5 h6 := upd_chg u6
    have c46 : Chg (fun i => i = h.size + 1 ∨ ∃ a, s.base = some a ∧ a.block = i) h4 h6 := (cu.mono fun i _ f => .inr f).trans (c6.mono fun i _ f => .inl f) fun i _ f => f
    have o6 : OwnL hp.size .u8 h6 s' ((B.drop w).take (n0 + o + m - w)) := c6.ownL o5 fun x hx f => by have := (o5.own.lt hx).1; omega
    have cy6 : Cel h.size h6 ⟨h.size, 0, none⟩ y := c6.own cy5 fun x hx f => by cases hx; have f : h.size = h.size + 1 := f; omega
    have held6 : Held Z h0 h6 := g4.held.chg c46 fun i hi hz f => by
     rcases f with f | ⟨a, ha, f⟩
     ·omega
     ·have := sb a ha; omega
    have w46 : Held W h4 h6 := Held.of_chg c46 fun i hi hw f => by
     rcases f with f | ⟨a, ha, f⟩
     ·rcases hw with hw | hw
      ·exact hw.2 f
      ·have := hw.2; omega
     ·have := sb a ha
      rcases hw with hw | hw
      ·have := hw.1.2; omega
      ·have := hw.2; omega
    have chg6 : Chg (own h.size 8) hp h6 := g4.chg.trans c46 fun i hi f => by
     rcases f with f | ⟨a, ha, f⟩
     ·exact ⟨by omega, by omega⟩
     ·have := sb a ha; omega
    have hs'l := o6.len
    rw [List.length_take, List.length_drop] at hs'l
    have hs'l : s'.len = n0 + o + m - w := by rw [hs'l]; omega
    have q46 := c46.1
    have rs2 : ∀ {h''}, Held Z h0 h'' → Lst .u8 h'' ⟨cutBase rs.base rs.cap m 1, subN rs.len m, subN rs.cap m⟩ (q.2.drop (o + m)) := fun u => by
     have := (hrs u).tail (i := m) (by rw [List.length_drop]; omega)
     rw [List.drop_drop] at this; exact this
    refine s_cel (b := .sl) (x := s') ca6 (wp_load1 (b := .int .i64) a1 (sz : Int) rfl (hcell held6 c1 z1) (wp_ifB (fun hd => ?_) fun hd => ?_))
    ·rw [eqI_iff, natI_def, hs'l] at hd
     have hd : n0 + o + m = w + sz := by omega
     have hcN : c < nch B.length sz := (lt_nch hsz).2 (by rw [hw]; omega)
     refine s_cel (b := .any) (x := y) cy6 (s_cel (b := .sl) (x := s') ca6 ?_)
     rw [show n0 + o + m - w = sz by omega, ← hw] at o6
     refine wp_callv ((hY c hp h6 s' hcN g4.j hpz chg6 held6 o6).mono fun vs h7 ⟨b, hv, hh, hJ, hF⟩ => ⟨(b, ()), hv, ?_⟩)
     have w67 : Held W h6 h7 := hh.mono fun i _ hw => hw.elim (fun k => .inl k.1) .inr
     have held7 : Held Z h0 h7 := held6.step hh fun i hi hz => .inr ⟨hz, hi⟩
     have cy7 : Cel h.size h7 ⟨h.size, 0, none⟩ y := hh.own' cy6 fun x hx => by cases hx; exact .inl ⟨Nat.le_refl _, by dsimp only; omega⟩
     have ca7 : Cel (h.size + 1) h7 ⟨h.size + 1, 0, none⟩ (slv s') := hh.own' ca6 fun x hx => by cases hx; exact .inl ⟨by dsimp only; omega, by dsimp only; omega⟩
     have q67 := hh.1
     dsimp only
     cases b with
     | false => exact s_ifT (s_ret ⟨fun h => absurd h (by decide), fun _ => ⟨rfl, (w4.trans w46).trans w67, .inr ⟨rfl, hF rfl, held7, by omega⟩⟩⟩)
     | true =>
      refine s_ifF (s_celput (slv ⟨none, 0, 0⟩) ca7 rfl fun h8 ca8 u8 => ?_)
      have c8 : Chg (fun i => i = h.size + 1) h7 h8 := upd_chg u8
      have q78 := c8.1
      have w78 : Held W h7 h8 := Held.of_chg c8 fun i hi hw f => by
       rcases hw with hw | hw
       ·exact hw.2 f
       ·have := hw.2; have f : i = h.size + 1 := f; omega
      refine s_ret ⟨fun _ => ⟨(o + m, c + 1, ⟨none, 0, 0⟩, h7), (⟨cutBase rs.base rs.cap m 1, subN rs.len m, subN rs.cap m⟩, ()), rfl, ⟨by dsimp only; omega, rs2, ⟨hJ rfl, .inl (by dsimp only; omega), by dsimp only; omega, c8.mono fun i _ (f : i = h.size + 1) => ⟨by omega, by omega⟩, held7.chg c8 fun i hi _ f => by have f : i = h.size + 1 := f; omega, c8.own cy7 fun x hx f => by cases hx; have f : h.size = h.size + 1 := f; omega, ca8, by rw [Nat.succ_mul, hw]; dsimp only; omega, by rw [Nat.succ_mul, hw]; dsimp only; omega, ?_⟩, ((w4.trans w46).trans w67).trans w78, by omega⟩, by dsimp only; omega⟩, fun hh => absurd rfl hh⟩
      have : n0 + (o + m) - (c + 1) * sz = 0 := by rw [Nat.succ_mul, hw]; omega
      dsimp only
      rw [this, List.take_zero]
      exact OwnL.nil _ _ _
    ·rw [eqI_not, natI_def, hs'l] at hd
     have hd : n0 + o + m < w + sz := by omega
     refine s_ret ⟨fun _ => ⟨(o + m, c, s', hp), (⟨cutBase rs.base rs.cap m 1, subN rs.len m, subN rs.cap m⟩, ()), rfl, ⟨by dsimp only; omega, rs2, ⟨g4.j, .inl hpz, g4.hp0, chg6, held6, cy6, ca6, by rw [hw]; dsimp only; omega, by rw [hw]; dsimp only; omega, ?_⟩, w4.trans w46, by omega⟩, by dsimp only; omega⟩, fun hh => absurd rfl hh⟩
     dsimp only
     rw [hw, show n0 + (o + m) - w = n0 + o + m - w by omega]
     exact o6
   ·rw [gtI_not, natI_def, lrl] at hc
    have : o = q.2.length := by omega
    subst this
    exact s_ret ⟨fun hh => absurd hh (by decide), fun _ => ⟨rfl, w4, .inl ⟨rfl, c, s, hp, g4⟩⟩⟩
  ·rintro tag vs h4 ⟨rfl, w4, hx⟩
   have hW : Held (fun i => own g3.size (2 + 2) i ∨ (Z' i ∧ i < g3.size)) h3' h4 := w4.mono fun i _ hi => by
    rcases hi with hi | ⟨hi | hi | hi, hlt⟩
    ·rw [sR] at hi; exact .inl ⟨⟨by have := hi.1; omega, by have := hi.2; omega⟩, by have := hi.1; omega⟩
    ·exact .inr hi
    ·exact .inl ⟨⟨by omega, by omega⟩, by omega⟩
    ·exact .inl ⟨⟨by omega, by omega⟩, by omega⟩
   rcases hx with ⟨rfl, c, s, hp, g⟩ | ⟨rfl, f, hh, hsz'⟩
   ·exact s_tag (s_cast0 (s_ret ⟨hW, fun _ => ⟨c, s, hp, by rw [hsucc]; exact g⟩, fun hh => absurd rfl hh⟩))
   ·exact s_skip (by decide) (s_tag (s_cast0 (s_ret ⟨hW, fun hh => absurd hh (by decide), fun _ => ⟨rfl, f, hh, hsz'⟩⟩)))
 ·have e03 := (e1.trans e2).trans e3
  refine ⟨0, ⟨none, 0, 0⟩, h, j0, .inr rfl, Nat.le_refl _, Chg.of_ext e03, hz3, o1.ext (e2.trans e3), ?_, by omega, by rw [List.take_zero]; simp [bytesL]; omega, ?_⟩
  ·exact o2.ext e3
  ·have e : (bytesL (ps.take 0)).length - 0 * sz = 0 := by simp [bytesL]
   rw [e, List.take_zero]; exact OwnL.nil _ _ _
 ·intro j h5 hs5 hz5 hx
  have hall : ps.take t.list.length = ps := by rw [hlen, List.take_length]
  rcases hx with ⟨rfl, c, s, hp, g⟩ | ⟨_, rfl, f, hh, hsz'⟩
  ·rw [hall, hB] at g
   have q5 : h.size ≤ h5.size := Nat.le_trans g.hp0 g.chg.1
   refine s_skip (by decide) (s_tag (s_cel (b := .sl) (x := s) g.ca ?_))
   have hsl := g.o.len
   have hcs := g.lo; have hch := g.hi
   rw [List.length_take, List.length_drop] at hsl
   have hsl : s.len = B.length - c * sz := by rw [hsl]; omega
   have hcle : c ≤ nch B.length sz := by
    cases c with
    | zero => exact Nat.zero_le _
    | succ d => exact (lt_nch hsz).2 (by rw [Nat.succ_mul] at hcs; omega)
   refine wp_ifB (fun hd => ?_) fun hd => ?_
   ·rw [gtI_iff, natI_def, hsl] at hd
    have hcN : c < nch B.length sz := (lt_nch hsz).2 (by omega)
    have hN : nch B.length sz = c + 1 := by
     by_cases hlt : c + 1 < nch B.length sz
     ·have := (lt_nch hsz).1 hlt; rw [Nat.succ_mul] at this; omega
     ·omega
    obtain ⟨hp, hpz, g⟩ := g.rebase sJ (by
     rcases g.hp1 with h | h
     ·have := g.chg.1; omega
     ·have h3 : s.cap = 0 := by
       have := g.o.own.2.2.2
       rw [h] at this; exact this
      have := g.o.own.2.1
      omega)
    have o5 := g.o
    rw [show (B.drop (c * sz)).take (B.length - c * sz) = (B.drop (c * sz)).take sz by rw [List.take_of_length_le (by rw [List.length_drop]; exact Nat.le_refl _), List.take_of_length_le (by rw [List.length_drop]; omega)]] at o5
    refine s_cel (b := .any) (x := y) g.cy (s_cel (b := .sl) (x := s) g.ca (wp_callv ((hY c hp h5 s hcN g.j hpz g.chg g.held o5).mono fun vs h6 ⟨b, hv, hh, hJ, hF⟩ => ⟨(b, ()), hv, s_ret ⟨hh.mono fun i _ hi => .inl ⟨by have := hi.1; omega, by have := hi.2; omega⟩, fun h7 c7 s7 => ⟨rfl, rfl, by have := hh.1; have := c7.1; omega, ?_, ?_⟩⟩⟩)))
    ·have held6 : Held Z h0 h6 := g.held.step hh fun i hi hz => .inr ⟨hz, hi⟩
     exact held6.chg c7 fun i hi _ f => by have := f.1; omega
    ·have c7' : Chg (own h.size 8) h6 h7 := c7.mono fun i _ f => ⟨by have := f.1; omega, by have := f.2; omega⟩
     cases b with
     | true => rw [hN]; exact .inl (sJ _ _ _ (hJ rfl) c7')
     | false => exact .inr (sF _ _ (hF rfl) c7')
   ·rw [gtI_not, natI_def, hsl] at hd
    have hN : nch B.length sz = c := by
     by_cases hlt : c < nch B.length sz
     ·have := (lt_nch hsz).1 hlt; omega
     ·omega
    refine s_ret ⟨Held.refl _ _, fun h7 c7 s7 => ⟨rfl, rfl, by have := c7.1; omega, g.held.chg c7 fun i hi _ f => by have := f.1; omega, .inl ?_⟩⟩
    rw [hN]
    exact sJ _ _ _ (sJ _ _ _ g.j g.chg) (c7.mono fun i _ f => ⟨by have := f.1; omega, by have := f.2; omega⟩)
  ·refine s_tag (s_ret ⟨Held.refl _ _, fun h7 c7 s7 => ⟨rfl, rfl, by have := c7.1; omega, hh.chg c7 fun i hi _ f => by have := f.1; omega, .inr (sF _ _ f (c7.mono fun i _ f => ⟨by have := f.1; omega, by have := f.2; omega⟩))⟩⟩)
end Go.Sw.Piece

set_option linter.unusedVariables false
set_option linter.unusedSimpArgs false
set_option maxRecDepth 100000
namespace Go.Sw.Piece
open Go.Sw.Any Go.Sw.Codec
open Go.Sw.Tree (iv s_putAll s_newP s_getP s_getT s_putP eqI_self Placed cell_own wp_whileG minI_eq)
variable {P : Program} {S : Ids} {h : Heap} {Q : Nat → List Value → Heap → Prop}
end Go.Sw.Piece

set_option linter.unusedVariables false
set_option linter.unusedSimpArgs false
set_option maxRecDepth 100000
namespace Go.Sw.Piece
open Go.Sw.Any Go.Sw.Codec
open Go.Sw.Tree (iv s_putAll s_newP s_getP s_getT s_putP eqI_self Placed cell_own wp_whileG minI_eq)
variable {P : Program} {S : Ids} {h : Heap} {Q : Nat → List Value → Heap → Prop}
end Go.Sw.Piece

set_option linter.unusedVariables false
set_option linter.unusedSimpArgs false
set_option maxRecDepth 100000
namespace Go.Sw.Piece
open Go.Sw.Any Go.Sw.Codec
open Go.Sw.Tree (iv s_putAll s_newP s_getP s_getT s_putP eqI_self Placed cell_own wp_whileG minI_eq)
variable {P : Program} {S : Ids} {h : Heap} {Q : Nat → List Value → Heap → Prop}
end Go.Sw.Piece

set_option linter.unusedVariables false
set_option linter.unusedSimpArgs false
set_option maxRecDepth 100000
namespace Go.Sw.Piece
open Go.Sw.Any Go.Sw.Codec
open Go.Sw.Tree (iv s_putAll s_newP s_getP s_getT s_putP eqI_self Placed cell_own wp_whileG minI_eq)
variable {P : Program} {S : Ids} {h : Heap} {Q : Nat → List Value → Heap → Prop}
theorem s_pushV {n bytes : Nat} {z v : Value} {o : Sl} {vs : List Value} {K : Sl → Prog} (ho : Own n 1 h o vs) (hn : n ≤ h.size) (hf : flat v = true) (hroom : (vs.length + 1) * bytes ≤ 140737488355328) (hlen : vs.length + 1 < 2 ^ 63)
  (hk : ∀ r h', Keep n h h' → Own n 1 h' r (vs ++ [v]) → Upd o h h' → (∀ a, r.base = some a → o.base = some a ∨ h.size ≤ a.block) → wp P (K r) h' Q) :
  wp P (.alloc [v] fun a => .append 1 bytes [z] o ⟨some a, 1, 1⟩ K) h Q := by
 have hl := ho.1
 rw [Nat.mul_one] at hl
 exact wp_push ho hn rfl (by intro x hx; rw [List.mem_singleton.1 hx]; exact hf) rfl (by rw [hl]; exact hroom) (by rw [hl]; exact hlen) fun r h' a b c d => hk r h' (Upd.keep ho hn c) a c d
theorem s_ldV {n i : Nat} {b : B} {w : Sl} {vs : List Value} {x : b.den} {K : b.den → Prog} (o : Own n 1 h w vs) (hi : vs[i]? = some (b.inj x)) (hk : wp P (K x) h Q) :
  wp P (grd (andB (someB w.base) (inB (i : Int) w.len)) <| .load (.one b) (shiftTo w.base (mulN (toN (i : Int)) 1)) K) h Q := by
 obtain ⟨a, ea, c⟩ := o.rd.2 i _ hi
 have hl := o.1
 have hlt := (List.getElem?_eq_some_iff.1 hi).1
 refine wp_grd (andB_iff.2 ⟨by simp [someB, ea], inB_is.2 ⟨by omega, by omega⟩⟩) ?_
 exact wp_load1 (a.add i) x (by simp [shiftTo, ea, mulN, toN]) c hk
def nchI (L : Nat) (size : Int) : Nat := if size < 1 then 0 else nch L size.toNat
def chunkI (B : List Int) (size : Int) (k : Nat) : List Int := (B.drop (k * size.toNat)).take size.toNat
structure CkI (h0 : Heap) (B : List Int) (sz i : Nat) (h : Heap) (o c : Sl) (ss : List Sl) : Prop where
 e : Ext h0 h
 oo : Own h0.size 1 h o (ss.map fun x => slv x)
 oc : OwnL h0.size .u8 h c ((B.drop (ss.length * sz)).take (i - ss.length * sz))
 el : ∀ (j : Nat) (x : Sl), ss[j]? = some x → OwnL h0.size .u8 h x ((B.drop (j * sz)).take sz)
 dc : ∀ a b, c.base = some a → o.base = some b → b.block ≠ a.block
 de : ∀ x, x ∈ ss → ∀ a, x.base = some a → (∀ b, c.base = some b → b.block ≠ a.block) ∧ ∀ b, o.base = some b → b.block ≠ a.block
 few : ss.length ≤ i
 pos : (i < B.length → ss.length * sz ≤ i ∧ i < ss.length * sz + sz) ∧ (i = B.length → ss.length = nch B.length sz)
theorem ChR.mono {Z Z' : Nat → Prop} {h' : Heap} {root : Option Addr} {t : Bt Part} {ps : List Pc} (c : ChR S Z h root t ps) (e : Ext h h') (hz : ∀ i, i < h.size → Z i → Z' i) : ChR S Z' h' root t ps :=
 ⟨Nd.ext (I := part S Z') e (part_mono c.nd hz), c.ls, c.room, fun q hq => ⟨(c.lst q hq).1.ext e, fun a ha => by
  obtain ⟨h1, h2⟩ := (c.lst q hq).2 a ha
  exact ⟨hz _ h2 h1, by have := e.size; omega⟩⟩, c.small⟩
theorem TextR.chr {n : Nat} {T : TX} (t : TextR S n h T) : ChR S T.Z h T.cur.root T.cur.t T.cur.ps :=
 ⟨t.cur.nd, t.cur.ls, by have := (t.cur.few t.lim.2).2; omega, fun q hq => ⟨(t.cur.pcs q hq).lst, fun a ha => by
  have := ((t.cur.pcs q hq).blk a ha).1
  exact ⟨this, (t.lo _ this).2⟩⟩, t.cur.small⟩
theorem iter_none (C : Cl P S) {Z : Nat → Prop} {h0 : Heap} {size : Int} {ch : Nat → List Int} {a1 a3 : Addr} (hsz : size < 1) (c1 : Sw.cell h0 a1 = some (i64v size)) (z1 : Z a1.block) :
  IterC P (.func (.func S.f_Text_Chunks_1) #[] #[.pointer (some a1), .pointer (some a3)]) 0 ch Z 8 h0 := by
 intro h y J F hs hz fy sJ sF hY j0
 refine C.chunks y (some a1) (some a3) h _ ?_
 unfold F_Text_Chunks_1
 refine wp_grd fy (s_new1 y fun g1 e1 o1 s1 => ?_)
 have hz1 : Held Z h0 g1 := hz.trans (Held.of_ext e1)
 refine wp_load1 (b := .int .i64) a1 size rfl (hz1.cell c1 z1) (wp_ifB (fun hc => s_ret ⟨rfl, rfl, e1.size, hz1, .inl (sJ _ _ _ j0 (Chg.of_ext e1))⟩) fun hc => by rw [ltI_not] at hc; omega)
theorem c_TChunks (C : Cl P S) {n : Nat} {T : TX} {Z : Nat → Prop} {size : Int} (t : TextR S n h T) (cr : ChR S Z h T.cur.root T.cur.t T.cur.ps) (hs : fitsI .i64 size) :
  Gives P (F_Text_Chunks S (some T.p) size) [.one .any] h fun (y : Value × Unit) h' => ∃ a1 a3 : Addr, y.1 = .func (.func S.f_Text_Chunks_1) #[] #[.pointer (some a1), .pointer (some a3)] ∧
   IterC P y.1 (nchI (bytesL T.cur.ps).length size) (chunkI (bytesL T.cur.ps) size) (fun i => Z i ∨ h.size ≤ i) 8 h' := by
 unfold F_Text_Chunks Gives
 have hs := fits_i64.1 hs
 refine s_new1 _ fun h1 e1 o1 s1 => ?_
 refine s_root (t.ext e1) (s_newput _ (.pointer T.cur.root) rfl fun h2 e2 o2 => s_ret ⟨rfl, e1.trans e2, (_, ()), rfl, ⟨h.size, 0, none⟩, ⟨h1.size, 0, none⟩, rfl, ?_⟩)
 have e12 := e1.trans e2
 have c1 := cell_own (o1.ext e2)
 have c3 := cell_own o2
 by_cases hc : size < 1
 ·unfold nchI
  rw [if_pos hc]
  exact iter_none C hc c1 (.inr (Nat.le_refl _))
 ·obtain ⟨sz, rfl⟩ : ∃ sz : Nat, size = sz := ⟨size.toNat, by omega⟩
  unfold nchI chunkI
  rw [if_neg hc, Int.toNat_natCast]
  exact iter_chunks C (cr.mono e12 fun i _ hz => .inl hz) (by omega) (by omega) c1 c3 (.inr (Nat.le_refl _)) (.inr (by dsimp only; omega))
structure CbI (hc : Heap) (aN aS : Addr) (k : Nat) (st : Bool) (h' : Heap) : Prop where
 c : Chg (fun i => i = aN.block ∨ i = aS.block) hc h'
 n : Cel 0 h' aN (i64v k)
 s : Cel 0 h' aS (.bool st)
end Go.Sw.Piece

set_option linter.unusedVariables false
set_option linter.unusedSimpArgs false
set_option maxRecDepth 100000
namespace Go.Sw.Piece
open Go.Sw.Any Go.Sw.Codec
open Go.Sw.Tree (iv s_putAll s_newP s_getP s_getT s_putP eqI_self Placed cell_own wp_whileG minI_eq)
variable {P : Program} {S : Ids} {h : Heap} {Q : Nat → List Value → Heap → Prop}
end Go.Sw.Piece

set_option linter.unusedVariables false
set_option linter.unusedSimpArgs false
set_option maxRecDepth 100000
namespace Go.Sw.Piece
open Go.Sw.Any Go.Sw.Codec
open Go.Sw.Tree (iv s_putAll s_newP s_getP s_getT s_putP eqI_self Placed cell_own wp_whileG minI_eq)
variable {P : Program} {S : Ids} {h : Heap} {Q : Nat → List Value → Heap → Prop}
structure SnapD (n : Nat) (h h' : Heap) (R R' : RX) : Prop where
 r : RefT n h' R'
 b : R'.b = R.b
 enc : R'.enc = R.enc
 limit : R'.limit = R.limit
 E : R'.E = R.E
 K : R'.K = R.K ++ [(R.sa, R.st, R.E)]
 zm : ∀ i, R.Z i → R'.Z i
 zn : ∀ i, R'.Z i → R.Z i ∨ h.size ≤ i
structure SnK where
 a : Addr
 i : Nat
 s : St
 num : Nat
structure WX where
 t : Nat → Option TX
 r : Nat → Option RX
 sn : List SnK
 sS : Sl
 sO : Sl
 sN : Sl
 pen : Option PenS
 ρ : Nat → Nat
def penP : Option PenS → Option Addr
 | none => none
 | some s => some (at0 s.ob)
abbrev WX.cells (w : WX) : List Value := [.pointer (tP (w.t 0)), .pointer (tP (w.t 1)), .pointer (rP (w.r 0)), .pointer (rP (w.r 1)), slv w.sS, slv w.sO, slv w.sN, .pointer (penP w.pen)]
structure SnapG (n : Nat) (h : Heap) (w : WX) (k : SnK) : Prop where
 lt : k.i < 2
 go : ∃ T R, w.t k.i = some T ∧ w.r k.i = some R ∧ SnapR n h k.a T.p k.s ∧ k.s ∈ T.kept ∧ (bytesL k.s.ps).length ≤ T.limit ∧ ∃ q, R.K[k.num]? = some q ∧ q.2.2 = els T.enc k.s.ps
structure WorldR (S : Ids) (n : Nat) (h : Heap) (wb : Nat) (w : WX) (am ks : Nat) : Prop where
 ob : Own n 1 h ⟨some (at0 wb), 8, 8⟩ w.cells
 pair : ∀ i, i < 2 → PairO S n h (w.t i) (w.r i)
 pen : PenO n h (penP w.pen) w.pen
 lS : Own n 1 h w.sS (w.sn.map fun k => .pointer (some k.a))
 lO : OwnL n .i64 h w.sO (w.sn.map fun k => (k.i : Int))
 lN : OwnL n .i64 h w.sN (w.sn.map fun k => (k.num : Int))
 snap : ∀ k, k ∈ w.sn → SnapG n h w k
 few : w.sn.length ≤ ks
 kfew : ∀ i, i < 2 → ∀ R, w.r i = some R → R.K.length ≤ ks
 A : ∀ i, i < 2 → ∀ T, w.t i = some T → T.A.length ≤ am
 r1 : w.ρ wb = 1
 r2 : ∀ a, w.sS.base = some a → w.ρ a.block = 2
 r3 : ∀ a, w.sO.base = some a → w.ρ a.block = 3
 r4 : ∀ a, w.sN.base = some a → w.ρ a.block = 4
 r5 : ∀ k, k ∈ w.sn → w.ρ k.a.block = 5
 r6 : ∀ i, i < 2 → ∀ T, w.t i = some T → ∀ x, T.Z x → w.ρ x = 6 + 2 * i
 r7 : ∀ i, i < 2 → ∀ R, w.r i = some R → ∀ x, R.Z x → w.ρ x = 7 + 2 * i
 r10 : ∀ x, oZ w.pen x → w.ρ x = 10
 lo : ∀ x, w.ρ x ≠ 0 → n ≤ x ∧ x < h.size
variable {n wb am ks : Nat} {w : WX}
end Go.Sw.Piece

set_option linter.unusedVariables false
set_option linter.unusedSimpArgs false
set_option maxRecDepth 100000
namespace Go.Sw.Piece
open Go.Sw.Any Go.Sw.Codec
open Go.Sw.Tree (iv s_putAll s_newP s_getP s_getT s_putP eqI_self Placed cell_own wp_whileG minI_eq)
variable {P : Program} {S : Ids} {h : Heap} {Q : Nat → List Value → Heap → Prop}
variable {n wb am ks : Nat} {w : WX}
end Go.Sw.Piece

set_option linter.unusedVariables false
set_option linter.unusedSimpArgs false
set_option maxRecDepth 100000
namespace Go.Sw.Piece
open Go.Sw.Any Go.Sw.Codec
open Go.Sw.Tree (iv s_putAll s_newP s_getP s_getT s_putP eqI_self Placed cell_own wp_whileG minI_eq)
variable {P : Program} {S : Ids} {h : Heap} {Q : Nat → List Value → Heap → Prop}
variable {n wb am ks : Nat} {w : WX}
end Go.Sw.Piece

set_option linter.unusedVariables false
set_option linter.unusedSimpArgs false
set_option maxRecDepth 100000
namespace Go.Sw.Piece
open Go.Sw.Any Go.Sw.Codec
open Go.Sw.Tree (iv s_putAll s_newP s_getP s_getT s_putP eqI_self Placed cell_own wp_whileG minI_eq)
variable {P : Program} {S : Ids} {h : Heap} {Q : Nat → List Value → Heap → Prop}
variable {n wb am ks : Nat} {w : WX}
abbrev StepD := Int × Int × Int × Int × Eds × Unit
end Go.Sw.Piece

set_option linter.unusedVariables false
set_option linter.unusedSimpArgs false
set_option maxRecDepth 100000
namespace Go.Sw.Piece
open Go.Sw.Any Go.Sw.Codec
open Go.Sw.Tree (iv s_putAll s_newP s_getP s_getT s_putP eqI_self Placed cell_own wp_whileG minI_eq)
variable {P : Program} {S : Ids} {h : Heap} {Q : Nat → List Value → Heap → Prop}
variable {n wb am ks : Nat} {w : WX}
abbrev PlayD := (Int × Int × Unit) × (Int × Int × Unit) × ((Sl × List Int) × (Sl × List Int) × Unit) × (Sl × List StepD) × Unit
section laws
variable {y : PlayD}
end laws
end Go.Sw.Piece

set_option linter.unusedVariables false
set_option linter.unusedSimpArgs false
set_option maxRecDepth 100000
namespace Go.Sw.Piece
open Go.Sw.Any Go.Sw.Codec
open Go.Sw.Tree (iv s_putAll s_newP s_getP s_getT s_putP eqI_self Placed cell_own wp_whileG minI_eq)
variable {P : Program} {S : Ids} {h : Heap} {Q : Nat → List Value → Heap → Prop}
structure ClF (P : Program) (S : Ids) : Prop where
 rg : ∀ (c : Sl) (x1 : Option Addr), Dyn P (.func (.func S.f_law5_ranged_1) #[] #[.pointer x1]) [slv c] (F_law5_ranged_1 S c x1)
 bg : ∀ (c : Sl) (x1 x2 x3 x4 : Option Addr), Dyn P (.func (.func S.f_law5_begun_1) #[] #[.pointer x1, .pointer x2, .pointer x3, .pointer x4]) [slv c] (F_law5_begun_1 S c x1 x2 x3 x4)
 fl : ∀ (c : Sl) (x1 x2 x3 x4 x5 x6 x7 x8 x9 x10 : Option Addr), Dyn P (.func (.func S.f_law5_PieceFlow_1) #[] #[.pointer x1, .pointer x2, .pointer x3, .pointer x4, .pointer x5, .pointer x6, .pointer x7, .pointer x8, .pointer x9, .pointer x10]) [slv c] (F_law5_PieceFlow_1 S c x1 x2 x3 x4 x5 x6 x7 x8 x9 x10)
structure Gr (hc : Heap) (a : Addr) (L : List Int) (h' : Heap) (s : Sl) : Prop where
 cel : Cel 0 h' a (slv s)
 o : OwnL 0 .u8 h' s L
 sb : ∀ b, s.base = some b → hc.size + 8 ≤ b.block
end Go.Sw.Piece

set_option linter.unusedVariables false
set_option linter.unusedSimpArgs false
set_option maxRecDepth 100000
namespace Go.Sw.Piece
open Go.Sw.Any Go.Sw.Codec
open Go.Sw.Tree (iv s_putAll s_newP s_getP s_getT s_putP small_ne eqI_self Placed cell_own wp_whileG minI_eq)
variable {P : Program} {S : Ids} {h : Heap} {Q : Nat → List Value → Heap → Prop}
structure FlE (S : Ids) (hb hc : Heap) (T0 : TX) (x : Eds) (sl : Sl) (sz k : Nat) (it : Value) (aK aI aT aE aL aZ : Addr) : Prop where
 cK : Cel 0 hc aK (i64v k)
 cI : Cel 0 hc aI it
 cT : Cel 0 hc aT (.pointer (some T0.p))
 cE : Cel 0 hc aE (slv x.1)
 cL : Cel 0 hc aL (slv sl)
 cZ : Cel 0 hc aZ (i64v sz)
 lt : aK.block < hb.size ∧ aI.block < hb.size ∧ aT.block < hb.size ∧ aE.block < hb.size ∧ aL.block < hb.size ∧ aZ.block < hb.size
 nz : ¬ T0.Z aK.block ∧ ¬ T0.Z aI.block ∧ ¬ T0.Z aT.block ∧ ¬ T0.Z aE.block ∧ ¬ T0.Z aL.block ∧ ¬ T0.Z aZ.block
 tz : ∀ i, T0.Z i → i < hb.size
structure FlJ (S : Ids) (n : Nat) (hb hc : Heap) (T0 : TX) (am : Nat) (l : List Int) (sz N : Nat) (aA aN aS aR : Addr) (c : Nat) (h' : Heap) (T : TX) (s : Sl) (bs : Bool) : Prop where
 t : TextR S n h' T
 nx : Nxt T0 T hc.size
 far : ∀ i, T.Z i → T0.Z i ∨ hc.size + 8 ≤ i
 A : T.A.length ≤ am
 sm : (bytesL T.cur.ps).length ≤ T.limit
 chg : Chg (fun i => i = aA.block ∨ i = aN.block ∨ i = aS.block ∨ i = aR.block ∨ wfoot T0 i) hc h'
 g : Gr hc aA (l.take (c * sz)) h' s
 gz : ∀ b, s.base = some b → ¬ T.Z b.block
 cN : Cel 0 h' aN (i64v c)
 cS : Cel 0 h' aS (.bool bs)
 hS : c < N → bs = false
 cR : Cel 0 h' aR (.bool true)
structure FlC (hb hc : Heap) (aA aN aS aR : Addr) : Prop where
 ge : hb.size ≤ aA.block ∧ aA.block < aN.block ∧ aN.block < aS.block ∧ aS.block < aR.block ∧ aR.block < hc.size
variable {n am sz N c : Nat} {hb hc : Heap} {T0 T : TX} {l : List Int} {aA aN aS aR : Addr} {s : Sl} {bs : Bool}
end Go.Sw.Piece

set_option linter.unusedVariables false
set_option linter.unusedSimpArgs false
set_option maxRecDepth 100000
namespace Go.Sw.Piece
open Go.Sw.Any Go.Sw.Codec
open Go.Sw.Tree (iv s_putAll s_newP s_getP s_getT s_putP small_ne eqI_self Placed cell_own wp_whileG minI_eq)
variable {P : Program} {S : Ids} {h : Heap} {Q : Nat → List Value → Heap → Prop}
variable {n am sz N c : Nat} {hb hc : Heap} {T0 T : TX} {l : List Int} {aA aN aS aR : Addr} {s : Sl} {bs : Bool}
end Go.Sw.Piece

set_option linter.unusedVariables false
set_option linter.unusedSimpArgs false
set_option maxRecDepth 100000
namespace Go.Sw.Piece
open Go.Sw.Any Go.Sw.Codec
open Go.Sw.Tree (iv s_putAll s_newP s_getP s_getT s_putP small_ne eqI_self Placed cell_own wp_whileG minI_eq)
variable {P : Program} {S : Ids} {h : Heap} {Q : Nat → List Value → Heap → Prop}
structure FlL (S : Ids) (hs h0 : Heap) (Z : Nat → Prop) (p : Addr) (it : Value) (x : Eds) (sl : Sl) (sz : Nat) (aI aT aE aL aZ : Addr) (k : Nat) (aK : Addr) (T : TX) (h : Heap) : Prop where
 e : Ext hs h
 t : TextR S hs.size h T
 tp : T.p = p
 A : T.A.length ≤ k * 4194304
 sm : (bytesL T.cur.ps).length ≤ T.limit
 ad : ∀ b, T.ad.base = some b → h0.size ≤ b.block
 held : Held Z h0 h
 cK : Cel 0 h aK (i64v k)
 cI : Cel 0 h aI it
 cT : Cel 0 h aT (.pointer (some p))
 cE : Cel 0 h aE (slv x.1)
 cL : Cel 0 h aL (slv sl)
 cZ : Cel 0 h aZ (i64v sz)
 nz : ¬ T.Z aK.block ∧ ¬ T.Z aI.block ∧ ¬ T.Z aT.block ∧ ¬ T.Z aE.block ∧ ¬ T.Z aL.block ∧ ¬ T.Z aZ.block
end Go.Sw.Piece

set_option linter.unusedVariables false
set_option linter.unusedSimpArgs false
set_option maxRecDepth 100000
namespace Go.Sw
variable {P : Program} {h : Heap} {Q : Nat → List Value → Heap → Prop}
def StaysC (v : Value) (h h' : Heap) : Prop := ∀ (b : Nat) (cs : Array Value) (el : TypeId), h[b]? = some (.cells cs el) → ∃ cs' : Array Value, h'[b]? = some (.cells cs' el) ∧ cs'.size = cs.size ∧ ∀ j : Nat, cs[j]? = some v → cs'[j]? = some v
theorem StaysC.refl (v : Value) (h : Heap) : StaysC v h h := fun b cs el hb => ⟨cs, hb, rfl, fun _ h => h⟩
theorem StaysC.of_ext {v : Value} {a b : Heap} (e : Ext a b) : StaysC v a b := fun i cs el hi => ⟨cs, (e.2.1 i (Array.getElem?_eq_some_iff.1 hi).1).trans hi, rfl, fun _ h => h⟩
theorem StaysC.own {n c : Nat} {k : IntKind} {m : Int} {a b : Heap} {s : Sl} (x : StaysC (.int k m) a b) (o : OwnL n k a s (List.replicate c m)) : OwnL n k b s (List.replicate c m) := by
 obtain ⟨a1, a2, a3, a4⟩ := o.own
 refine ⟨⟨a1, a2, a3, ?_⟩, o.wf⟩
 cases hb : s.base with
 | none => rw [hb] at a4; exact a4
 | some p =>
  rw [hb] at a4
  obtain ⟨d1, d2, d3, cs, el, d4, d5, d6⟩ := a4
  obtain ⟨cs', g1, g2, g3⟩ := x _ _ _ d4
  refine ⟨d1, d2, d3, cs', el, g1, g2.trans d5, fun i v hv => ?_⟩
  have := d6 i v hv
  rw [List.getElem?_map, List.getElem?_replicate] at hv
  split at hv
  ·simp at hv; subst hv; exact g3 i this
  ·simp at hv
theorem wp_appendC {n bytes : Nat} {zero : List Value} {v : Value} {s x : Sl} {old new : List Value} {K : Sl → Prog} (ho : Own n 1 h s old) (hn : n ≤ h.size) (hx : Rd 1 h x new)
  (hf : ∀ y ∈ new, flat y = true) (hv : ∀ y ∈ new, y = v) (hz : zero.length = 1) (hroom : (s.len + x.len) * bytes ≤ 140737488355328) (hlen : s.len + x.len < 2 ^ 63)
  (hk : ∀ r h', Own n 1 h' r (old ++ new) → Upd s h h' → (∀ a, r.base = some a → s.base = some a ∨ (h.size ≤ a.block)) → StaysC v h h' → wp P (K r) h' Q) :
  wp P (.append 1 bytes zero s x K) h Q := by
 refine ⟨new, by simpa using hx.firsts, ?_⟩
 obtain ⟨o1, o2, o3, o4⟩ := ho
 have hx1 := hx.1
 rw [Nat.mul_one] at o1 hx1
 have hlen' : (old ++ new).length = s.len + x.len := by rw [List.length_append, ← o1, ← hx1]
 by_cases hc : s.len + x.len ≤ s.cap
 ·simp only [hc, if_true]
  cases hb : s.base with
  | none =>
   rw [hb] at o4
   simp only at o4 ⊢
   have e1 : s.len = 0 := by omega
   have e2 : x.len = 0 := by omega
   exact hk _ _ ⟨by dsimp only; omega, hc, o3, o4⟩ ⟨Nat.le_refl _, fun _ _ _ => rfl, fun _ e => e⟩ (fun a ha => by cases ha) (StaysC.refl _ _)
  | some a =>
   rw [hb] at o4
   obtain ⟨b, off, spot⟩ := a
   obtain ⟨e0, e1, e2, cs, elem, e3, e4, e5⟩ := o4
   simp only at e0 e1 e2 e3
   subst e0; subst e1
   rw [Nat.mul_one] at e4
   have hfit : s.len + new.length ≤ cs.size := by omega
   have hadd : (Addr.mk b 0 none).add (s.len * 1) = ⟨b, s.len, none⟩ := by simp [add_mk]
   obtain ⟨w, cs', c1, c2, c3, c4, c5, c6⟩ := puts_block (i := 0) (off := s.len) e3 hf (by simpa using hfit)
   simp only [hadd]
   refine ⟨w, hk _ _ ⟨by dsimp only; omega, hc, o3, rfl, rfl, e2, cs', elem, c1, by dsimp only; omega, fun i v hi => ?_⟩ ⟨by unfold puts; omega, fun i hi hne => c6 i fun e => (hne _ hb) e.symm, fun a e => by unfold puts; rw [thaw_putFrom]; exact e⟩ (fun a ha => Or.inl (hb.trans ha)) fun p cp ep hp => ?_⟩
   ·rw [List.getElem?_append] at hi
    split at hi
    ·rename_i hlt
     rw [c4 i (Or.inl (by omega))]
     exact e5 i v hi
    ·rename_i hge
     have := c3 _ _ hi
     rw [o1] at this
     rw [show old.length + 0 + (i - old.length) = i by omega] at this
     exact this
   ·by_cases hpb : p = b
    ·subst hpb
     rw [e3] at hp
     cases hp
     refine ⟨cs', c1, c2, fun j hj => ?_⟩
     by_cases hr : j < s.len + 0 ∨ s.len + 0 + new.length ≤ j
     ·rw [c4 _ hr]; exact hj
     ·have hjl : j - s.len < new.length := by omega
      have := c3 (j - s.len) _ (List.getElem?_eq_getElem hjl)
      rw [show s.len + 0 + (j - s.len) = j by omega] at this
      rw [this, hv _ (List.getElem_mem _)]
    ·exact ⟨cp, (c6 p hpb).trans hp, rfl, fun _ h => h⟩
 ·simp only [hc, if_false]
  refine ⟨old, by have := Rd.firsts (Own.rd (n := n) (size := 1) (h := h) (s := s) (vs := old) ⟨by omega, o2, o3, o4⟩); simpa using this, growslice_fits (by omega) hroom, hlen, fun cap elem hcap hcap' => ?_⟩
  refine hk _ _ ⟨by dsimp only; omega, hcap, hcap', rfl, rfl, hn, _, elem, Array.getElem?_push_size, ?_, fun i v hi => ?_⟩ ⟨by simp, fun i hi _ => push_old h _ hi, (Ext.push h _ _).2.2⟩ (fun a ha => Or.inr (by cases ha; exact Nat.le_refl _)) (StaysC.of_ext (Ext.push h _ _))
  ·simp only [List.size_toArray, List.length_append, zeros_len hz]
   omega
  ·simp only [List.getElem?_toArray]
   rw [List.getElem?_append_left (by
    have := (List.getElem?_eq_some_iff.1 hi).1; exact this)]
   exact hi
theorem s_appC {n bytes j : Nat} {k : IntKind} {s x : Sl} {c : Nat} {m : Int} {K : Sl → Prog} (ho : OwnL n k h s (List.replicate c m)) (hn : n ≤ h.size) (hx : Lst k h x (List.replicate j m)) (hv : fitsI k m) (hroom : (c + j) * bytes ≤ 140737488355328) (hlen : c + j < 2 ^ 63)
  (hk : ∀ r h', OwnL n k h' r (List.replicate (c + j) m) → Upd s h h' → (∀ a, r.base = some a → s.base = some a ∨ (h.size ≤ a.block)) → StaysC (.int k m) h h' → wp P (K r) h' Q) :
  wp P (.append 1 bytes [.int k 0] s x K) h Q := by
 have hl := ho.len
 have hx' := hx.len
 rw [List.length_replicate] at hl hx'
 refine wp_appendC (v := .int k m) ho.own hn hx.rd (by intro y hy; obtain ⟨z, _, rfl⟩ := List.mem_map.1 hy; rfl) (fun y hy => ?_) rfl (by rw [hl, hx']; exact hroom) (by rw [hl, hx']; exact hlen) fun r h' a b d ks => hk r h' ⟨?_, ?_⟩ b d ks
 ·obtain ⟨z, hz, rfl⟩ := List.mem_map.1 hy
  rw [List.eq_of_mem_replicate hz]
 ·rw [← List.replicate_append_replicate, List.map_append]; exact a
 ·intro y hy; rw [List.eq_of_mem_replicate hy]; exact hv
theorem s_markC {n : Nat} {k : IntKind} {p : Option Addr} {c d i : Nat} {m : Int} {K : Prog} (ho : OwnL n k h ⟨p, i, c⟩ (List.replicate i m)) (hi : i < c) (hd : i < d) (hv : fitsI k m)
  (hk : ∀ h', OwnL n k h' ⟨p, i + 1, c⟩ (List.replicate (i + 1) m) → Upd ⟨p, c, c⟩ h h' → wp P K h' Q) :
  wp P (grd (andB (someB p) (inB (i : Int) d)) (.store (shiftTo p (mulN (toN (i : Int)) 1)) [.int k m] K)) h Q := by
 obtain ⟨o1, o2, o3, o4⟩ := ho.own
 cases hb : p with
 | none =>
  rw [hb] at o4; simp only at o4
  omega
 | some a =>
  rw [hb] at o4
  obtain ⟨b, off, spot⟩ := a
  obtain ⟨e0, e1, e2, cs, elem, e3, e4, e5⟩ := o4
  simp only at e0 e1 e2 e3
  subst e0; subst e1; subst hb
  refine wp_grd (andB_iff.2 ⟨rfl, inB_is.2 ⟨by omega, by omega⟩⟩) ?_
  have hj : i < cs.size := by simp at e4; omega
  have hadd : ((Addr.mk b 0 none).add (mulN (toN (i : Int)) 1)) = ⟨b, i, none⟩ := by simp [add_mk, mulN, toN]
  obtain ⟨w, cs', c1, c2, c3, c4, c5, c6⟩ := puts_block (vs := [.int k m]) (i := 0) (off := i) e3 (by intro x hx; simp at hx; subst hx; rfl) (by simp; omega)
  refine ⟨⟨b, i, none⟩, by rw [shiftTo_some, hadd], w, hk _ ⟨⟨by simp, by dsimp only; omega, o3, rfl, rfl, e2, cs', elem, c1, by rw [c2, e4], fun j x hx => ?_⟩, ?_⟩ ⟨by unfold puts; omega, fun i hi hne => c6 i fun e => (hne _ rfl) e.symm, fun a e => by unfold puts; rw [thaw_putFrom]; exact e⟩⟩
  ·rw [List.getElem?_map, List.getElem?_replicate] at hx
   by_cases hji : j = i
   ·subst hji
    rw [if_pos (by omega)] at hx
    have := c3 0 _ rfl
    simp at hx this
    subst hx
    exact this
   ·split at hx
    ·rename_i hlt
     rw [c4 j (by simp; omega)]
     refine e5 j x ?_
     rw [List.getElem?_map, List.getElem?_replicate, if_pos (by omega)]; exact hx
    ·cases hx
  ·intro x hx; rw [List.eq_of_mem_replicate hx]; exact hv
end Go.Sw

set_option linter.unusedVariables false
set_option linter.unusedSimpArgs false
set_option maxRecDepth 100000
namespace Go.Sw.Piece
open Go.Sw.Any Go.Sw.Codec
open Go.Sw.Tree (iv s_putAll s_newP s_getP s_getT s_putP eqI_self Placed cell_own wp_whileG minI_eq)
variable {P : Program} {S : Ids} {h : Heap} {Q : Nat → List Value → Heap → Prop}
def basB (s : Sl) (i : Nat) : Prop := ∃ a, s.base = some a ∧ a.block = i
theorem basB_lt {n : Nat} {k : IntKind} {s : Sl} {l : List Int} (o : OwnL n k h s l) {i : Nat} (hi : basB s i) : n ≤ i ∧ i < h.size := by
 obtain ⟨a, ha, rfl⟩ := hi
 exact o.own.lt ha
theorem s_newB {vs : List Value} {K : Addr → Prog} (hl : vs.length ≤ 1000) (hk : ∀ h', Ext h h' → Own h.size 1 h' ⟨some ⟨h.size, 0, none⟩, vs.length, vs.length⟩ vs → wp P (K ⟨h.size, 0, none⟩) h' Q) : wp P (.alloc vs K) h Q :=
 fun el => hk _ (Ext.push ..) (own_alloc (by simp) (Nat.le_refl _) (by omega))
structure FamR (k : IntKind) (n : Nat) (h : Heap) (m : Int) (l g1 g2 g3 : Sl) (c c3 : Nat) : Prop where
 l : OwnL n k h l (List.replicate c m)
 g1 : OwnL n k h g1 (List.replicate (c + 1) m)
 g2 : OwnL n k h g2 (List.replicate (c + 2) m)
 g3 : OwnL n k h g3 (List.replicate c3 m)
theorem s_marks {n bytes : Nat} {k : IntKind} {l : Sl} {A : List Int} {m : Int} {K : Sl → Sl → Sl → Prog} {Y : Prog} (o : OwnL n k h l A) (hn : n ≤ h.size) (hm : fitsI k m) (hA : A.length ≤ 1000000) (hb : bytes ≤ 8)
  (hk : ∀ g1 g2 g3 h', Chg (basB l) h h' → FamR k n h' m l g1 g2 g3 A.length (A.length + 3) → (∀ i, basB g1 i ∨ basB g2 i ∨ basB g3 i → basB l i ∨ h.size ≤ i) → wp P (K g1 g2 g3) h' Q) :
  wp P (.bind (.loop [.one (.int .i64)] ((0 : Int), ()) fun (r : Int × Unit) =>
    ifB (ltI r.1 (natI l.len)) (grd (andB (someB l.base) (inB r.1 l.len)) <| .store (shiftTo l.base (mulN (toN r.1) 1)) [.int k m] <| .ret 0 [.int .i64 (addI .i64 r.1 1)]) <| .ret 2 []) fun (t : Nat) (vs : List Value) =>
   ifB (eqN t 2) (.cast [] vs fun (_ : Unit) => .alloc [.int k m] fun (a50 : Addr) => .append 1 bytes [.int k 0] l ⟨some a50, 1, 1⟩ fun (l51 : Sl) => .alloc [.int k m, .int k m] fun (a52 : Addr) => .append 1 bytes [.int k 0] l ⟨some a52, 2, 2⟩ fun (l53 : Sl) =>
    .alloc [.int k m, .int k m, .int k m] fun (a54 : Addr) => .append 1 bytes [.int k 0] l ⟨some a54, 3, 3⟩ fun (l55 : Sl) => K l51 l53 l55) Y) h Q := by
 have ll := o.len
 have lc := o.own.2.1
 have lm := o.own.2.2.1
 have lb : ∀ i, basB l i → n ≤ i ∧ i < h.size := fun i hi => basB_lt o hi
 refine wp_while (fun (r : Int × Unit) h' => ∃ i : Nat, i ≤ l.len ∧ r.1 = (i : Int) ∧ Chg (basB l) h h' ∧ OwnL n k h' ⟨l.base, i, l.cap⟩ (List.replicate i m)) (fun r _ => (l.len - r.1).toNat)
  (fun tag vs h' => tag = 2 ∧ vs = [] ∧ Chg (basB l) h h' ∧ OwnL n k h' l (List.replicate l.len m)) ⟨0, Nat.zero_le _, rfl, Chg.refl _ _, ?_⟩ ?_ ?_
 ·obtain ⟨a1, a2, a3, a4⟩ := o.own
  refine ⟨⟨rfl, Nat.zero_le _, a3, ?_⟩, by intro y hy; simp at hy⟩
  cases hb : l.base with
  | none => rw [hb] at a4; exact a4
  | some a =>
   rw [hb] at a4
   obtain ⟨c1, c2, c3, cs, el, c4, c5, c6⟩ := a4
   exact ⟨c1, c2, c3, cs, el, c4, c5, fun i v hv => by simp at hv⟩
 ·rintro ⟨(r : Int), u⟩ h2 ⟨i, hi, hr, c2, o2⟩
  dsimp only at hr ⊢
  subst hr
  refine wp_ifB (fun hc => ?_) fun hc => ?_
  ·rw [ltI_iff, natI_def] at hc
   refine s_markC o2 (by omega) (by omega) hm fun h3 o3 u3 => ?_
   rw [add_ok (by omega) (by omega)]
   have g3 : Chg (basB l) h2 h3 := Chg.of_upd u3 fun x hx _ => ⟨x, hx, rfl⟩
   exact s_ret ⟨fun _ => ⟨((i : Int) + 1, ()), rfl, ⟨i + 1, by omega, by dsimp only; omega, c2.trans g3 fun _ _ f => f, o3⟩, by dsimp only; omega⟩, fun hh => absurd rfl hh⟩
  ·rw [ltI_not, natI_def] at hc
   have : i = l.len := by omega
   subst this
   exact s_ret ⟨fun hh => absurd hh (by decide), fun _ => ⟨rfl, rfl, c2, o2⟩⟩
 rintro tag vs h2 ⟨rfl, rfl, c2, ol⟩
 refine s_tag (s_cast0 ?_)
 have q2 := c2.1
 rw [ll] at ol
 have mul8 : ∀ {x : Nat}, x ≤ 1000003 → x * bytes ≤ 140737488355328 := fun {x} hx => Nat.le_trans (Nat.mul_le_mul hx hb) (by decide)
 have rep : ∀ {g g' : Heap} {a j : Nat} {vs : List Value}, vs = List.replicate j (.int k m) → Ext g g' → Own g.size 1 g' ⟨some ⟨g.size, 0, none⟩, j, j⟩ vs → Lst k g' ⟨some ⟨g.size, 0, none⟩, j, j⟩ (List.replicate j m) := fun {g g' a j vs} hv e o => by
  have o' : OwnL g.size k g' ⟨some ⟨g.size, 0, none⟩, j, j⟩ (List.replicate j m) := ⟨by rw [List.map_replicate, ← hv]; exact o, by intro y hy; rw [List.eq_of_mem_replicate hy]; exact hm⟩
  exact o'.lst
 refine s_newB (by simp) fun h3 e3 o3 => s_appC (ol.ext e3) (by have := e3.size; omega) (rep (a := 0) (j := 1) rfl e3 o3) hm (mul8 (by omega)) (by omega) fun g1 h4 og1 u4 b4 st4 => ?_
 have q3 := e3.size
 have ol4 := st4.own (ol.ext e3)
 have c4 : Chg (basB l) h h4 := (c2.ext e3).upd u4 fun y hy _ => ⟨y, hy, rfl⟩
 have q4 : h3.size ≤ h4.size := u4.1
 refine s_newB (by simp) fun h5 e5 o5 => s_appC (ol4.ext e5) (by have := e5.size; omega) (rep (a := 0) (j := 2) rfl e5 o5) hm (mul8 (by omega)) (by omega) fun g2 h6 og2 u6 b6 st6 => ?_
 have q5 := e5.size
 have ol6 := st6.own (ol4.ext e5)
 have og16 := st6.own (og1.ext e5)
 have c6 : Chg (basB l) h h6 := (c4.ext e5).upd u6 fun y hy _ => ⟨y, hy, rfl⟩
 have q6 : h5.size ≤ h6.size := u6.1
 refine s_newB (by simp) fun h7 e7 o7 => s_appC (ol6.ext e7) (by have := e7.size; omega) (rep (a := 0) (j := 3) rfl e7 o7) hm (mul8 (by omega)) (by omega) fun g3 h8 og3 u8 b8 st8 => ?_
 have q7 := e7.size
 refine hk g1 g2 g3 h8 ((c6.ext e7).upd u8 fun y hy _ => ⟨y, hy, rfl⟩) ⟨st8.own (ol6.ext e7), st8.own (og16.ext e7), st8.own (og2.ext e7), og3⟩ fun i hi => ?_
 rcases hi with ⟨y, hy, rfl⟩ | ⟨y, hy, rfl⟩ | ⟨y, hy, rfl⟩
 ·rcases b4 y hy with h | h
  ·exact .inl ⟨y, h, rfl⟩
  ·exact .inr (by omega)
 ·rcases b6 y hy with h | h
  ·exact .inl ⟨y, h, rfl⟩
  ·exact .inr (by omega)
 ·rcases b8 y hy with h | h
  ·exact .inl ⟨y, h, rfl⟩
  ·exact .inr (by omega)
theorem s_more {n bytes : Nat} {k : IntKind} {l g1 g2 g3 : Sl} {c c3 : Nat} {m cnt : Int} {h0 : Heap} {K : Sl × Unit → Prog} {Y : Prog} (f : FamR k n h m l g1 g2 g3 c c3) (ch : Chg (basB l) h0 h) (hn : n ≤ h0.size) (hm : fitsI k m) (hc3 : c3 ≤ 1000100) (hb : bytes ≤ 8) (h1 : 0 ≤ cnt) (h2 : cnt ≤ 70000)
  (b3 : ∀ i, basB g1 i ∨ basB g2 i ∨ basB g3 i → basB l i ∨ h0.size ≤ i)
  (hk : ∀ g3' c3' h', Chg (basB l) h0 h' → h.size ≤ h'.size → FamR k n h' m l g1 g2 g3' c c3' → c3' ≤ 1070100 → (∀ i, basB g1 i ∨ basB g2 i ∨ basB g3' i → basB l i ∨ h0.size ≤ i) → wp P (K (g3', ())) h' Q) :
  wp P (.bind (.loop [.one .sl, .one (.int .i64)] (g3, (cnt, ())) fun (r : Sl × Int × Unit) =>
    ifB (gtI r.2.1 0) (.alloc [.int k m] fun (a : Addr) => .append 1 bytes [.int k 0] r.1 ⟨some a, 1, 1⟩ fun (l78 : Sl) => .ret 0 [.slice l78.base l78.len l78.cap, .int .i64 (subI .i64 r.2.1 1)]) <| .ret 4 [.slice r.1.base r.1.len r.1.cap]) fun (t : Nat) (vs : List Value) =>
   ifB (eqN t 4) (.cast [.one .sl] vs K) Y) h Q := by
 have q0 := ch.1
 have mul8 : ∀ {x : Nat}, x ≤ 1070200 → x * bytes ≤ 140737488355328 := fun {x} hx => Nat.le_trans (Nat.mul_le_mul hx hb) (by decide)
 refine wp_while (fun (r : Sl × Int × Unit) h' => ∃ i : Nat, (i : Int) ≤ cnt ∧ r.2.1 = cnt - i ∧ Chg (basB l) h0 h' ∧ h.size ≤ h'.size ∧ FamR k n h' m l g1 g2 r.1 c (c3 + i) ∧ ∀ i, basB g1 i ∨ basB g2 i ∨ basB r.1 i → basB l i ∨ h0.size ≤ i) (fun r _ => r.2.1.toNat)
  (fun tag vs h' => tag = 4 ∧ ∃ (r : Sl) (i : Nat), vs = [slv r] ∧ i ≤ 70000 ∧ Chg (basB l) h0 h' ∧ h.size ≤ h'.size ∧ FamR k n h' m l g1 g2 r c (c3 + i) ∧ ∀ i, basB g1 i ∨ basB g2 i ∨ basB r i → basB l i ∨ h0.size ≤ i) ⟨0, h1, by dsimp only; omega, ch, Nat.le_refl _, f, b3⟩ ?_ ?_
 ·rintro ⟨(r : Sl), (i' : Int), u⟩ h3 ⟨i, hi, hi', c3', q3, f3, b3'⟩
  dsimp only at hi' f3 b3' ⊢
  refine wp_ifB (fun hc => ?_) fun hc => ?_
  ·rw [gtI_iff] at hc
   refine s_newB (by simp) fun h4 e4 o4 => ?_
   have o4' : OwnL h3.size k h4 ⟨some ⟨h3.size, 0, none⟩, 1, 1⟩ (List.replicate 1 m) := ⟨o4, by intro y hy; rw [List.eq_of_mem_replicate hy]; exact hm⟩
   have q4 := e4.size
   refine s_appC (f3.g3.ext e4) (by omega) o4'.lst hm (mul8 (by omega)) (by omega) fun r2 h5 o5 u5 b5 st5 => ?_
   rw [sub_ok (by omega) (by omega)]
   have q5 : h4.size ≤ h5.size := u5.1
   refine s_ret ⟨fun _ => ⟨(r2, i' - 1, ()), rfl, ⟨i + 1, by omega, by dsimp only; omega, ?_, by omega, ⟨st5.own (f3.l.ext e4), st5.own (f3.g1.ext e4), st5.own (f3.g2.ext e4), o5⟩, fun j hj => ?_⟩, by dsimp only; omega⟩, fun hh => absurd rfl hh⟩
   ·have g5 : Chg (fun j => basB l j ∨ h0.size ≤ j) h4 h5 := Chg.of_upd u5 fun x hx _ => b3' _ (.inr (.inr ⟨x, hx, rfl⟩))
    exact (c3'.ext e4).trans g5 fun j hj f => f.elim id fun f => by omega
   ·rcases hj with hj | hj | ⟨y, hy, rfl⟩
    ·exact b3' j (.inl hj)
    ·exact b3' j (.inr (.inl hj))
    ·rcases b5 y hy with h | h
     ·exact b3' _ (.inr (.inr ⟨y, h, rfl⟩))
     ·have := c3'.1; exact .inr (by omega)
  ·rw [gtI_not] at hc
   exact s_ret ⟨fun hh => absurd hh (by decide), fun _ => ⟨rfl, r, i, rfl, by omega, c3', q3, f3, b3'⟩⟩
 ·rintro tag vs h3 ⟨rfl, r, i, rfl, hi, c3', q3, f3, b3'⟩
  exact s_tag (wp_cast (tys := [.one .sl]) (r, ()) rfl (hk r _ h3 c3' q3 f3 (by omega) b3'))
theorem c_reach (x : Int) : Gives P (F_law5_reach S x) [.one (.int .i64)] h fun (y : Int × Unit) _ => 0 ≤ y.1 ∧ y.1 ≤ 70000 := by
 unfold F_law5_reach Gives
 refine wp_ifB (fun _ => s_ret ⟨rfl, Ext.refl _, (_, ()), rfl, by decide, by decide⟩) fun _ => wp_ifB (fun _ => s_ret ⟨rfl, Ext.refl _, (_, ()), rfl, by decide, by decide⟩) fun _ => s_ret ⟨rfl, Ext.refl _, (_, ()), rfl, by decide, by decide⟩
end Go.Sw.Piece

set_option linter.unusedVariables false
set_option linter.unusedSimpArgs false
set_option maxRecDepth 100000
namespace Go.Sw.Piece
open Go.Sw.Any Go.Sw.Codec
open Go.Sw.Tree (iv s_putAll s_newP s_getP s_getT s_putP eqI_self Placed cell_own wp_whileG minI_eq)
variable {P : Program} {S : Ids} {h : Heap} {Q : Nat → List Value → Heap → Prop}
structure RackR (k : IntKind) (n : Nat) (h : Heap) (rho : Nat → Nat) (rs rm : Nat) (ss sm : Sl) (I : List (Sl × Int)) : Prop where
 os : Own n 1 h ss (I.map fun x => slv x.1)
 om : OwnL n k h sm (I.map fun x => x.2)
 rs : ∀ i, basB ss i → rho i = rs
 rm : ∀ i, basB sm i → rho i = rm
 it : ∀ x, x ∈ I → (∃ c, OwnL n k h x.1 (List.replicate c x.2)) ∧ ∀ i, basB x.1 i → rho i = 10
structure BkR (n : Nat) (h : Heap) (rho : Nat → Nat) : Prop where
 lo : ∀ i, h.size ≤ i → rho i = 0
 ge : ∀ i, rho i ≠ 0 → n ≤ i
theorem BkR.mono {n : Nat} {h' : Heap} {rho : Nat → Nat} (b : BkR n h rho) (q : h.size ≤ h'.size) : BkR n h' rho := ⟨fun i hi => b.lo i (Nat.le_trans q hi), b.ge⟩
variable {k : IntKind} {n rs rm : Nat} {rho : Nat → Nat} {ss sm : Sl} {I : List (Sl × Int)}
theorem RackR.chg {F : Nat → Prop} {h' : Heap} {rho' : Nat → Nat} (r : RackR k n h rho rs rm ss sm I) (c : Chg F h h') (hF : ∀ i, F i → rho i ≠ rs ∧ rho i ≠ rm ∧ rho i ≠ 10) (he : ∀ i, 0 < rho i → rho i < 1000000 → rho' i = rho i) (h1 : 0 < rs ∧ rs < 1000000) (h2 : 0 < rm ∧ rm < 1000000) : RackR k n h' rho' rs rm ss sm I := by
 refine ⟨c.own r.os fun x hx f => (hF _ f).1 (r.rs _ ⟨x, hx, rfl⟩), c.ownL r.om fun x hx f => (hF _ f).2.1 (r.rm _ ⟨x, hx, rfl⟩), fun i hi => ?_, fun i hi => ?_, fun x hx => ⟨?_, fun i hi => ?_⟩⟩
 ·have := r.rs i hi; rw [he i (by omega) (by omega)]; exact this
 ·have := r.rm i hi; rw [he i (by omega) (by omega)]; exact this
 ·obtain ⟨c', o⟩ := (r.it x hx).1
  exact ⟨c', c.ownL o fun y hy f => (hF _ f).2.2 ((r.it x hx).2 _ ⟨y, hy, rfl⟩)⟩
 ·have := (r.it x hx).2 i hi; rw [he i (by omega) (by omega)]; exact this
structure PutR (k : IntKind) (n : Nat) (h h' : Heap) (rho rho' : Nat → Nat) (rs rm j jm : Nat) (sh : Addr) (vs : List Value) (l : Sl) (I : List (Sl × Int)) (ss' sm' : Sl) (I' : List (Sl × Int)) : Prop where
 chg : Chg (fun i => basB l i ∨ rho i = rs ∨ rho i = rm ∨ rho i = 5) h h'
 r : RackR k n h' rho' rs rm ss' sm' I'
 len : I'.length = I.length + 4
 oo : Own n 1 h' ⟨some sh, 4, 4⟩ ((vs.set j (slv ss')).set jm (slv sm'))
 old : ∀ i, rho i ≠ 0 → rho' i = rho i
 none : ∀ i, i < h.size → rho i = 0 → ¬ basB l i → rho' i = 0
 bk : BkR n h' rho'
 pos : ∀ i, basB l i → rho' i = 10
theorem c_putQ {sh : Addr} {vs : List Value} {bytes j jm : Nat} {l : Sl} {A : List Int} {m : Int} (r : RackR k n h rho rs rm ss sm I) (oo : Own n 1 h ⟨some sh, 4, 4⟩ vs) (hvj : vs[j]? = some (slv ss)) (hvm : vs[jm]? = some (slv sm)) (hj : j ≠ jm) (rsh : rho sh.block = 5)
  (bk : BkR n h rho) (hr : rs ≠ 0 ∧ rs ≠ 5 ∧ rs ≠ 10 ∧ rm ≠ 0 ∧ rm ≠ 5 ∧ rm ≠ 10 ∧ rs ≠ rm) (ol : OwnL n k h l A) (fr : ∀ i, basB l i → rho i = 0) (hn : n ≤ h.size) (hA : A.length ≤ 1000000) (hI : I.length ≤ 1000000) (hm : fitsI k m) (hb : bytes ≤ 8) :
  wp P (.bind (.loop [.one (.int .i64)] ((0 : Int), ()) fun (r : Int × Unit) =>
    ifB (ltI r.1 (natI l.len)) (grd (andB (someB l.base) (inB r.1 l.len)) <| .store (shiftTo l.base (mulN (toN r.1) 1)) [.int k m] <| .ret 0 [.int .i64 (addI .i64 r.1 1)]) <| .ret 2 []) fun (t : Nat) (vs : List Value) =>
   ifB (eqN t 2) (.cast [] vs fun (_ : Unit) => .alloc [.int k m] fun (a50 : Addr) => .append 1 bytes [.int k 0] l ⟨some a50, 1, 1⟩ fun (l51 : Sl) => .alloc [.int k m, .int k m] fun (a52 : Addr) => .append 1 bytes [.int k 0] l ⟨some a52, 2, 2⟩ fun (l53 : Sl) =>
    .alloc [.int k m, .int k m, .int k m] fun (a54 : Addr) => .append 1 bytes [.int k 0] l ⟨some a54, 3, 3⟩ fun (l55 : Sl) =>
    grd (someB (some sh)) <| grd (someB (some sh)) <| .load (.one .sl) (shiftTo (some sh) j) fun (l56 : Sl) => .call (F_law5_reach S (natI l56.len)) [.one (.int .i64)] fun (r57 : Int × Unit) =>
    .bind (.loop [.one .sl, .one (.int .i64)] (l55, (r57.1, ())) fun (r : Sl × Int × Unit) =>
     ifB (gtI r.2.1 0) (.alloc [.int k m] fun (a : Addr) => .append 1 bytes [.int k 0] r.1 ⟨some a, 1, 1⟩ fun (l78 : Sl) => .ret 0 [.slice l78.base l78.len l78.cap, .int .i64 (subI .i64 r.2.1 1)]) <| .ret 4 [.slice r.1.base r.1.len r.1.cap]) fun (t : Nat) (vs : List Value) =>
    ifB (eqN t 4) (.cast [.one .sl] vs fun (r81 : Sl × Unit) =>
     grd (someB (some sh)) <| grd (someB (some sh)) <| .load (.one .sl) (shiftTo (some sh) j) fun (l82 : Sl) =>
     .alloc [.slice l.base l.len l.cap, .slice l51.base l51.len l51.cap, .slice l53.base l53.len l53.cap, .slice r81.1.base r81.1.len r81.1.cap] fun (a83 : Addr) =>
     .append 1 24 [.slice none 0 0] l82 ⟨some a83, 4, 4⟩ fun (l84 : Sl) => grd (someB (some sh)) <| grd (someB (some sh)) <| .store (shiftTo (some sh) j) [.slice l84.base l84.len l84.cap] <|
     grd (someB (some sh)) <| grd (someB (some sh)) <| .load (.one .sl) (shiftTo (some sh) jm) fun (l85 : Sl) => .alloc [.int k m, .int k m, .int k m, .int k m] fun (a86 : Addr) =>
     .append 1 bytes [.int k 0] l85 ⟨some a86, 4, 4⟩ fun (l87 : Sl) => grd (someB (some sh)) <| grd (someB (some sh)) <| .store (shiftTo (some sh) jm) [.slice l87.base l87.len l87.cap] <| .ret 0 []) .fail) .fail) h
   fun tg vs' h' => tg = 0 ∧ vs' = [] ∧ ∃ rho' ss' sm' I', PutR k n h h' rho rho' rs rm j jm sh vs l I ss' sm' I' := by
 classical
 have hjl : j < vs.length := (List.getElem?_eq_some_iff.1 hvj).1
 have hjml : jm < vs.length := (List.getElem?_eq_some_iff.1 hvm).1
 have shl : sh.block < h.size := (oo.lt rfl).2
 have lb : ∀ i, basB l i → n ≤ i ∧ i < h.size := fun i hi => basB_lt ol hi
 refine s_marks ol hn hm hA hb fun g1 g2 g3 h1 c1 f1 b1 => ?_
 have nsh : ¬ basB l sh.block := fun hh => by have := fr _ hh; omega
 have oo1 : Own n 1 h1 ⟨some sh, 4, 4⟩ vs := c1.own oo fun x hx f => by cases hx; exact nsh f
 refine wp_grd rfl (wp_grd rfl (s_cell (b := .sl) ss rfl oo1.cells hvj (wp_call (c_reach _) fun ⟨(cnt : Int), _⟩ h2 e2 ⟨hc1, hc2⟩ => ?_)))
 have f2 : FamR k n h2 m l g1 g2 g3 A.length (A.length + 3) := ⟨f1.l.ext e2, f1.g1.ext e2, f1.g2.ext e2, f1.g3.ext e2⟩
 refine s_more f2 (c1.ext e2) hn hm (by omega) hb hc1 hc2 b1 fun g3' c3' h3 c3 q3 f3 hc3 b3 => ?_
 have oo3 : Own n 1 h3 ⟨some sh, 4, 4⟩ vs := c3.own oo fun x hx f => by cases hx; exact nsh f
 have q03 := c3.1
 have nrs : ∀ i, rho i ≠ 0 → ¬ basB l i := fun i hi hh => hi (fr i hh)
 have os3 : Own n 1 h3 ss (I.map fun x => slv x.1) := c3.own r.os fun x hx => nrs _ (by have := r.rs _ ⟨x, hx, rfl⟩; omega)
 have om3 : OwnL n k h3 sm (I.map fun x => x.2) := c3.ownL r.om fun x hx => nrs _ (by have := r.rm _ ⟨x, hx, rfl⟩; omega)
 have fam : ∀ i, basB l i ∨ basB g1 i ∨ basB g2 i ∨ basB g3' i → rho i = 0 ∧ i < h3.size ∧ n ≤ i := fun i hi => by
  have h1 : basB l i ∨ h.size ≤ i := by rcases hi with hi | hi; exact .inl hi; exact b3 i hi
  have h0 : rho i = 0 := by rcases h1 with h1 | h1; exact fr i h1; exact bk.lo i h1
  refine ⟨h0, ?_, ?_⟩
  ·rcases hi with hi | hi | hi | hi
   ·exact (basB_lt f3.l hi).2
   ·exact (basB_lt f3.g1 hi).2
   ·exact (basB_lt f3.g2 hi).2
   ·exact (basB_lt f3.g3 hi).2
  ·rcases hi with hi | hi | hi | hi
   ·exact (basB_lt f3.l hi).1
   ·exact (basB_lt f3.g1 hi).1
   ·exact (basB_lt f3.g2 hi).1
   ·exact (basB_lt f3.g3 hi).1
 refine wp_grd rfl (wp_grd rfl (s_cell (b := .sl) ss rfl oo3.cells hvj (s_newB (by simp) fun h4 e4 o4 => ?_)))
 have q4 := e4.size
 have ls : ss.len = I.length := by have := os3.1; rw [Nat.mul_one, List.length_map] at this; exact this
 refine wp_append (os3.ext e4) (by omega) o4.rd (by intro v hv; simp at hv; rcases hv with rfl | rfl | rfl | rfl <;> rfl) rfl (by rw [ls]; show (I.length + 4) * 24 ≤ _; omega) (by rw [ls]; show I.length + 4 < _; omega) fun ss' h5 os5 _ u5 b5 => ?_
 have q5 : h4.size ≤ h5.size := u5.1
 have nss : ∀ i, basB ss' i → rho i = rs ∨ h4.size ≤ i := fun i ⟨a, ha, hi⟩ => by
  rcases b5 a ha with h | h
  ·exact .inl (r.rs i ⟨a, h, hi⟩)
  ·exact .inr (by omega)
 have g5 : Chg (fun i => rho i = rs ∨ rho i = rm ∨ rho i = 5) h3 h5 := (Chg.of_ext e4).upd u5 fun y hy _ => .inl (r.rs _ ⟨y, hy, rfl⟩)
 have oo5 : Own n 1 h5 ⟨some sh, 4, 4⟩ vs := ((Chg.of_upd (F := fun i => rho i = rs) u5 fun y hy _ => r.rs _ ⟨y, hy, rfl⟩).own (oo3.ext e4)) fun x hx f => by cases hx; omega
 refine wp_grd rfl (wp_grd rfl (s_setC' (slv ss') oo5 hjl rfl fun h6 oo6 u6 => ?_))
 have q6 : h5.size ≤ h6.size := u6.1
 have k6 : Chg (fun i => i = sh.block) h5 h6 := Chg.of_upd u6 fun y hy _ => by cases hy; rfl
 have g6 : Chg (fun i => rho i = rs ∨ rho i = rm ∨ rho i = 5) h3 h6 := g5.upd u6 fun y hy _ => by cases hy; exact .inr (.inr rsh)
 have os6 : Own n 1 h6 ss' (I.map (fun x => slv x.1) ++ [slv l, slv g1, slv g2, slv g3']) := k6.own os5 fun x hx f => by
  rcases nss _ ⟨x, hx, rfl⟩ with h | h
  ·rw [f] at h; omega
  ·omega
 have om5 : OwnL n k h5 sm (I.map fun x => x.2) := (Chg.of_upd (F := fun i => rho i = rs) u5 fun y hy _ => r.rs _ ⟨y, hy, rfl⟩).ownL (om3.ext e4) fun x hx f => by have := r.rm _ ⟨x, hx, rfl⟩; omega
 have om6 : OwnL n k h6 sm (I.map fun x => x.2) := k6.ownL om5 fun x hx f => by have := r.rm _ ⟨x, hx, rfl⟩; rw [f] at this; omega
 have hvm' : (vs.set j (slv ss'))[jm]? = some (slv sm) := by rw [List.getElem?_set_ne hj]; exact hvm
 refine wp_grd rfl (wp_grd rfl (s_cell (b := .sl) sm rfl oo6.cells hvm' (s_newB (by simp) fun h7 e7 o7 => ?_)))
 have q7 := e7.size
 have lm : sm.len = I.length := by have := om6.len; rw [List.length_map] at this; exact this
 have o7' : OwnL h6.size k h7 ⟨some ⟨h6.size, 0, none⟩, 4, 4⟩ [m, m, m, m] := ⟨o7, by intro y hy; simp at hy; rw [hy]; exact hm⟩
 have mul8 : ∀ {x : Nat}, x ≤ 1070200 → x * bytes ≤ 140737488355328 := fun {x} hx => Nat.le_trans (Nat.mul_le_mul hx hb) (by decide)
 refine s_append (om6.ext e7) (by omega) o7'.lst (mul8 (by rw [List.length_map]; show I.length + 4 ≤ _; omega)) (by rw [List.length_map]; show I.length + 4 < _; omega) fun sm' h8 k8 om8 u8 b8 => ?_
 have q8 : h7.size ≤ h8.size := u8.1
 have nsm : ∀ i, basB sm' i → rho i = rm ∨ h7.size ≤ i := fun i ⟨a, ha, hi⟩ => by
  rcases b8 a ha with h | h
  ·exact .inl (r.rm i ⟨a, h, hi⟩)
  ·exact .inr (by omega)
 have k8' : Chg (fun i => rho i = rm) h7 h8 := Chg.of_upd u8 fun y hy _ => r.rm _ ⟨y, hy, rfl⟩
 have g8 : Chg (fun i => rho i = rs ∨ rho i = rm ∨ rho i = 5) h3 h8 := (g6.ext e7).upd u8 fun y hy _ => .inr (.inl (r.rm _ ⟨y, hy, rfl⟩))
 have oo8 : Own n 1 h8 ⟨some sh, 4, 4⟩ (vs.set j (slv ss')) := k8'.own (oo6.ext e7) fun x hx f => by cases hx; omega
 have os8 : Own n 1 h8 ss' (I.map (fun x => slv x.1) ++ [slv l, slv g1, slv g2, slv g3']) := k8'.own (os6.ext e7) fun x hx f => by
  rcases nss _ ⟨x, hx, rfl⟩ with h | h
  ·omega
  ·have := bk.lo x.block (by omega); omega
 refine wp_grd rfl (wp_grd rfl (s_setC' (slv sm') oo8 (by rw [List.length_set]; exact hjml) rfl fun h9 oo9 u9 => s_ret ⟨rfl, rfl, ?_⟩))
 have q9 : h8.size ≤ h9.size := u9.1
 have k9 : Chg (fun i => i = sh.block) h8 h9 := Chg.of_upd u9 fun y hy _ => by cases hy; rfl
 have g9 : Chg (fun i => rho i = rs ∨ rho i = rm ∨ rho i = 5) h3 h9 := g8.upd u9 fun y hy _ => by cases hy; exact .inr (.inr rsh)
 have os9 : Own n 1 h9 ss' (I.map (fun x => slv x.1) ++ [slv l, slv g1, slv g2, slv g3']) := k9.own os8 fun x hx f => by
  rcases nss _ ⟨x, hx, rfl⟩ with h | h
  ·rw [f] at h; omega
  ·omega
 have om9 : OwnL n k h9 sm' (I.map (fun x => x.2) ++ [m, m, m, m]) := k9.ownL om8 fun x hx f => by
  rcases nsm _ ⟨x, hx, rfl⟩ with h | h
  ·rw [f] at h; omega
  ·omega
 have keep0 : ∀ {i : Nat}, rho i = 0 → ¬ (rho i = rs ∨ rho i = rm ∨ rho i = 5) := fun {i} h0 f => by omega
 have f9 : FamR k n h9 m l g1 g2 g3' A.length c3' := ⟨g9.ownL f3.l fun x hx => keep0 (fam _ (.inl ⟨x, hx, rfl⟩)).1, g9.ownL f3.g1 fun x hx => keep0 (fam _ (.inr (.inl ⟨x, hx, rfl⟩))).1, g9.ownL f3.g2 fun x hx => keep0 (fam _ (.inr (.inr (.inl ⟨x, hx, rfl⟩)))).1, g9.ownL f3.g3 fun x hx => keep0 (fam _ (.inr (.inr (.inr ⟨x, hx, rfl⟩)))).1⟩
 let rho' : Nat → Nat := fun i => if basB l i ∨ basB g1 i ∨ basB g2 i ∨ basB g3' i then 10 else if basB ss' i then rs else if basB sm' i then rm else rho i
 have old : ∀ i, rho i ≠ 0 → rho' i = rho i := fun i hi => by
  show (if basB l i ∨ basB g1 i ∨ basB g2 i ∨ basB g3' i then 10 else if basB ss' i then rs else if basB sm' i then rm else rho i) = rho i
  have il : i < h.size := Classical.byContradiction fun hh => hi (bk.lo i (by omega))
  rw [if_neg fun hh => hi (fam i hh).1]
  by_cases h1 : basB ss' i
  ·rw [if_pos h1]
   rcases nss i h1 with h | h
   ·exact h.symm
   ·omega
  ·rw [if_neg h1]
   by_cases h2 : basB sm' i
   ·rw [if_pos h2]
    rcases nsm i h2 with h | h
    ·exact h.symm
    ·omega
   ·rw [if_neg h2]
 refine ⟨rho', ss', sm', I ++ [(l, m), (g1, m), (g2, m), (g3', m)], ?_, ⟨by rw [List.map_append]; exact os9, by rw [List.map_append]; exact om9, fun i hi => ?_, fun i hi => ?_, fun x hx => ?_⟩, by rw [List.length_append]; rfl, oo9, old, fun i hi h0 hl => ?_, ⟨fun i hi => ?_, fun i hi => ?_⟩, fun i hi => if_pos (.inl hi)⟩
 ·exact (c3.mono fun i _ f => .inl f).trans (g9.mono fun i _ f => .inr f) fun i hi f => f
 ·show (if basB l i ∨ basB g1 i ∨ basB g2 i ∨ basB g3' i then 10 else if basB ss' i then rs else if basB sm' i then rm else rho i) = rs
  rw [if_neg fun hh => by
   have := fam i hh
   rcases nss i hi with h | h <;> omega, if_pos hi]
 ·show (if basB l i ∨ basB g1 i ∨ basB g2 i ∨ basB g3' i then 10 else if basB ss' i then rs else if basB sm' i then rm else rho i) = rm
  have hsm := nsm i hi
  rw [if_neg fun hh => by
   have := fam i hh
   rcases hsm with h | h <;> omega, if_neg fun hh => by
   have h5 : i < h5.size := by obtain ⟨a, ha, hi'⟩ := hh; have := (os5.lt ha).2; omega
   rcases hsm with h | h
   ·rcases nss i hh with h' | h'
    ·omega
    ·have := bk.lo i (by omega); omega
   ·omega, if_pos hi]
 ·rcases List.mem_append.1 hx with hx | hx
  ·obtain ⟨⟨c, o⟩, hr'⟩ := r.it x hx
   refine ⟨⟨c, g9.ownL (c3.ownL o fun y hy => nrs _ (by have := hr' _ ⟨y, hy, rfl⟩; omega)) fun y hy f => by have := hr' _ ⟨y, hy, rfl⟩; omega⟩, fun i hi => ?_⟩
   have := hr' i hi
   rw [old i (by omega)]; exact this
  ·have pos : ∀ i, basB l i ∨ basB g1 i ∨ basB g2 i ∨ basB g3' i → rho' i = 10 := fun i hi => if_pos hi
   simp at hx
   rcases hx with rfl | rfl | rfl | rfl
   ·exact ⟨⟨_, f9.l⟩, fun i hi => pos i (.inl hi)⟩
   ·exact ⟨⟨_, f9.g1⟩, fun i hi => pos i (.inr (.inl hi))⟩
   ·exact ⟨⟨_, f9.g2⟩, fun i hi => pos i (.inr (.inr (.inl hi)))⟩
   ·exact ⟨⟨_, f9.g3⟩, fun i hi => pos i (.inr (.inr (.inr hi)))⟩
 ·show (if basB l i ∨ basB g1 i ∨ basB g2 i ∨ basB g3' i then 10 else if basB ss' i then rs else if basB sm' i then rm else rho i) = 0
  rw [if_neg fun hh => by
   rcases hh with hh | hh
   ·exact hl hh
   ·rcases b3 i hh with hh | hh
    ·exact hl hh
    ·omega, if_neg fun hh => by rcases nss i hh with h | h <;> omega, if_neg fun hh => by rcases nsm i hh with h | h <;> omega]
  exact h0
 ·show (if basB l i ∨ basB g1 i ∨ basB g2 i ∨ basB g3' i then 10 else if basB ss' i then rs else if basB sm' i then rm else rho i) = 0
  rw [if_neg fun hh => by have := (fam i hh).2.1; omega, if_neg fun ⟨a, ha, hh⟩ => by have := (os9.lt ha).2; omega, if_neg fun hh => by have := (basB_lt om9 hh).2; omega]
  exact bk.lo i (by omega)
 ·have hi : (if basB l i ∨ basB g1 i ∨ basB g2 i ∨ basB g3' i then 10 else if basB ss' i then rs else if basB sm' i then rm else rho i) ≠ 0 := hi
  by_cases h1 : basB l i ∨ basB g1 i ∨ basB g2 i ∨ basB g3' i
  ·exact (fam i h1).2.2
  ·rw [if_neg h1] at hi
   by_cases h2 : basB ss' i
   ·obtain ⟨a, ha, rfl⟩ := h2; exact (os9.lt ha).1
   ·rw [if_neg h2] at hi
    by_cases h3 : basB sm' i
    ·exact (basB_lt om9 h3).1
    ·rw [if_neg h3] at hi; exact bk.ge i hi
end Go.Sw.Piece

set_option linter.unusedVariables false
set_option linter.unusedSimpArgs false
set_option maxRecDepth 100000
namespace Go.Sw.Piece
open Go.Sw.Any Go.Sw.Codec
open Go.Sw.Tree (iv s_putAll s_newP s_getP s_getT s_putP eqI_self Placed cell_own wp_whileG minI_eq)
variable {P : Program} {S : Ids} {h : Heap} {Q : Nat → List Value → Heap → Prop}
structure ShR (n : Nat) (h : Heap) (rho : Nat → Nat) (sh : Addr) (si sb sm sq : Sl) (I B : List (Sl × Int)) : Prop where
 i : RackR .i64 n h rho 6 7 si sm I
 b : RackR .u8 n h rho 8 9 sb sq B
 oo : Own n 1 h ⟨some sh, 4, 4⟩ [slv si, slv sb, slv sm, slv sq]
 rsh : rho sh.block = 5
variable {n : Nat} {rho : Nat → Nat} {sh : Addr} {si sb sm sq : Sl} {I B : List (Sl × Int)}
theorem ShR.chg {F : Nat → Prop} {h' : Heap} {rho' : Nat → Nat} (s : ShR n h rho sh si sb sm sq I B) (c : Chg F h h') (hF : ∀ i, F i → rho i < 5 ∨ 10 < rho i) (he : ∀ i, 0 < rho i → rho i < 1000000 → rho' i = rho i) : ShR n h' rho' sh si sb sm sq I B :=
 ⟨s.i.chg c (fun i hi => by have := hF i hi; omega) he (by decide) (by decide), s.b.chg c (fun i hi => by have := hF i hi; omega) he (by decide) (by decide), c.own s.oo fun x hx f => by cases hx; have := hF _ f; have := s.rsh; omega, by rw [he _ (by rw [s.rsh]; decide) (by rw [s.rsh]; decide)]; exact s.rsh⟩
structure PutS (n : Nat) (h h' : Heap) (rho rho' : Nat → Nat) (sh : Addr) (l : Sl) (I B : List (Sl × Int)) (si' sb' sm' sq' : Sl) (I' B' : List (Sl × Int)) : Prop where
 s : ShR n h' rho' sh si' sb' sm' sq' I' B'
 li : I'.length ≤ I.length + 4
 lb : B'.length ≤ B.length + 4
 chg : Chg (fun i => basB l i ∨ (5 ≤ rho i ∧ rho i ≤ 9)) h h'
 old : ∀ i, rho i ≠ 0 → rho' i = rho i
 none : ∀ i, i < h.size → rho i = 0 → ¬ basB l i → rho' i = 0
 bk : BkR n h' rho'
 pos : ∀ i, basB l i → rho' i = 10
theorem c_put {l : Sl} {A : List Int} (s : ShR n h rho sh si sb sm sq I B) (bk : BkR n h rho) (ol : OwnL n .i64 h l A) (fr : ∀ i, basB l i → rho i = 0) (hn : n ≤ h.size) (hA : A.length ≤ 1000000) (hI : I.length ≤ 1000000) :
  wp P (F_shelf_put S (some sh) l) h fun tg vs h' => tg = 0 ∧ vs = [] ∧ ∃ rho' si' sb' sm' sq' I' B', PutS n h h' rho rho' sh l I B si' sb' sm' sq' I' B' := by
 unfold F_shelf_put
 refine wp_grd rfl (wp_grd rfl (s_cell (b := .sl) si rfl s.oo.cells rfl ?_))
 have li : si.len = I.length := by have := s.i.os.1; rw [Nat.mul_one, List.length_map] at this; exact this
 refine wp_mono _ (fun tg vs h' ⟨ht, hv, rho', ss', sm', I', p⟩ => ⟨ht, hv, rho', ss', sb, sm', sq, I', B, ⟨⟨p.r, ?_, p.oo, ?_⟩, by rw [p.len]; exact Nat.le_refl _, by omega, ?_, p.old, p.none, p.bk, p.pos⟩⟩) (c_putQ (m := addI .i64 1000 (natI si.len)) s.i s.oo rfl rfl (by decide) s.rsh bk (by decide) ol fr hn hA hI (by rw [natI_def, li, add_ok (by omega) (by omega), fits_i64]; omega) (by decide))
 ·refine s.b.chg p.chg (fun i hi => ?_) (fun i h0 _ => p.old i (by omega)) (by decide) (by decide)
  rcases hi with hi | hi | hi | hi
  ·have := fr i hi; omega
  ·omega
  ·omega
  ·omega
 ·rw [p.old _ (by rw [s.rsh]; decide)]; exact s.rsh
 ·exact p.chg.mono fun i _ hi => by rcases hi with hi | hi | hi | hi; exact .inl hi; exact .inr (by omega); exact .inr (by omega); exact .inr (by omega)
theorem c_putBytes {l : Sl} {A : List Int} (s : ShR n h rho sh si sb sm sq I B) (bk : BkR n h rho) (ol : OwnL n .u8 h l A) (fr : ∀ i, basB l i → rho i = 0) (hn : n ≤ h.size) (hA : A.length ≤ 1000000) (hB : B.length ≤ 1000000) :
  wp P (F_shelf_putBytes S (some sh) l) h fun tg vs h' => tg = 0 ∧ vs = [] ∧ ∃ rho' si' sb' sm' sq' I' B', PutS n h h' rho rho' sh l I B si' sb' sm' sq' I' B' := by
 unfold F_shelf_putBytes
 refine wp_grd rfl (wp_grd rfl (s_cell (b := .sl) sb rfl s.oo.cells rfl (wp_grd rfl (wp_grd rfl ?_))))
 refine wp_mono _ (fun tg vs h' ⟨ht, hv, rho', ss', sm', I', p⟩ => ⟨ht, hv, rho', si, ss', sm, sm', I, I', ⟨⟨?_, p.r, p.oo, ?_⟩, by omega, by rw [p.len]; exact Nat.le_refl _, ?_, p.old, p.none, p.bk, p.pos⟩⟩) (c_putQ (m := wrapI .u8 (addI .i64 1 (remI .i64 (quoI .i64 (natI sb.len) 4) 250))) s.b s.oo rfl rfl (by decide) s.rsh bk (by decide) ol fr hn hA hB (range_u8 _) (by decide))
 ·refine s.i.chg p.chg (fun i hi => ?_) (fun i h0 _ => p.old i (by omega)) (by decide) (by decide)
  rcases hi with hi | hi | hi | hi
  ·have := fr i hi; omega
  ·omega
  ·omega
  ·omega
 ·rw [p.old _ (by rw [s.rsh]; decide)]; exact s.rsh
 ·exact p.chg.mono fun i _ hi => by rcases hi with hi | hi | hi | hi; exact .inl hi; exact .inr (by omega); exact .inr (by omega); exact .inr (by omega)
theorem s_atC {k : IntKind} {a : Nat} {m : Int} {s : Sl} {K : Int → Prog} {i : Nat} (o : OwnL n k h s (List.replicate a m)) (hi : i < a) (hk : wp P (K m) h Q) :
  wp P (grd (andB (someB s.base) (inB (i : Int) s.len)) (.load (.one (.int k)) (shiftTo s.base (mulN (toN (i : Int)) 1)) K)) h Q := by
 refine s_at o.lst (by omega) (by rw [List.length_replicate]; omega) fun _ => ?_
 have : (List.replicate a m).getD ((i : Nat) : Int).toNat 0 = m := by
  rw [Int.toNat_natCast, List.getD_eq_getElem?_getD, List.getElem?_replicate, if_pos hi]; rfl
 rw [this]; exact hk
theorem s_wholeL {k : IntKind} {rs rm j jm t1 t2 : Nat} {ss sk : Sl} {J : List (Sl × Int)} {vs : List Value} {K : Nat → List Value → Prog} (r : RackR k n h rho rs rm ss sk J) (oo : Own n 1 h ⟨some sh, 4, 4⟩ vs) (hvj : vs[j]? = some (slv ss)) (hvm : vs[jm]? = some (slv sk)) (hJ : J.length ≤ 100000000) (h1 : t1 ≠ 0) (h2 : t2 ≠ 0)
  (hk : wp P (K t2 []) h Q) :
  wp P (.bind (.loop [.one (.int .i64)] ((0 : Int), ()) fun (r307 : Int × Unit) =>
    grd (someB (some sh)) <| grd (someB (some sh)) <| .load (.one .sl) (shiftTo (some sh) j) fun (l308 : Sl) =>
    ifB (ltI r307.1 (natI l308.len))
     (.bind (.loop [.one (.int .i64)] ((0 : Int), ()) fun (r337 : Int × Unit) =>
       grd (someB (some sh)) <| grd (someB (some sh)) <| .load (.one .sl) (shiftTo (some sh) j) fun (l338 : Sl) =>
       grd (andB (someB l338.base) (inB r307.1 l338.len)) <| .load (.one .sl) (shiftTo l338.base (mulN (toN r307.1) 1)) fun (l339 : Sl) =>
       ifB (ltI r337.1 (natI l339.len))
        (grd (someB (some sh)) <| grd (someB (some sh)) <| .load (.one .sl) (shiftTo (some sh) j) fun (l340 : Sl) =>
        grd (andB (someB l340.base) (inB r307.1 l340.len)) <| .load (.one .sl) (shiftTo l340.base (mulN (toN r307.1) 1)) fun (l341 : Sl) =>
        grd (andB (someB l341.base) (inB r337.1 l341.len)) <| .load (.one (.int k)) (shiftTo l341.base (mulN (toN r337.1) 1)) fun (n342 : Int) =>
        grd (someB (some sh)) <| grd (someB (some sh)) <| .load (.one .sl) (shiftTo (some sh) jm) fun (l343 : Sl) =>
        grd (andB (someB l343.base) (inB r307.1 l343.len)) <| .load (.one (.int k)) (shiftTo l343.base (mulN (toN r307.1) 1)) fun (n344 : Int) =>
        ifB (neI n342 n344) (.ret 1 [.bool false]) <| .ret 0 [.int .i64 (addI .i64 r337.1 1)]) <|
       .ret t1 []) fun (k345 : Nat) (vs346 : List Value) =>
     ifB (eqN k345 t1) (.cast [] vs346 fun (_ : Unit) => .ret 0 [.int .i64 (addI .i64 r307.1 1)]) <|
     ifB (eqN k345 1) (.cast [.one .bool] vs346 fun (r348 : Bool × Unit) => .ret 1 [.bool r348.1]) <| .fail) <|
    .ret t2 []) K) h Q := by
 have ls : ss.len = J.length := by have := r.os.1; rw [Nat.mul_one, List.length_map] at this; exact this
 refine wp_while (fun (q : Int × Unit) h' => ∃ i : Nat, i ≤ J.length ∧ q.1 = (i : Int) ∧ h' = h) (fun q _ => (J.length - q.1).toNat) (fun tag vs h' => tag = t2 ∧ vs = [] ∧ h' = h) ⟨0, Nat.zero_le _, rfl, rfl⟩ ?_ ?_
 ·rintro ⟨(i' : Int), u⟩ h ⟨i, hi, hi', rfl⟩
  dsimp only at hi' ⊢
  subst hi'
  refine wp_grd rfl (wp_grd rfl (s_cell (b := .sl) ss rfl oo.cells hvj (wp_ifB (fun hc => ?_) fun hc => s_ret ⟨fun hh => absurd hh h2, fun _ => ⟨rfl, rfl, rfl⟩⟩)))
  rw [ltI_iff, natI_def, ls] at hc
  have hil : i < J.length := by omega
  obtain ⟨x, hx⟩ : ∃ x, J[i]? = some x := ⟨J[i], List.getElem?_eq_getElem hil⟩
  obtain ⟨⟨c, ox⟩, _⟩ := r.it x (List.mem_of_getElem? hx)
  have lx := ox.len
  have lcx := ox.own.2.1
  have lmx := ox.own.2.2.1
  rw [List.length_replicate] at lx
  have hxs : (J.map fun x => slv x.1)[i]? = some (B.sl.inj x.1) := by rw [List.getElem?_map, hx]; rfl
  have hxm : (J.map fun x => x.2).getD ((i : Nat) : Int).toNat 0 = x.2 := by rw [Int.toNat_natCast, List.getD_eq_getElem?_getD, List.getElem?_map, hx]; rfl
  refine wp_while (fun (q : Int × Unit) h' => ∃ y : Nat, y ≤ c ∧ q.1 = (y : Int) ∧ h' = h) (fun q _ => (c - q.1).toNat) (fun tag vs h' => tag = t1 ∧ vs = [] ∧ h' = h) ⟨0, Nat.zero_le _, rfl, rfl⟩ ?_ ?_
  ·rintro ⟨(y' : Int), u⟩ h ⟨y, hy, hy', rfl⟩
   dsimp only at hy' ⊢
   subst hy'
   refine wp_grd rfl (wp_grd rfl (s_cell (b := .sl) ss rfl oo.cells hvj (s_ldV (b := .sl) (x := x.1) r.os hxs (wp_ifB (fun hd => ?_) fun hd => s_ret ⟨fun hh => absurd hh h1, fun _ => ⟨rfl, rfl, rfl⟩⟩))))
   rw [ltI_iff, natI_def, lx] at hd
   refine wp_grd rfl (wp_grd rfl (s_cell (b := .sl) ss rfl oo.cells hvj (s_ldV (b := .sl) (x := x.1) r.os hxs (s_atC ox (by omega) (wp_grd rfl (wp_grd rfl (s_cell (b := .sl) sk rfl oo.cells hvm ?_)))))))
   refine s_at r.om.lst (by omega) (by rw [List.length_map]; omega) fun _ => ?_
   rw [hxm]
   refine wp_ifB (fun hh => by rw [neI_iff] at hh; exact absurd rfl hh) fun _ => ?_
   rw [add_ok (by omega) (by omega)]
   exact s_ret ⟨fun _ => ⟨((y : Int) + 1, ()), rfl, ⟨y + 1, by omega, by dsimp only; omega, rfl⟩, by dsimp only; omega⟩, fun hh => absurd rfl hh⟩
  ·rintro tag vs h ⟨rfl, rfl, rfl⟩
   refine s_tag (s_cast0 ?_)
   rw [add_ok (by omega) (by omega)]
   exact s_ret ⟨fun _ => ⟨((i : Int) + 1, ()), rfl, ⟨i + 1, hil, by dsimp only; omega, rfl⟩, by dsimp only; omega⟩, fun hh => absurd rfl hh⟩
 ·rintro tag vs h ⟨rfl, rfl, rfl⟩
  exact hk
theorem c_whole5 (s : ShR n h rho sh si sb sm sq I B) (hI : I.length ≤ 10000000) (hB : B.length ≤ 10000000) : Gives P (F_shelf_whole S (some sh)) [.one .bool] h fun (y : Bool × Unit) _ => y.1 = true := by
 unfold F_shelf_whole Gives
 refine s_wholeL s.i s.oo rfl rfl (by omega) (by decide) (by decide) (s_tag (s_cast0 (s_wholeL s.b s.oo rfl rfl (by omega) (by decide) (by decide) (s_tag (s_cast0 (s_ret ⟨rfl, Ext.refl _, (_, ()), rfl, rfl⟩))))))
end Go.Sw.Piece

set_option linter.unusedVariables false
set_option linter.unusedSimpArgs false
set_option maxRecDepth 100000
namespace Go.Sw.Piece
open Go.Sw.Any Go.Sw.Codec
open Go.Sw.Tree (iv s_putAll s_newP s_getP s_getT s_putP eqI_self Placed cell_own wp_whileG minI_eq)
variable {P : Program} {S : Ids} {h : Heap} {Q : Nat → List Value → Heap → Prop}
theorem s_ckD {a : Addr} {vs : List Value} {j : Nat} {v : Value} {K : Prog} (hc : Cells h a vs) (hj : vs[j]? = some v) (hk : wp P K h Q) : wp P (.check (shiftTo (some a) j) [v] K) h Q :=
 s_check0 (a := a.add j) rfl (cells_iff.2 fun i u hi => by
  cases i with
  | zero => simp at hi; subst hi; rw [add_zero']; exact cells_iff.1 hc j _ hj
  | succ i => simp at hi) hk
structure RackQ (k : IntKind) (n : Nat) (h : Heap) (rho : Nat → Nat) (ra rw_ r0 : Nat) (sa sw : Sl) (I W : List Sl) (V : List (List Int)) (q0 : Nat) : Prop where
 oa : Own n 1 h sa (I.map slv)
 ow : Own n 1 h sw (W.map slv)
 li : I.length = V.length
 lw : W.length = V.length
 ra : ∀ i, basB sa i → rho i = ra
 rw_ : ∀ i, basB sw i → rho i = rw_
 it : ∀ (j : Nat) (s : Sl) (v : List Int), q0 ≤ j → I[j]? = some s → V[j]? = some v → OwnL n k h s v ∧ ∀ i, basB s i → rho i = r0 + 2 * j
 wt : ∀ (j : Nat) (s : Sl) (v : List Int), W[j]? = some s → V[j]? = some v → OwnL n k h s v ∧ ∀ i, basB s i → rho i = 16
 sz : ∀ v, v ∈ V → v.length ≤ 1000000
variable {k : IntKind} {n ra rw_ r0 q0 : Nat} {rho : Nat → Nat} {sa sw : Sl} {I W : List Sl} {V : List (List Int)}
theorem RackQ.chg {F : Nat → Prop} {h' : Heap} {rho' : Nat → Nat} (r : RackQ k n h rho ra rw_ r0 sa sw I W V q0) (c : Chg F h h') (hF : ∀ i, F i → rho i ≠ ra ∧ rho i ≠ rw_ ∧ rho i ≠ 16 ∧ (rho i < 20 ∨ 1000000 ≤ rho i)) (he : ∀ i, 0 < rho i → rho i < 1000000 → rho' i = rho i)
  (h1 : 0 < ra ∧ ra < 1000000) (h2 : 0 < rw_ ∧ rw_ < 1000000) (h3 : 20 ≤ r0 ∧ r0 ≤ 30) (hV : V.length ≤ 400000) : RackQ k n h' rho' ra rw_ r0 sa sw I W V q0 := by
 refine ⟨c.own r.oa fun x hx f => (hF _ f).1 (r.ra _ ⟨x, hx, rfl⟩), c.own r.ow fun x hx f => (hF _ f).2.1 (r.rw_ _ ⟨x, hx, rfl⟩), r.li, r.lw, fun i hi => ?_, fun i hi => ?_, fun j s v hj hs hv => ?_, fun j s v hs hv => ?_, r.sz⟩
 ·have := r.ra i hi; rw [he i (by omega) (by omega)]; exact this
 ·have := r.rw_ i hi; rw [he i (by omega) (by omega)]; exact this
 ·obtain ⟨o, ho⟩ := r.it j s v hj hs hv
  have hjl := (List.getElem?_eq_some_iff.1 hv).1
  exact ⟨c.ownL o fun y hy f => by have := ho _ ⟨y, hy, rfl⟩; have := hF _ f; omega, fun i hi => by have := ho i hi; rw [he i (by omega) (by omega)]; exact this⟩
 ·obtain ⟨o, ho⟩ := r.wt j s v hs hv
  exact ⟨c.ownL o fun y hy f => by have := ho _ ⟨y, hy, rfl⟩; have := hF _ f; omega, fun i hi => by have := ho i hi; rw [he i (by omega) (by omega)]; exact this⟩
structure AskR (k : IntKind) (n : Nat) (h h' : Heap) (rho rho' : Nat → Nat) (ra rw_ r0 ja jw : Nat) (q : Addr) (vs : List Value) (l : Sl) (I W : List Sl) (V : List (List Int)) (v : List Int) (sa' sw' w : Sl) : Prop where
 chg : Chg (fun i => rho i = ra ∨ rho i = rw_ ∨ rho i = 11) h h'
 r : RackQ k n h' rho' ra rw_ r0 sa' sw' (I ++ [l]) (W ++ [w]) (V ++ [v]) 0
 oo : Own n 1 h' ⟨some q, 4, 4⟩ ((vs.set ja (slv sa')).set jw (slv sw'))
 old : ∀ i, rho i ≠ 0 → rho' i = rho i
 none : ∀ i, i < h.size → rho i = 0 → ¬ basB l i → rho' i = 0
 bk : BkR n h' rho'
theorem s_ask1 {q : Addr} {vs : List Value} {bytes ja jw : Nat} {l : Sl} {v : List Int} {K : Prog} (r : RackQ k n h rho ra rw_ r0 sa sw I W V 0) (oo : Own n 1 h ⟨some q, 4, 4⟩ vs) (hva : vs[ja]? = some (slv sa)) (hvw : vs[jw]? = some (slv sw)) (hj : ja ≠ jw) (rq : rho q.block = 11)
  (bk : BkR n h rho) (hr : 11 < ra ∧ ra < 16 ∧ 11 < rw_ ∧ rw_ < 16 ∧ ra ≠ rw_ ∧ 20 ≤ r0) (ol : OwnL n k h l v) (fr : ∀ i, basB l i → rho i = 0) (hn : n ≤ h.size) (hv : v.length ≤ 1000000) (hV : V.length ≤ 400000) (hb : bytes ≤ 8)
  (hk : ∀ rho' sa' sw' w h', AskR k n h h' rho rho' ra rw_ r0 ja jw q vs l I W V v sa' sw' w → wp P K h' Q) :
  wp P (grd (someB (some q)) <| grd (someB (some q)) <| .load (.one .sl) (shiftTo (some q) ja) fun (l888 : Sl) => .alloc [.slice l.base l.len l.cap] fun (a889 : Addr) => .append 1 24 [.slice none 0 0] l888 ⟨some a889, 1, 1⟩ fun (l890 : Sl) =>
   grd (someB (some q)) <| grd (someB (some q)) <| .store (shiftTo (some q) ja) [.slice l890.base l890.len l890.cap] <| grd (someB (some q)) <| grd (someB (some q)) <| .load (.one .sl) (shiftTo (some q) jw) fun (l891 : Sl) =>
   .append 1 bytes [.int k 0] ⟨none, 0, 0⟩ l fun (l892 : Sl) => .check (shiftTo (some q) jw) [.slice l891.base l891.len l891.cap] <| .alloc [.slice l892.base l892.len l892.cap] fun (a893 : Addr) => .check (shiftTo (some q) jw) [.slice l891.base l891.len l891.cap] <|
   .append 1 24 [.slice none 0 0] l891 ⟨some a893, 1, 1⟩ fun (l894 : Sl) => grd (someB (some q)) <| grd (someB (some q)) <| .store (shiftTo (some q) jw) [.slice l894.base l894.len l894.cap] <| K) h Q := by
 classical
 have hjl : ja < vs.length := (List.getElem?_eq_some_iff.1 hva).1
 have hjml : jw < vs.length := (List.getElem?_eq_some_iff.1 hvw).1
 have ql : q.block < h.size := (oo.lt rfl).2
 have hI := r.li; have hW := r.lw
 refine wp_grd rfl (wp_grd rfl (s_cell (b := .sl) sa rfl oo.cells hva ?_))
 refine s_pushV r.oa hn rfl (by rw [List.length_map]; omega) (by rw [List.length_map]; omega) fun sa' h2 _ oa2 u2 b2 => ?_
 have q2 : h.size ≤ h2.size := u2.1
 have nsa : ∀ i, basB sa' i → rho i = ra ∨ h.size ≤ i := fun i ⟨a, ha, hi⟩ => by
  rcases b2 a ha with h | h
  ·exact .inl (r.ra i ⟨a, h, hi⟩)
  ·exact .inr (by omega)
 have k2 : Chg (fun i => rho i = ra) h h2 := Chg.of_upd u2 fun y hy _ => r.ra _ ⟨y, hy, rfl⟩
 have oo2 : Own n 1 h2 ⟨some q, 4, 4⟩ vs := k2.own oo fun x hx f => by cases hx; omega
 have ow2 : Own n 1 h2 sw (W.map slv) := k2.own r.ow fun x hx f => by have := r.rw_ _ ⟨x, hx, rfl⟩; omega
 refine wp_grd rfl (wp_grd rfl (s_setC' (slv sa') oo2 hjl rfl fun h3 oo3 u3 => ?_))
 have q3 : h2.size ≤ h3.size := u3.1
 have k3 : Chg (fun i => i = q.block) h2 h3 := Chg.of_upd u3 fun y hy _ => by cases hy; rfl
 have oa3 : Own n 1 h3 sa' (I.map slv ++ [slv l]) := k3.own oa2 fun x hx f => by
  rcases nsa _ ⟨x, hx, rfl⟩ with h | h
  ·rw [f] at h; omega
  ·omega
 have ow3 : Own n 1 h3 sw (W.map slv) := k3.own ow2 fun x hx f => by have := r.rw_ _ ⟨x, hx, rfl⟩; rw [f] at this; omega
 have g3 : Chg (fun i => rho i = ra ∨ rho i = rw_ ∨ rho i = 11) h h3 := (k2.mono fun i _ f => .inl f).upd u3 fun y hy _ => by cases hy; exact .inr (.inr rq)
 have ol3 : OwnL n k h3 l v := g3.ownL ol fun x hx f => by have := fr _ ⟨x, hx, rfl⟩; omega
 have hvw' : (vs.set ja (slv sa'))[jw]? = some (slv sw) := by rw [List.getElem?_set_ne hj]; exact hvw
 refine wp_grd rfl (wp_grd rfl (s_cell (b := .sl) sw rfl oo3.cells hvw' ?_))
 have mul8 : ∀ {x : Nat}, x ≤ 1070200 → x * bytes ≤ 140737488355328 := fun {x} hx => Nat.le_trans (Nat.mul_le_mul hx hb) (by decide)
 refine s_append (n := h3.size) (OwnL.nil _ _ _) (Nat.le_refl _) ol3.lst (mul8 (by simp; omega)) (by simp; omega) fun w h4 k4 ow4 _ _ => ?_
 rw [List.nil_append] at ow4
 have e4 : Ext h3 h4 := k4
 have q4 := e4.size
 have oo4 := oo3.ext e4
 refine s_ckD oo4.cells hvw' ?_
 refine fun el5 => ?_
 have e5 : Ext h4 (h4.push (.cells [slv w].toArray el5)) := Ext.push ..
 have o5 : Own h4.size 1 (h4.push (.cells [slv w].toArray el5)) ⟨some ⟨h4.size, 0, none⟩, 1, 1⟩ [slv w] := own_alloc rfl (by decide) (by decide)
 generalize h4.push (.cells [slv w].toArray el5) = h5 at e5 o5 ⊢
 have q5 := e5.size
 refine s_ckD (oo4.ext e5).cells hvw' ?_
 have e35 := e4.trans e5
 have lsw : sw.len = W.length := by have := ow3.1; rw [Nat.mul_one, List.length_map] at this; exact this
 refine wp_append (ow3.ext e35) (by omega) o5.rd (by intro y hy; rw [List.mem_singleton.1 hy]; rfl) rfl (by rw [lsw]; show (W.length + 1) * 24 ≤ _; omega) (by rw [lsw]; show W.length + 1 < _; omega) fun sw' h6 ow6 _ u6 b6 => ?_
 have q6 : h5.size ≤ h6.size := u6.1
 have nsw : ∀ i, basB sw' i → rho i = rw_ ∨ h5.size ≤ i := fun i ⟨a, ha, hi⟩ => by
  rcases b6 a ha with h | h
  ·exact .inl (r.rw_ i ⟨a, h, hi⟩)
  ·exact .inr (by omega)
 have k6 : Chg (fun i => rho i = rw_) h5 h6 := Chg.of_upd u6 fun y hy _ => r.rw_ _ ⟨y, hy, rfl⟩
 have oo6 : Own n 1 h6 ⟨some q, 4, 4⟩ (vs.set ja (slv sa')) := k6.own (oo4.ext e5) fun x hx f => by cases hx; omega
 have oa6 : Own n 1 h6 sa' (I.map slv ++ [slv l]) := k6.own (oa3.ext e35) fun x hx f => by
  rcases nsa _ ⟨x, hx, rfl⟩ with h | h
  ·omega
  ·have := bk.lo x.block h; omega
 have nw : ∀ i, basB w i → h3.size ≤ i ∧ i < h4.size := fun i hi => basB_lt ow4 hi
 have ow6' : OwnL h3.size k h6 w v := k6.ownL (ow4.ext e5) fun x hx f => by have := nw _ ⟨x, hx, rfl⟩; have := bk.lo x.block (by omega); omega
 refine wp_grd rfl (wp_grd rfl (s_setC' (slv sw') oo6 (by rw [List.length_set]; exact hjml) rfl fun h7 oo7 u7 => ?_))
 have q7 : h6.size ≤ h7.size := u7.1
 have k7 : Chg (fun i => i = q.block) h6 h7 := Chg.of_upd u7 fun y hy _ => by cases hy; rfl
 have g7 : Chg (fun i => rho i = ra ∨ rho i = rw_ ∨ rho i = 11) h h7 := ((g3.ext e35).upd u6 fun y hy _ => .inr (.inl (r.rw_ _ ⟨y, hy, rfl⟩))).upd u7 fun y hy _ => by cases hy; exact .inr (.inr rq)
 have oa7 : Own n 1 h7 sa' (I.map slv ++ [slv l]) := k7.own oa6 fun x hx f => by
  rcases nsa _ ⟨x, hx, rfl⟩ with h | h
  ·rw [f] at h; omega
  ·omega
 have ow7 : Own n 1 h7 sw' (W.map slv ++ [slv w]) := k7.own ow6 fun x hx f => by
  rcases nsw _ ⟨x, hx, rfl⟩ with h | h
  ·rw [f] at h; omega
  ·omega
 have w7 : OwnL h3.size k h7 w v := k7.ownL ow6' fun x hx f => by have := nw _ ⟨x, hx, rfl⟩; omega
 have l7 : OwnL n k h7 l v := g7.ownL ol fun x hx f => by have := fr _ ⟨x, hx, rfl⟩; omega
 have nl : ∀ i, basB l i → n ≤ i ∧ i < h.size := fun i hi => basB_lt ol hi
 let rho' : Nat → Nat := fun i => if basB l i then r0 + 2 * V.length else if basB w i then 16 else if basB sa' i then ra else if basB sw' i then rw_ else rho i
 have old : ∀ i, rho i ≠ 0 → rho' i = rho i := fun i hi => by
  show (if basB l i then r0 + 2 * V.length else if basB w i then 16 else if basB sa' i then ra else if basB sw' i then rw_ else rho i) = rho i
  have il : i < h.size := Classical.byContradiction fun hh => hi (bk.lo i (by omega))
  rw [if_neg fun hh => hi (fr i hh), if_neg fun hh => by have := nw i hh; omega]
  by_cases h1 : basB sa' i
  ·rw [if_pos h1]
   rcases nsa i h1 with h | h
   ·exact h.symm
   ·omega
  ·rw [if_neg h1]
   by_cases h2 : basB sw' i
   ·rw [if_pos h2]
    rcases nsw i h2 with h | h
    ·exact h.symm
    ·omega
   ·rw [if_neg h2]
 have nF : ∀ i, rho i ≠ 0 → rho i ≠ ra → rho i ≠ rw_ → rho i ≠ 11 → ¬ (rho i = ra ∨ rho i = rw_ ∨ rho i = 11) := fun i _ h1 h2 h3 h => by omega
 refine hk rho' sa' sw' w h7 ⟨g7, ⟨by rw [List.map_append]; exact oa7, by rw [List.map_append]; exact ow7, by rw [List.length_append, List.length_append, hI]; rfl, by rw [List.length_append, List.length_append, hW]; rfl, fun i hi => ?_, fun i hi => ?_, fun j s x hj' hs hx => ?_, fun j s x hs hx => ?_, fun x hx => ?_⟩, oo7, old, fun i hi h0 hl => ?_, fun i hi => ?_, fun i hi => ?_⟩
 ·show (if basB l i then r0 + 2 * V.length else if basB w i then 16 else if basB sa' i then ra else if basB sw' i then rw_ else rho i) = ra
  have i2 : i < h2.size := by obtain ⟨a, ha, hi'⟩ := hi; have := (oa2.lt ha).2; omega
  rw [if_neg fun hh => by
   have := fr i hh; have := nl i hh
   rcases nsa i hi with h | h <;> omega, if_neg fun hh => by have := nw i hh; omega, if_pos hi]
 ·show (if basB l i then r0 + 2 * V.length else if basB w i then 16 else if basB sa' i then ra else if basB sw' i then rw_ else rho i) = rw_
  have hsw := nsw i hi
  rw [if_neg fun hh => by
   have := fr i hh; have := nl i hh
   rcases hsw with h | h <;> omega, if_neg fun hh => by
   have := nw i hh
   rcases hsw with h | h
   ·have := bk.lo i (by omega); omega
   ·omega, if_neg fun hh => by
   have i2 : i < h2.size := by obtain ⟨a, ha, hi'⟩ := hh; have := (oa2.lt ha).2; omega
   rcases hsw with h | h
   ·rcases nsa i hh with h' | h'
    ·omega
    ·have := bk.lo i h'; omega
   ·omega, if_pos hi]
 ·rw [List.getElem?_append] at hs hx
  by_cases hlt : j < V.length
  ·rw [if_pos (by omega)] at hs hx
   obtain ⟨o, ho⟩ := r.it j s x (Nat.zero_le _) hs hx
   exact ⟨g7.ownL o fun y hy f => by have := ho _ ⟨y, hy, rfl⟩; omega, fun i hi => by have := ho i hi; rw [old i (by omega)]; exact this⟩
  ·rw [if_neg (by omega)] at hs hx
   have hj0 : j - V.length = 0 := by
    by_cases h0 : j - V.length = 0
    ·exact h0
    ·rw [List.getElem?_eq_none (by simp; omega)] at hx; cases hx
   rw [hI, hj0] at hs
   rw [hj0] at hx
   simp at hs hx
   subst hs; subst hx
   refine ⟨l7, fun i hi => ?_⟩
   have : j = V.length := by omega
   rw [this]; exact if_pos hi
 ·rw [List.getElem?_append] at hs hx
  by_cases hlt : j < V.length
  ·rw [if_pos (by omega)] at hs hx
   obtain ⟨o, ho⟩ := r.wt j s x hs hx
   exact ⟨g7.ownL o fun y hy f => by have := ho _ ⟨y, hy, rfl⟩; omega, fun i hi => by have := ho i hi; rw [old i (by omega)]; exact this⟩
  ·rw [if_neg (by omega)] at hs hx
   have hj0 : j - V.length = 0 := by
    by_cases h0 : j - V.length = 0
    ·exact h0
    ·rw [List.getElem?_eq_none (by simp; omega)] at hx; cases hx
   rw [hW, hj0] at hs
   rw [hj0] at hx
   simp at hs hx
   subst hs; subst hx
   refine ⟨w7.mono (by omega), fun i hi => ?_⟩
   show (if basB l i then r0 + 2 * V.length else if basB w i then 16 else if basB sa' i then ra else if basB sw' i then rw_ else rho i) = 16
   rw [if_neg fun hh => by have := nl i hh; have := nw i hi; omega, if_pos hi]
 ·rcases List.mem_append.1 hx with hx | hx
  ·exact r.sz x hx
  ·rw [List.mem_singleton.1 hx]; exact hv
 ·show (if basB l i then r0 + 2 * V.length else if basB w i then 16 else if basB sa' i then ra else if basB sw' i then rw_ else rho i) = 0
  rw [if_neg hl, if_neg fun hh => by have := nw i hh; omega, if_neg fun hh => by rcases nsa i hh with h | h <;> omega, if_neg fun hh => by rcases nsw i hh with h | h <;> omega]
  exact h0
 ·show (if basB l i then r0 + 2 * V.length else if basB w i then 16 else if basB sa' i then ra else if basB sw' i then rw_ else rho i) = 0
  rw [if_neg fun hh => by have := nl i hh; omega, if_neg fun hh => by have := nw i hh; omega, if_neg fun ⟨a, ha, hh⟩ => by have := (oa7.lt ha).2; omega, if_neg fun ⟨a, ha, hh⟩ => by have := (ow7.lt ha).2; omega]
  exact bk.lo i (by omega)
 ·have hi : (if basB l i then r0 + 2 * V.length else if basB w i then 16 else if basB sa' i then ra else if basB sw' i then rw_ else rho i) ≠ 0 := hi
  by_cases h1 : basB l i
  ·exact (nl i h1).1
  ·rw [if_neg h1] at hi
   by_cases h2 : basB w i
   ·have := nw i h2; omega
   ·rw [if_neg h2] at hi
    by_cases h3 : basB sa' i
    ·obtain ⟨a, ha, rfl⟩ := h3; exact (oa7.lt ha).1
    ·rw [if_neg h3] at hi
     by_cases h4 : basB sw' i
     ·obtain ⟨a, ha, rfl⟩ := h4; exact (ow7.lt ha).1
     ·rw [if_neg h4] at hi; exact bk.ge i hi
end Go.Sw.Piece

set_option linter.unusedVariables false
set_option linter.unusedSimpArgs false
set_option maxRecDepth 100000
namespace Go.Sw.Piece
open Go.Sw.Any Go.Sw.Codec
open Go.Sw.Tree (iv s_putAll s_newP s_getP s_getT s_putP eqI_self Placed cell_own wp_whileG minI_eq)
variable {P : Program} {S : Ids} {h : Heap} {Q : Nat → List Value → Heap → Prop}
structure QuR (n : Nat) (h : Heap) (rho : Nat → Nat) (q : Addr) (qi qw qb qx : Sl) (Ii Wi : List Sl) (Vi : List (List Int)) (Ib Wb : List Sl) (Vb : List (List Int)) (q1 q2 : Nat) : Prop where
 i : RackQ .i64 n h rho 12 13 20 qi qw Ii Wi Vi q1
 b : RackQ .u8 n h rho 14 15 21 qb qx Ib Wb Vb q2
 oo : Own n 1 h ⟨some q, 4, 4⟩ [slv qi, slv qw, slv qb, slv qx]
 rq : rho q.block = 11
def QuE (n : Nat) (h : Heap) (rho : Nat → Nat) (q : Addr) (li lb : Nat) : Prop := ∃ qi qw qb qx Ii Wi Vi Ib Wb Vb, QuR n h rho q qi qw qb qx Ii Wi Vi Ib Wb Vb 0 0 ∧ Vi.length ≤ li ∧ Vb.length ≤ lb
variable {n li lb : Nat} {rho rho' : Nat → Nat} {q : Addr}
theorem QuE.chg {F : Nat → Prop} {h' : Heap} (e : QuE n h rho q li lb) (c : Chg F h h') (hF : ∀ i, F i → rho i < 11 ∨ 1000000 ≤ rho i) (he : ∀ i, 0 < rho i → rho i < 1000000 → rho' i = rho i) (h1 : li ≤ 400000) (h2 : lb ≤ 400000) : QuE n h' rho' q li lb := by
 obtain ⟨qi, qw, qb, qx, Ii, Wi, Vi, Ib, Wb, Vb, r, l1, l2⟩ := e
 refine ⟨qi, qw, qb, qx, Ii, Wi, Vi, Ib, Wb, Vb, ⟨r.i.chg c (fun i hi => by have := hF i hi; omega) he (by decide) (by decide) (by decide) (by omega), r.b.chg c (fun i hi => by have := hF i hi; omega) he (by decide) (by decide) (by decide) (by omega), c.own r.oo fun x hx f => by cases hx; have := hF _ f; have := r.rq; omega, ?_⟩, l1, l2⟩
 have := r.rq
 rw [he _ (by omega) (by omega)]; exact this
theorem QuE.ext {h' : Heap} (e : QuE n h rho q li lb) (x : Ext h h') (h1 : li ≤ 400000) (h2 : lb ≤ 400000) : QuE n h' rho q li lb := e.chg (Chg.of_ext (F := fun _ => False) x) (fun i f => f.elim) (fun _ _ _ => rfl) h1 h2
structure AdR (n : Nat) (h h' : Heap) (rho rho' : Nat → Nat) (q : Addr) (li lb : Nat) (X : Nat → Prop) : Prop where
 chg : Chg (fun i => 11 ≤ rho i ∧ rho i ≤ 15) h h'
 e : QuE n h' rho' q li lb
 old : ∀ i, rho i ≠ 0 → rho' i = rho i
 none : ∀ i, i < h.size → rho i = 0 → ¬ X i → rho' i = 0
 x : ∀ i, i < h.size → rho i = 0 → rho' i = 0 ∨ 16 ≤ rho' i
 bk : BkR n h' rho'
theorem AdR.refl (e : QuE n h rho q li lb) (bk : BkR n h rho) (X : Nat → Prop) : AdR n h h rho rho q li lb X := ⟨Chg.refl _ _, e, fun _ _ => rfl, fun _ _ h _ => h, fun _ _ h => .inl h, bk⟩
theorem AdR.trans {h1 h2 : Heap} {rho1 rho2 : Nat → Nat} {li1 lb1 li2 lb2 : Nat} {X Y Z : Nat → Prop} (a : AdR n h h1 rho rho1 q li1 lb1 X) (b : AdR n h1 h2 rho1 rho2 q li2 lb2 Y) (hz : ∀ i, X i ∨ Y i → Z i) : AdR n h h2 rho rho2 q li2 lb2 Z := by
 have q1 := a.chg.1
 refine ⟨a.chg.trans b.chg fun i hi f => ?_, b.e, fun i hi => ?_, fun i hi h0 hx => ?_, fun i hi h0 => ?_, b.bk⟩
 ·by_cases h0 : rho i = 0
  ·have := a.x i hi h0; omega
  ·rw [a.old i h0] at f; exact f
 ·have := a.old i hi
  rw [b.old i (by omega)]; exact this
 ·exact b.none i (by omega) (a.none i hi h0 fun h => hx (hz i (.inl h))) fun h => hx (hz i (.inr h))
 ·rcases a.x i hi h0 with h | h
  ·exact b.x i (by omega) h
  ·right; rw [b.old i (by omega)]; exact h
theorem AdR.ext {h1 h2 : Heap} {rho1 : Nat → Nat} {X : Nat → Prop} (a : AdR n h h1 rho rho1 q li lb X) (e : Ext h1 h2) (l1 : li ≤ 400000) (l2 : lb ≤ 400000) : AdR n h h2 rho rho1 q li lb X := ⟨a.chg.ext e, a.e.ext e l1 l2, a.old, a.none, a.x, a.bk.mono e.size⟩
theorem AdR.pre {h0 h1 : Heap} {rho1 : Nat → Nat} {X : Nat → Prop} (a : AdR n h h1 rho rho1 q li lb X) (e : Ext h0 h) : AdR n h0 h1 rho rho1 q li lb X := ⟨Chg.pre e a.chg, a.e, a.old, fun i hi => a.none i (by have := e.size; omega), fun i hi => a.x i (by have := e.size; omega), a.bk⟩
theorem AdR.ownL {h1 : Heap} {rho1 : Nat → Nat} {X : Nat → Prop} {k : IntKind} {m : Nat} {s : Sl} {l : List Int} (a : AdR n h h1 rho rho1 q li lb X) (o : OwnL m k h s l) (hs : ∀ i, basB s i → rho i = 0) : OwnL m k h1 s l := a.chg.ownL o fun y hy f => by have := hs _ ⟨y, hy, rfl⟩; omega
theorem AdR.own {h1 : Heap} {rho1 : Nat → Nat} {X : Nat → Prop} {m z : Nat} {s : Sl} {vs : List Value} (a : AdR n h h1 rho rho1 q li lb X) (o : Own m z h s vs) (hs : ∀ i, basB s i → rho i = 0) : Own m z h1 s vs := a.chg.own o fun y hy f => by have := hs _ ⟨y, hy, rfl⟩; omega
theorem AdR.more {h1 : Heap} {rho1 : Nat → Nat} {X Y : Nat → Prop} (a : AdR n h h1 rho rho1 q li lb X) (hz : ∀ i, X i → Y i) : AdR n h h1 rho rho1 q li lb Y := ⟨a.chg, a.e, a.old, fun i hi h0 hx => a.none i hi h0 fun h => hx (hz i h), a.x, a.bk⟩
theorem s_askI {l : Sl} {v : List Int} {K : Prog} (e : QuE n h rho q li lb) (bk : BkR n h rho) (ol : OwnL n .i64 h l v) (fr : ∀ i, basB l i → rho i = 0) (hn : n ≤ h.size) (hv : v.length ≤ 1000000) (h1 : li ≤ 300000) (h2 : lb ≤ 300000)
  (hk : ∀ rho' h', AdR n h h' rho rho' q (li + 1) lb (basB l) → wp P K h' Q) :
  wp P (grd (someB (some q)) <| grd (someB (some q)) <| .load (.one .sl) (shiftTo (some q) 0) fun (l888 : Sl) => .alloc [.slice l.base l.len l.cap] fun (a889 : Addr) => .append 1 24 [.slice none 0 0] l888 ⟨some a889, 1, 1⟩ fun (l890 : Sl) =>
   grd (someB (some q)) <| grd (someB (some q)) <| .store (shiftTo (some q) 0) [.slice l890.base l890.len l890.cap] <| grd (someB (some q)) <| grd (someB (some q)) <| .load (.one .sl) (shiftTo (some q) 1) fun (l891 : Sl) =>
   .append 1 8 [.int .i64 0] ⟨none, 0, 0⟩ l fun (l892 : Sl) => .check (shiftTo (some q) 1) [.slice l891.base l891.len l891.cap] <| .alloc [.slice l892.base l892.len l892.cap] fun (a893 : Addr) => .check (shiftTo (some q) 1) [.slice l891.base l891.len l891.cap] <|
   .append 1 24 [.slice none 0 0] l891 ⟨some a893, 1, 1⟩ fun (l894 : Sl) => grd (someB (some q)) <| grd (someB (some q)) <| .store (shiftTo (some q) 1) [.slice l894.base l894.len l894.cap] <| K) h Q := by
 obtain ⟨qi, qw, qb, qx, Ii, Wi, Vi, Ib, Wb, Vb, r, l1, l2⟩ := e
 refine s_ask1 r.i r.oo rfl rfl (by decide) r.rq bk (by decide) ol fr hn hv (by omega) (by decide) fun rho' sa' sw' w h' a => hk rho' h' ⟨a.chg.mono fun i _ f => by omega, ⟨sa', sw', qb, qx, _, _, _, Ib, Wb, Vb, ⟨a.r, r.b.chg a.chg (fun i f => by omega) (fun i h _ => a.old i (by omega)) (by decide) (by decide) (by decide) (by omega), a.oo, ?_⟩, ?_, l2⟩, a.old, a.none, fun i hi h0 => ?_, a.bk⟩
 ·have := r.rq; rw [a.old _ (by omega)]; exact this
 ·rw [List.length_append]; show _ + 1 ≤ _; omega
 ·by_cases hx : basB l i
  ·right
   have hi' := (a.r.it Vi.length l v (Nat.zero_le _) (by rw [List.getElem?_append_right (by rw [r.i.li]; exact Nat.le_refl _), r.i.li, Nat.sub_self]; rfl) (by rw [List.getElem?_append_right (Nat.le_refl _), Nat.sub_self]; rfl)).2 i hx
   omega
  ·exact .inl (a.none i hi h0 hx)
theorem s_askB {l : Sl} {v : List Int} {K : Prog} (e : QuE n h rho q li lb) (bk : BkR n h rho) (ol : OwnL n .u8 h l v) (fr : ∀ i, basB l i → rho i = 0) (hn : n ≤ h.size) (hv : v.length ≤ 1000000) (h1 : li ≤ 300000) (h2 : lb ≤ 300000)
  (hk : ∀ rho' h', AdR n h h' rho rho' q li (lb + 1) (basB l) → wp P K h' Q) :
  wp P (grd (someB (some q)) <| grd (someB (some q)) <| .load (.one .sl) (shiftTo (some q) 2) fun (l888 : Sl) => .alloc [.slice l.base l.len l.cap] fun (a889 : Addr) => .append 1 24 [.slice none 0 0] l888 ⟨some a889, 1, 1⟩ fun (l890 : Sl) =>
   grd (someB (some q)) <| grd (someB (some q)) <| .store (shiftTo (some q) 2) [.slice l890.base l890.len l890.cap] <| grd (someB (some q)) <| grd (someB (some q)) <| .load (.one .sl) (shiftTo (some q) 3) fun (l891 : Sl) =>
   .append 1 1 [.int .u8 0] ⟨none, 0, 0⟩ l fun (l892 : Sl) => .check (shiftTo (some q) 3) [.slice l891.base l891.len l891.cap] <| .alloc [.slice l892.base l892.len l892.cap] fun (a893 : Addr) => .check (shiftTo (some q) 3) [.slice l891.base l891.len l891.cap] <|
   .append 1 24 [.slice none 0 0] l891 ⟨some a893, 1, 1⟩ fun (l894 : Sl) => grd (someB (some q)) <| grd (someB (some q)) <| .store (shiftTo (some q) 3) [.slice l894.base l894.len l894.cap] <| K) h Q := by
 obtain ⟨qi, qw, qb, qx, Ii, Wi, Vi, Ib, Wb, Vb, r, l1, l2⟩ := e
 refine s_ask1 r.b r.oo rfl rfl (by decide) r.rq bk (by decide) ol fr hn hv (by omega) (by decide) fun rho' sa' sw' w h' a => hk rho' h' ⟨a.chg.mono fun i _ f => by omega, ⟨qi, qw, sa', sw', Ii, Wi, Vi, _, _, _, ⟨r.i.chg a.chg (fun i f => by omega) (fun i h _ => a.old i (by omega)) (by decide) (by decide) (by decide) (by omega), a.r, a.oo, ?_⟩, l1, ?_⟩, a.old, a.none, fun i hi h0 => ?_, a.bk⟩
 ·have := r.rq; rw [a.old _ (by omega)]; exact this
 ·rw [List.length_append]; show _ + 1 ≤ _; omega
 ·by_cases hx : basB l i
  ·right
   have hi' := (a.r.it Vb.length l v (Nat.zero_le _) (by rw [List.getElem?_append_right (by rw [r.b.li]; exact Nat.le_refl _), r.b.li, Nat.sub_self]; rfl) (by rw [List.getElem?_append_right (Nat.le_refl _), Nat.sub_self]; rfl)).2 i hx
   omega
  ·exact .inl (a.none i hi h0 hx)
structure ClA (P : Program) (S : Ids) : Prop where
 qa : ∀ (c : Sl) (a : Option Addr), Dyn P (.func (.func S.f_quiet_ask_1) #[] #[.pointer a]) [slv c] (F_quiet_ask_1 S c a)
 ho : ∀ (c : Sl) (a b : Option Addr), Dyn P (.func (.func S.f_shelf_handOut_1) #[] #[.pointer a, .pointer b]) [slv c] (F_shelf_handOut_1 S c a b)
structure LsR (n : Nat) (hc : Heap) (aL ls0 : Nat) (h' : Heap) (ls : Sl) (Ls : List Sl) : Prop where
 chg : Chg (fun i => i = aL ∨ i = ls0) hc h'
 c : Cel 0 h' ⟨aL, 0, none⟩ (slv ls)
 o : Own n 1 h' ls (Ls.map slv)
 lb : ∀ i, basB ls i → i ≠ aL ∧ (i = ls0 ∨ hc.size + 8 ≤ i)
 it : ∀ (j : Nat) (s : Sl), Ls[j]? = some s → (∃ v, OwnL n .u8 h' s v ∧ v.length ≤ 1000000) ∧ ∀ i, basB s i → i ≠ aL ∧ i ≠ ls0 ∧ ¬ basB ls i ∧ (i < hc.size ∨ hc.size + 8 ≤ i)
 ne : ∀ (j j' : Nat) (s s' : Sl), Ls[j]? = some s → Ls[j']? = some s' → j ≠ j' → ∀ i, basB s i → ¬ basB s' i
 al : aL < hc.size ∧ ls0 < hc.size ∧ aL ≠ ls0
theorem LsR.own {hc a b : Heap} {aL ls0 : Nat} {ls : Sl} {Ls : List Sl} (r : LsR n hc aL ls0 a ls Ls) (c : Chg (Sw.own hc.size 8) a b) : LsR n hc aL ls0 b ls Ls := by
 have ha := r.al
 refine ⟨r.chg.trans c fun i hi f => by have := f.1; omega, c.own r.c fun x hx f => by cases hx; have := f.1; dsimp only at this; omega, c.own r.o fun x hx f => ?_, r.lb, fun j s hs => ⟨?_, (r.it j s hs).2⟩, r.ne, r.al⟩
 ·have := (r.lb _ ⟨x, hx, rfl⟩).2; have h1 := f.1; have h2 := f.2; omega
 ·obtain ⟨⟨v, o, hv⟩, hb⟩ := r.it j s hs
  exact ⟨v, c.ownL o fun x hx f => by have := (hb _ ⟨x, hx, rfl⟩).2.2.2; have h1 := f.1; have h2 := f.2; omega, hv⟩
theorem c_ask_1 {hc hp h1 : Heap} {aL ls0 : Nat} {ls s : Sl} {Ls : List Sl} {v : List Int} (r : LsR n hc aL ls0 h1 ls Ls) (hn : n ≤ h1.size) (os : OwnL hp.size .u8 h1 s v) (hv : v.length ≤ 1000000) (hps : hc.size + 8 ≤ hp.size) (hph : hp.size ≤ h1.size) (hnp : n ≤ hp.size)
  (old : ∀ (j : Nat) (t : Sl), Ls[j]? = some t → ∀ i, basB t i → i < hp.size) (oldl : ∀ i, basB ls i → i < hp.size) (hL : Ls.length ≤ 3) :
  wp P (F_quiet_ask_1 S s (some ⟨aL, 0, none⟩)) h1 fun tg vs h2 => tg = 0 ∧ ∃ b, vs = [.bool b] ∧ Chg (fun i => i = aL ∨ basB ls i) h1 h2 ∧ ∃ ls', LsR n hc aL ls0 h2 ls' (Ls ++ [s]) ∧ (b = true → Ls.length + 1 ≤ 3) := by
 unfold F_quiet_ask_1
 refine s_cel (b := .sl) (x := ls) r.c ?_
 have ll : ls.len = Ls.length := by have := r.o.1; rw [Nat.mul_one, List.length_map] at this; exact this
 have bs : ∀ i, basB s i → hp.size ≤ i ∧ i < h1.size := fun i hi => basB_lt os hi
 refine s_pushV r.o hn rfl (by rw [List.length_map]; omega) (by rw [List.length_map]; omega) fun ls' h3 _ o3 u3 b3 => ?_
 have q3 : h1.size ≤ h3.size := u3.1
 have k3 : Chg (basB ls) h1 h3 := Chg.of_upd u3 fun y hy _ => ⟨y, hy, rfl⟩
 have c3 : Cel 0 h3 ⟨aL, 0, none⟩ (slv ls) := k3.own r.c fun x hx f => by cases hx; exact (r.lb _ f).1 rfl
 refine s_celput (slv ls') c3 rfl fun h4 c4 u4 => s_cel (b := .sl) (x := ls') c4 (s_ret ⟨rfl, _, rfl, ?_, ls', ?_, fun hb => ?_⟩)
 ·exact (k3.mono fun i _ f => .inr f).upd u4 fun y hy _ => by cases hy; exact .inl rfl
 ·have k4 : Chg (fun i => i = aL) h3 h4 := Chg.of_upd u4 fun y hy _ => by cases hy; rfl
  have lb' : ∀ i, basB ls' i → i ≠ aL ∧ (i = ls0 ∨ hc.size + 8 ≤ i) := fun i ⟨a, ha, hi⟩ => by
   have al := r.al
   rcases b3 a ha with h | h
   ·exact r.lb i ⟨a, h, hi⟩
   ·exact ⟨by omega, .inr (by omega)⟩
  have al := r.al
  have aL1 : aL < h1.size := (r.c.lt rfl).2
  refine ⟨?_, c4, ?_, lb', fun j t ht => ?_, fun j j' t t' ht ht' hjj i hi hi' => ?_, r.al⟩
  ·refine ((r.chg.trans (k3.mono (G := fun i => i = aL ∨ i = ls0 ∨ hc.size + 8 ≤ i) fun i _ f => by have := (r.lb i f).2; omega) fun i hi f => by omega)).upd u4 fun y hy _ => by cases hy; exact .inl rfl
  ·exact k4.own (by rw [List.map_append]; exact o3) fun x hx f => (lb' _ ⟨x, hx, rfl⟩).1 f
  ·have new : ∀ i, basB s i → i ≠ aL ∧ i ≠ ls0 ∧ ¬ basB ls' i ∧ (i < hc.size ∨ hc.size + 8 ≤ i) := fun i hi => by
    have := bs i hi
    refine ⟨by omega, by omega, fun ⟨a, ha, hi'⟩ => ?_, .inr (by omega)⟩
    rcases b3 a ha with h | h
    ·have := oldl i ⟨a, h, hi'⟩; omega
    ·omega
   rw [List.getElem?_append] at ht
   split at ht
   ·obtain ⟨⟨v', o', hv'⟩, hb⟩ := r.it j t ht
    refine ⟨⟨v', k4.ownL (k3.ownL o' fun x hx f => (hb _ ⟨x, hx, rfl⟩).2.2.1 f) fun x hx f => (hb _ ⟨x, hx, rfl⟩).1 f, hv'⟩, fun i hi => ⟨(hb i hi).1, (hb i hi).2.1, fun ⟨a, ha, hi'⟩ => ?_, (hb i hi).2.2.2⟩⟩
    rcases b3 a ha with h | h
    ·exact (hb i hi).2.2.1 ⟨a, h, hi'⟩
    ·have := old j t ht i hi; omega
   ·have hj0 : j - Ls.length = 0 := by
     by_cases h0 : j - Ls.length = 0
     ·exact h0
     ·rw [List.getElem?_eq_none (by simp; omega)] at ht; cases ht
    rw [hj0] at ht
    simp at ht
    subst ht
    exact ⟨⟨v, (k4.ownL (k3.ownL os fun x hx f => by have := oldl _ f; have := bs _ ⟨x, hx, rfl⟩; omega) fun x hx f => (new _ ⟨x, hx, rfl⟩).1 f).mono hnp, hv⟩, new⟩
  ·have get : ∀ {j : Nat} {t : Sl}, (Ls ++ [s])[j]? = some t → (j < Ls.length ∧ Ls[j]? = some t) ∨ (j = Ls.length ∧ t = s) := fun {j t} h => by
    rw [List.getElem?_append] at h
    split at h
    ·rename_i hl; exact .inl ⟨hl, h⟩
    ·have hj0 : j - Ls.length = 0 := by
      by_cases h0 : j - Ls.length = 0
      ·exact h0
      ·rw [List.getElem?_eq_none (by simp; omega)] at h; cases h
     rw [hj0] at h
     simp at h
     exact .inr ⟨by omega, h.symm⟩
   rcases get ht with ⟨hl, g1⟩ | ⟨hl, g1⟩
   ·rcases get ht' with ⟨hl', g2⟩ | ⟨hl', g2⟩
    ·exact r.ne j j' t t' g1 g2 hjj i hi hi'
    ·rw [g2] at hi'
     have := old j t g1 i hi; have := bs i hi'; omega
   ·rw [g1] at hi
    rcases get ht' with ⟨hl', g2⟩ | ⟨hl', g2⟩
    ·have := old j' t' g2 i hi'; have := bs i hi; omega
    ·omega
 ·have ll' : ls'.len = Ls.length + 1 := by have := o3.1; rw [Nat.mul_one, List.length_append, List.length_map] at this; exact this
  have hb : ltI (natI ls'.len) 4 = true := hb
  rw [ltI_iff, natI_def, ll'] at hb
  omega
end Go.Sw.Piece

set_option linter.unusedVariables false
set_option linter.unusedSimpArgs false
set_option maxRecDepth 100000
namespace Go.Sw.Piece
open Go.Sw.Any Go.Sw.Codec
open Go.Sw.Tree (iv s_putAll s_newP s_getP s_getT s_putP eqI_self Placed cell_own wp_whileG minI_eq)
variable {P : Program} {S : Ids} {h : Heap} {Q : Nat → List Value → Heap → Prop}
variable {n li lb : Nat} {rho rho' : Nat → Nat} {q : Addr}
theorem QuE.mono {li' lb' : Nat} (e : QuE n h rho q li lb) (h1 : li ≤ li') (h2 : lb ≤ lb') : QuE n h rho q li' lb' := by
 obtain ⟨qi, qw, qb, qx, Ii, Wi, Vi, Ib, Wb, Vb, r, l1, l2⟩ := e
 exact ⟨qi, qw, qb, qx, Ii, Wi, Vi, Ib, Wb, Vb, r, by omega, by omega⟩
theorem AdR.up {h1 : Heap} {rho1 : Nat → Nat} {li' lb' : Nat} {X : Nat → Prop} (a : AdR n h h1 rho rho1 q li lb X) (l1 : li ≤ li') (l2 : lb ≤ lb') : AdR n h h1 rho rho1 q li' lb' X := ⟨a.chg, a.e.mono l1 l2, a.old, a.none, a.x, a.bk⟩
theorem AdR.fresh {h1 : Heap} {rho1 : Nat → Nat} {X : Nat → Prop} (a : AdR n h h1 rho rho1 q li lb X) (hX : ∀ i, X i → h.size ≤ i) : AdR n h h1 rho rho1 q li lb (fun _ => False) := ⟨a.chg, a.e, a.old, fun i hi h0 _ => a.none i hi h0 fun hx => by have := hX i hx; omega, a.x, a.bk⟩
theorem AdR.step {h1 h2 : Heap} {rho1 : Nat → Nat} {F : Nat → Prop} {X : Nat → Prop} (a : AdR n h h1 rho rho1 q li lb X) (c : Chg F h1 h2) (hF : ∀ i, F i → h.size ≤ i ∧ rho1 i = 0) (l1 : li ≤ 400000) (l2 : lb ≤ 400000) : AdR n h h2 rho rho1 q li lb X :=
 ⟨a.chg.trans c fun i hi f => by have := (hF i f).1; omega, a.e.chg c (fun i f => by have := (hF i f).2; omega) (fun _ _ _ => rfl) l1 l2, a.old, a.none, a.x, a.bk.mono c.1⟩
theorem chunk_len (B : List Int) (size : Int) (k : Nat) : (chunkI B size k).length ≤ B.length := by unfold chunkI; rw [List.length_take, List.length_drop]; omega
theorem AdR.text {h1 : Heap} {rho1 : Nat → Nat} {X : Nat → Prop} {T : TX} (a : AdR n h h1 rho rho1 q li lb X) (t : TextR S n h T) (rt : ∀ i, T.Z i → 0 < rho i ∧ rho i < 5) : TextR S n h1 T := t.chg a.chg fun i hi f => by have := rt i hi; omega
theorem c_ask (M : Meth0 P S) (C : Cl P S) (Y : ClA P S) {T : TX} {who A B size : Int} {es : Sl} (t : TextR S n h T) (rt : ∀ i, T.Z i → 0 < rho i ∧ rho i < 5) (hsm : (bytesL T.cur.ps).length ≤ T.limit) (e : QuE n h rho q li lb) (bk : BkR n h rho) (hn : n ≤ h.size)
  (fB : fitsI .i64 B) (fS : fitsI .i64 size) (h1 : li ≤ 200000) (h2 : lb ≤ 200000) :
  wp P (F_quiet_ask S (some q) (some T.p) (who, A, B, size, es, ())) h fun tg vs h' => tg = 0 ∧ vs = [] ∧ ∃ rho', AdR n h h' rho rho' q (li + 4) (lb + 8) (fun _ => False) := by
 unfold F_quiet_ask
 have hlim := t.lim
 have htk := (toksL_le (enc := T.enc) t.cur.bytes).1
 have hel := els_len T.enc T.cur.ps
 refine s_newB (by simp) fun g1 e1 o1 => ?_
 have o1 : Own h.size 1 g1 ⟨some ⟨h.size, 0, none⟩, 5, 5⟩ [i64v who, i64v A, i64v B, i64v size, slv es] := o1
 have q1 := e1.size
 have lo : ∀ i, h.size ≤ i → rho i = 0 := bk.lo
 have t1 := t.ext e1
 have ol1 : h.size < g1.size := (o1.lt rfl).2
 have a1 : AdR n g1 g1 rho rho q li lb (fun _ => False) := AdR.refl (e.ext e1 (by omega) (by omega)) (bk.mono q1) _
 refine wp_while (fun (r : Int × Unit) h' => ∃ (k : Nat) (rk : Nat → Nat), k ≤ 2 ∧ r.1 = (k : Int) ∧ AdR n g1 h' rho rk q (li + 2 * k) (lb + 4 * k) (fun _ => False)) (fun r _ => (2 - r.1).toNat)
  (fun tag vs h' => tag = 2 ∧ vs = [] ∧ ∃ rho', AdR n g1 h' rho rho' q (li + 4) (lb + 8) (fun _ => False)) ⟨0, rho, by omega, rfl, a1⟩ ?_ ?_
 ·rintro ⟨(k' : Int), u⟩ h' ⟨k, rk, hk2, hk', a⟩
  dsimp only at hk' ⊢
  subst hk'
  refine wp_ifB (fun hc => ?_) fun hc => s_ret ⟨fun hh => absurd hh (by decide), fun _ => ⟨rfl, rfl, rk, ?_⟩⟩
  ·rw [ltI_iff] at hc
   have qa := a.chg.1
   have t' := a.text t1 rt
   have o' := a.own o1 fun i ⟨x, hx, hi⟩ => by cases hx; subst hi; exact lo _ (Nat.le_refl _)
   have rklo : ∀ i, h'.size ≤ i → rk i = 0 := a.bk.lo
   have rko : rk h.size = 0 := a.none _ ol1 (lo _ (Nat.le_refl _)) fun h => h
   refine s_cell (b := .int .i64) A rfl o'.cells rfl (s_cell (b := .int .i64) B rfl o'.cells rfl (s_cell (b := .int .i64) A rfl o'.cells rfl (s_cell (b := .int .i64) B rfl o'.cells rfl ?_)))
   refine wp_call (c_Atoms M C t' fB) fun ⟨(s1 : Sl), _⟩ g2 e2 os1 => ?_
   have os1 : OwnL h'.size .i64 g2 s1 ((cutL (els T.enc T.cur.ps) A B).map (·.1)) := os1
   refine s_ckD (o'.ext e2).cells rfl (s_ckD (o'.ext e2).cells rfl (wp_call (c_Tags M C (t'.ext e2) fB) fun ⟨(s2 : Sl), _⟩ g3 e3 os2 => ?_))
   have os2 : OwnL g2.size .i64 g3 s2 ((cutL (els T.enc T.cur.ps) A B).map (·.2)) := os2
   have cl1 : ((cutL (els T.enc T.cur.ps) A B).map (·.1)).length ≤ 1000000 := by rw [List.length_map]; unfold cutL; rw [List.length_drop, List.length_take]; omega
   have cl2 : ((cutL (els T.enc T.cur.ps) A B).map (·.2)).length ≤ 1000000 := by rw [List.length_map]; unfold cutL; rw [List.length_drop, List.length_take]; omega
   generalize (cutL (els T.enc T.cur.ps) A B).map (·.1) = V1 at os1 cl1
   generalize (cutL (els T.enc T.cur.ps) A B).map (·.2) = V2 at os2 cl2
   refine s_newB (by simp) fun g4 e4 oar => ?_
   have oar : Own g3.size 1 g4 ⟨some ⟨g3.size, 0, none⟩, 2, 2⟩ [slv s1, slv s2] := oar
   have q2 := e2.size; have q3 := e3.size; have q4 := e4.size
   have e24 := (e2.trans e3).trans e4
   have b1' : ∀ i, basB s1 i → i < g2.size := fun i hi => (basB_lt os1 hi).2
   have os1 := (os1.ext e3).ext e4
   have os2 := os2.ext e4
   have b1 : ∀ i, basB s1 i → h'.size ≤ i ∧ i < g4.size := fun i hi => basB_lt os1 hi
   have b2 : ∀ i, basB s2 i → g2.size ≤ i ∧ i < g4.size := fun i hi => basB_lt os2 hi
   have b12 : ∀ i, basB s2 i → ¬ basB s1 i := fun i hi hj => by have := b1' i hj; have := b2 i hi; omega
   have a4 := a.ext e24 (by omega) (by omega)
   refine wp_while (fun (r : Int × Unit) g => ∃ (j : Nat) (rj : Nat → Nat), j ≤ 2 ∧ r.1 = (j : Int) ∧ AdR n g4 g rk rj q (li + 2 * k + j) (lb + 4 * k) (fun i => (1 ≤ j ∧ basB s1 i) ∨ (2 ≤ j ∧ basB s2 i))) (fun r _ => (2 - r.1).toNat)
    (fun tag vs g => tag = 4 ∧ vs = [] ∧ ∃ rj, AdR n g4 g rk rj q (li + 2 * k + 2) (lb + 4 * k) (fun i => basB s1 i ∨ basB s2 i)) ⟨0, rk, by omega, rfl, AdR.refl a4.e a4.bk _⟩ ?_ ?_
   ·rintro ⟨(j' : Int), u⟩ g ⟨j, rj, hj2, hj', b⟩
    dsimp only at hj' ⊢
    subst hj'
    refine wp_ifB (fun hd => ?_) fun hd => s_ret ⟨fun hh => absurd hh (by decide), fun _ => ⟨rfl, rfl, rj, ?_⟩⟩
    ·rw [ltI_iff] at hd
     have qb := b.chg.1
     have oar' := b.own oar fun i ⟨x, hx, hi⟩ => by cases hx; subst hi; exact rklo _ (by dsimp only; omega)
     have qn : n ≤ g.size := by omega
     have hj01 : j = 0 ∨ j = 1 := by omega
     rcases hj01 with rfl | rfl
     ·refine wp_grd rfl (s_cell (b := .sl) s1 rfl oar'.cells rfl ?_)
      refine s_askI b.e b.bk ((b.ownL os1 fun i hi => rklo i (b1 i hi).1).mono (by omega)) (fun i hi => b.none i (b1 i hi).2 (rklo i (b1 i hi).1) fun h => by omega) qn cl1 (by omega) (by omega) fun rj2 g' d => ?_
      rw [add_ok (by omega) (by omega)]
      exact s_ret ⟨fun _ => ⟨(((0 : Nat) : Int) + 1, ()), rfl, ⟨1, rj2, by omega, rfl, b.trans d fun i hi => .inl ⟨Nat.le_refl _, by rcases hi with hi | hi; omega; exact hi⟩⟩, by dsimp only; omega⟩, fun hh => absurd rfl hh⟩
     ·refine wp_grd rfl (s_cell (b := .sl) s2 rfl oar'.cells rfl ?_)
      refine s_askI b.e b.bk ((b.ownL os2 fun i hi => rklo i (by have := b2 i hi; omega)).mono (by omega)) (fun i hi => b.none i (b2 i hi).2 (rklo i (by have := b2 i hi; omega)) fun h => by rcases h with h | h; exact b12 i hi h.2; omega) qn cl2 (by omega) (by omega) fun rj2 g' d => ?_
      rw [add_ok (by omega) (by omega)]
      exact s_ret ⟨fun _ => ⟨(((1 : Nat) : Int) + 1, ()), rfl, ⟨2, rj2, by omega, rfl, b.trans d fun i hi => by
       rcases hi with (hi | hi) | hi
       ·exact .inl ⟨by omega, hi.2⟩
       ·omega
       ·exact .inr ⟨Nat.le_refl _, hi⟩⟩, by dsimp only; omega⟩, fun hh => absurd rfl hh⟩
    ·rw [ltI_not] at hd
     have : j = 2 := by omega
     subst this
     exact b.more fun i hi => by rcases hi with hi | hi; exact .inl hi.2; exact .inr hi.2
   rintro tag vs g5 ⟨rfl, rfl, r5, b⟩
   refine s_tag (s_cast0 ?_)
   have q5 := b.chg.1
   have t5 := b.text (t'.ext e24) fun i hi => by
    have := rt i hi
    rw [a.old i (by omega)]; exact this
   have a5 : AdR n g1 g5 rho r5 q (li + 2 * k + 2) (lb + 4 * k) (fun _ => False) := (a4.trans b (Z := fun i => basB s1 i ∨ basB s2 i) fun i hi => hi.elim (fun f => f.elim) id).fresh fun i hi => by
    rcases hi with hi | hi
    ·have := b1 i hi; omega
    ·have := b2 i hi; omega
   have r5lo : ∀ i, g5.size ≤ i → r5 i = 0 := a5.bk.lo
   refine wp_call (c_Bytes C t5) fun ⟨(s3 : Sl), _⟩ g6 e6 os3 => ?_
   have os3 : OwnL g5.size .u8 g6 s3 (bytesL T.cur.ps) := os3
   refine s_newB (by simp) fun g7 e7 o7 => s_newput (.slice none 0 0) (slv ⟨some ⟨g6.size, 0, none⟩, 1, 1⟩) rfl fun g8 e8 o8 => ?_
   have o7 : Own g6.size 1 g7 ⟨some ⟨g6.size, 0, none⟩, 1, 1⟩ [slv s3] := o7
   have q6 := e6.size
   have l67 : g6.size < g7.size := (o7.lt rfl).2
   have l78 : g7.size < g8.size := (o8.lt rfl).2
   have e68 := e7.trans e8
   have e58 := e6.trans e68
   have t8 := t5.ext e58
   have o15 : Own h.size 1 g5 ⟨some ⟨h.size, 0, none⟩, 5, 5⟩ [i64v who, i64v A, i64v B, i64v size, slv es] := a5.own o1 fun i ⟨x, hx, hi⟩ => by cases hx; subst hi; exact lo _ (Nat.le_refl _)
   refine s_cell (b := .int .i64) size rfl (o15.ext e58).cells rfl (wp_call (c_TChunks C (Z := T.Z) t8 t8.chr fS) fun ⟨(it : Value), _⟩ g9 e9 ⟨c1, c3, hit, itc⟩ => ?_)
   have hit : it = .func (.func S.f_Text_Chunks_1) #[] #[.pointer (some c1), .pointer (some c3)] := hit
   have itc : IterC P it (nchI (bytesL T.cur.ps).length size) (chunkI (bytesL T.cur.ps) size) (fun i => T.Z i ∨ g8.size ≤ i) 8 g9 := itc
   have hf1 : isFunc it = true := by rw [hit]; rfl
   have hf2 : isNilFunc it = false := by rw [hit]; rfl
   dsimp only
   rw [hf1, hf2]
   have q9 := e9.size
   have zlt : ∀ i, T.Z i → i < g5.size := fun i hi => (t5.lo i hi).2
   have b3 : ∀ i, basB s3 i → g5.size ≤ i ∧ i < g6.size := fun i hi => basB_lt os3 hi
   have r0 : LsR g5.size g9 g7.size g6.size g9 ⟨some ⟨g6.size, 0, none⟩, 1, 1⟩ [s3] := by
    refine ⟨Chg.refl _ _, ((o8.ext e9).mono (Nat.zero_le _)), (((o7.ext e8).ext e9).mono (by omega)), fun i ⟨x, hx, hi⟩ => by cases hx; subst hi; exact ⟨by dsimp only; omega, .inl rfl⟩, fun j s hs => ?_, fun j j' s s' hs hs' hne => ?_, ⟨by omega, by omega, by omega⟩⟩
    ·have : s = s3 := by
      cases j with
      | zero => simp at hs; exact hs.symm
      | succ j => simp at hs
     subst this
     exact ⟨⟨_, (os3.ext e68).ext e9, by omega⟩, fun i hi => by
      have := b3 i hi
      exact ⟨by omega, by omega, fun ⟨x, hx, hi'⟩ => by cases hx; dsimp only at hi'; omega, .inl (by omega)⟩⟩
    ·have h1 := (List.getElem?_eq_some_iff.1 hs).1
     have h2 := (List.getElem?_eq_some_iff.1 hs').1
     simp at h1 h2
     omega
   refine wp_bind (fun tag vs h'' => tag = 0 ∧ vs = [] ∧ ∃ ls Ls, LsR g5.size g9 g7.size g6.size h'' ls Ls ∧ Ls.length ≤ 4) ?_ ?_
   ·refine wp_grd rfl (s_ifT (wp_callv (DynE.mono (itc g9 _ (fun k h' => ∃ ls Ls, LsR g5.size g9 g7.size g6.size h' ls Ls ∧ Ls.length ≤ 3) (fun h' => ∃ ls Ls, LsR g5.size g9 g7.size g6.size h' ls Ls ∧ Ls.length ≤ 4) (Nat.le_refl _) (Held.refl _ _) rfl
     (fun k a b ⟨ls, Ls, r, hl⟩ c => ⟨ls, Ls, r.own c, hl⟩) (fun a b ⟨ls, Ls, r, hl⟩ c => ⟨ls, Ls, r.own c, hl⟩) (fun kk hp h1 s hkN ⟨ls, Ls, r, hl⟩ hps c hz os => ?_) ⟨_, _, r0, by show 1 ≤ 3; omega⟩) fun vs h'' ⟨hv, _, _, hend⟩ => ⟨(), hv, s_ret ⟨rfl, rfl, ?_⟩⟩).toV))
    ·have r1 := r.own c
     have hph := c.1
     refine (Y.qa s (some ⟨g7.size, 0, none⟩) h1 _ ?_).toV
     refine wp_mono _ (fun tg vs h2 ⟨ht, b, hv, cc, ls', r', hb⟩ => ⟨ht, b, hv, ?_, fun hb' => ⟨ls', _, r', by have := hb hb'; rw [List.length_append]; show _ + 1 ≤ _; omega⟩, fun _ => ⟨ls', _, r', by rw [List.length_append]; show _ + 1 ≤ _; omega⟩⟩) (c_ask_1 r1 (by omega) os (Nat.le_trans (chunk_len _ _ _) (by omega)) hps hph (by omega) (fun j t ht i hi => ?_) (fun i hi => ?_) hl)
     ·obtain ⟨⟨v, o, _⟩, _⟩ := r.it j t ht
      exact (basB_lt o hi).2
     ·obtain ⟨x, hx, rfl⟩ := hi
      exact (r.o.lt hx).2
     ·refine Held.of_chg cc fun i hi hw f => ?_
      rcases f with f | f
      ·rcases hw with hw | hw
       ·have := hw.1; omega
       ·rcases hw.1 with hz' | hz'
        ·have := zlt i hz'; omega
        ·omega
      ·have lb' := (r1.lb i f).2
       rcases hw with hw | hw
       ·have h1 := hw.1; have h2 := hw.2; omega
       ·rcases hw.1 with hz' | hz'
        ·have := zlt i hz'; omega
        ·have := hw.2; omega
    ·rcases hend with ⟨ls, Ls, r, hl⟩ | ⟨ls, Ls, r, hl⟩
     ·exact ⟨ls, Ls, r, by omega⟩
     ·exact ⟨ls, Ls, r, hl⟩
   rintro tag vs g10 ⟨rfl, rfl, ls, Ls, r, hLs⟩
   refine s_tag (s_cast0 (s_cel (b := .sl) (x := ls) r.c ?_))
   have q10 := r.chg.1
   have a10 : AdR n g1 g10 rho r5 q (li + 2 * k + 2) (lb + 4 * k) (fun _ => False) := (a5.ext (e58.trans e9) (by omega) (by omega)).step r.chg (fun i hi => by
    rcases hi with hi | hi
    ·exact ⟨by omega, r5lo i (by omega)⟩
    ·exact ⟨by omega, r5lo i (by omega)⟩) (by omega) (by omega)
   have lls : ls.len = Ls.length := by have := r.o.1; rw [Nat.mul_one, List.length_map] at this; exact this
   refine wp_while (fun (z : Int × Unit) g => ∃ (j : Nat) (rj : Nat → Nat), j ≤ Ls.length ∧ z.1 = (j : Int) ∧ AdR n g10 g r5 rj q (li + 2 * k + 2) (lb + 4 * k + j) (fun i => ∃ (j' : Nat) (s : Sl), j' < j ∧ Ls[j']? = some s ∧ basB s i)) (fun z _ => (Ls.length - z.1).toNat)
    (fun tag vs g => tag = 6 ∧ vs = [] ∧ ∃ rj, AdR n g10 g r5 rj q (li + 2 * k + 2) (lb + 4 * k + 4) (fun i => g5.size ≤ i)) ⟨0, r5, Nat.zero_le _, rfl, AdR.refl a10.e a10.bk _⟩ ?_ ?_
   ·rintro ⟨(j' : Int), u⟩ g ⟨j, rj, hj2, hj', d⟩
    dsimp only at hj' ⊢
    subst hj'
    refine wp_ifB (fun hd => ?_) fun hd => s_ret ⟨fun hh => absurd hh (by decide), fun _ => ⟨rfl, rfl, rj, ?_⟩⟩
    ·rw [ltI_iff, natI_def, lls] at hd
     have hjl : j < Ls.length := by omega
     have qd := d.chg.1
     obtain ⟨s, hs⟩ : ∃ s, Ls[j]? = some s := ⟨Ls[j], List.getElem?_eq_getElem hjl⟩
     obtain ⟨⟨v, os, hv⟩, hb⟩ := r.it j s hs
     have bs : ∀ i, basB s i → g5.size ≤ i ∧ i < g10.size := fun i hi => basB_lt os hi
     have ol' := d.own r.o fun i ⟨x, hx, hi⟩ => by subst hi; exact r5lo _ (r.o.lt hx).1
     refine s_ldV (b := .sl) (x := s) ol' (by rw [List.getElem?_map, hs]; rfl) ?_
     refine s_askB d.e d.bk ((d.ownL os fun i hi => r5lo i (bs i hi).1).mono (by omega)) (fun i hi => d.none i (bs i hi).2 (r5lo i (bs i hi).1) fun ⟨j', s', hlt, hs', hi'⟩ => r.ne j' j s' s hs' hs (by omega) i hi' hi) (by omega) hv (by omega) (by omega) fun rj2 g' dd => ?_
     rw [add_ok (by omega) (by omega)]
     refine s_ret ⟨fun _ => ⟨((j : Int) + 1, ()), rfl, ⟨j + 1, rj2, by omega, by dsimp only; omega, d.trans dd fun i hi => ?_⟩, by dsimp only; omega⟩, fun hh => absurd rfl hh⟩
     rcases hi with ⟨j', s', hlt, hs', hi'⟩ | hi
     ·exact ⟨j', s', by omega, hs', hi'⟩
     ·exact ⟨j, s, by omega, hs, hi⟩
    ·exact (d.up (Nat.le_refl _) (by omega)).more fun i ⟨j', s', _, hs', hi'⟩ => by
      obtain ⟨⟨v, os, hv⟩, _⟩ := r.it j' s' hs'
      exact (basB_lt os hi').1
   rintro tag vs g11 ⟨rfl, rfl, r11, d⟩
   refine s_tag (s_cast0 ?_)
   rw [add_ok (by omega) (by omega)]
   refine s_ret ⟨fun _ => ⟨((k : Int) + 1, ()), rfl, ⟨k + 1, r11, by omega, by dsimp only; omega, ?_⟩, by dsimp only; omega⟩, fun hh => absurd rfl hh⟩
   exact ((a10.trans d (Z := fun i => g5.size ≤ i) fun i hi => hi.elim (fun f => f.elim) id).fresh fun i hi => by omega).up (by omega) (by omega)
  ·rw [ltI_not] at hc
   have : k = 2 := by omega
   subst this
   exact a.up (by omega) (by omega)
 ·rintro tag vs h' ⟨rfl, rfl, rho', a⟩
  exact s_tag (s_cast0 (s_ret ⟨rfl, rfl, rho', a.pre e1⟩))
end Go.Sw.Piece

set_option linter.unusedVariables false
set_option linter.unusedSimpArgs false
set_option maxRecDepth 100000
namespace Go.Sw.Piece
open Go.Sw.Any Go.Sw.Codec
open Go.Sw.Tree (iv s_putAll s_newP s_getP s_getT s_putP eqI_self Placed cell_own wp_whileG minI_eq)
variable {P : Program} {S : Ids} {h : Heap} {Q : Nat → List Value → Heap → Prop}
variable {n li lb : Nat} {rho rho' : Nat → Nat} {sh : Addr}
def ShE (n : Nat) (h : Heap) (rho : Nat → Nat) (sh : Addr) (li lb : Nat) : Prop := ∃ si sb sm sq I B, ShR n h rho sh si sb sm sq I B ∧ I.length ≤ li ∧ B.length ≤ lb
theorem ShE.chg {F : Nat → Prop} {h' : Heap} (e : ShE n h rho sh li lb) (c : Chg F h h') (hF : ∀ i, F i → rho i < 5 ∨ 10 < rho i) (he : ∀ i, 0 < rho i → rho i < 1000000 → rho' i = rho i) : ShE n h' rho' sh li lb := by
 obtain ⟨si, sb, sm, sq, I, B, r, l1, l2⟩ := e
 exact ⟨si, sb, sm, sq, I, B, r.chg c hF he, l1, l2⟩
theorem ShE.ext {h' : Heap} (e : ShE n h rho sh li lb) (x : Ext h h') : ShE n h' rho sh li lb := e.chg (Chg.of_ext (F := fun _ => False) x) (fun i f => f.elim) (fun _ _ _ => rfl)
theorem ShE.mono {li' lb' : Nat} (e : ShE n h rho sh li lb) (h1 : li ≤ li') (h2 : lb ≤ lb') : ShE n h rho sh li' lb' := by
 obtain ⟨si, sb, sm, sq, I, B, r, l1, l2⟩ := e
 exact ⟨si, sb, sm, sq, I, B, r, by omega, by omega⟩
structure PdR (n : Nat) (h h' : Heap) (rho rho' : Nat → Nat) (sh : Addr) (li lb : Nat) (X Y : Nat → Prop) : Prop where
 chg : Chg (fun i => X i ∨ Y i ∨ (5 ≤ rho i ∧ rho i ≤ 9)) h h'
 e : ShE n h' rho' sh li lb
 old : ∀ i, rho i ≠ 0 → rho' i = rho i
 none : ∀ i, i < h.size → rho i = 0 → ¬ X i → rho' i = 0
 x : ∀ i, i < h.size → rho i = 0 → rho' i = 0 ∨ 10 ≤ rho' i
 bk : BkR n h' rho'
theorem PdR.refl (e : ShE n h rho sh li lb) (bk : BkR n h rho) (X Y : Nat → Prop) : PdR n h h rho rho sh li lb X Y := ⟨Chg.refl _ _, e, fun _ _ => rfl, fun _ _ h _ => h, fun _ _ h => .inl h, bk⟩
theorem PdR.trans {h1 h2 : Heap} {rho1 rho2 : Nat → Nat} {li1 lb1 li2 lb2 : Nat} {X X' X2 Y Y' Y2 : Nat → Prop} (a : PdR n h h1 rho rho1 sh li1 lb1 X Y) (b : PdR n h1 h2 rho1 rho2 sh li2 lb2 X' Y') (hx : ∀ i, i < h.size → X i ∨ X' i → X2 i) (hy : ∀ i, i < h.size → Y i ∨ Y' i → Y2 i) : PdR n h h2 rho rho2 sh li2 lb2 X2 Y2 := by
 have q1 := a.chg.1
 refine ⟨⟨by have := b.chg.1; omega, fun i hi hf => ?_, fun z hz => b.chg.2.2 z (a.chg.2.2 z hz)⟩, b.e, fun i hi => ?_, fun i hi h0 hX => ?_, fun i hi h0 => ?_, b.bk⟩
 ·refine (b.chg.2.1 i (by omega) fun f => hf ?_).trans (a.chg.2.1 i hi fun f => hf ?_)
  ·rcases f with f | f | f
   ·exact .inl (hx i hi (.inr f))
   ·exact .inr (.inl (hy i hi (.inr f)))
   ·by_cases h0 : rho i = 0
    ·have := a.x i hi h0; omega
    ·rw [a.old i h0] at f; exact .inr (.inr f)
  ·rcases f with f | f | f
   ·exact .inl (hx i hi (.inl f))
   ·exact .inr (.inl (hy i hi (.inl f)))
   ·exact .inr (.inr f)
 ·have := a.old i hi
  rw [b.old i (by omega)]; exact this
 ·exact b.none i (by omega) (a.none i hi h0 fun h => hX (hx i hi (.inl h))) fun h => hX (hx i hi (.inr h))
 ·rcases a.x i hi h0 with h | h
  ·exact b.x i (by omega) h
  ·right; rw [b.old i (by omega)]; exact h
theorem PdR.step {h1 h2 : Heap} {rho1 : Nat → Nat} {F X Y Y2 : Nat → Prop} (a : PdR n h h1 rho rho1 sh li lb X Y) (c : Chg F h1 h2) (hF : ∀ i, F i → rho1 i = 0) (hy : ∀ i, i < h.size → Y i ∨ F i → Y2 i) : PdR n h h2 rho rho1 sh li lb X Y2 := by
 have q1 := a.chg.1
 refine ⟨⟨by have := c.1; omega, fun i hi hf => ?_, fun z hz => c.2.2 z (a.chg.2.2 z hz)⟩, a.e.chg c (fun i f => by have := hF i f; omega) (fun _ _ _ => rfl), a.old, a.none, a.x, a.bk.mono c.1⟩
 refine (c.2.1 i (by omega) fun f => hf (.inr (.inl (hy i hi (.inr f))))).trans (a.chg.2.1 i hi fun f => hf ?_)
 rcases f with f | f | f
 ·exact .inl f
 ·exact .inr (.inl (hy i hi (.inl f)))
 ·exact .inr (.inr f)
theorem PdR.ext {h1 h2 : Heap} {rho1 : Nat → Nat} {X Y : Nat → Prop} (a : PdR n h h1 rho rho1 sh li lb X Y) (e : Ext h1 h2) : PdR n h h2 rho rho1 sh li lb X Y := a.step (F := fun _ => False) (Chg.of_ext e) (fun i f => f.elim) fun i _ hi => hi.elim id fun f => f.elim
theorem PdR.pre {h0 h1 : Heap} {rho1 : Nat → Nat} {X Y : Nat → Prop} (a : PdR n h h1 rho rho1 sh li lb X Y) (e : Ext h0 h) : PdR n h0 h1 rho rho1 sh li lb X Y := ⟨Chg.pre e a.chg, a.e, a.old, fun i hi => a.none i (by have := e.size; omega), fun i hi => a.x i (by have := e.size; omega), a.bk⟩
theorem PdR.up {h1 : Heap} {rho1 : Nat → Nat} {li' lb' : Nat} {X Y : Nat → Prop} (a : PdR n h h1 rho rho1 sh li lb X Y) (l1 : li ≤ li') (l2 : lb ≤ lb') : PdR n h h1 rho rho1 sh li' lb' X Y := ⟨a.chg, a.e.mono l1 l2, a.old, a.none, a.x, a.bk⟩
theorem PdR.less {h1 : Heap} {rho1 : Nat → Nat} {X Y X2 Y2 : Nat → Prop} (a : PdR n h h1 rho rho1 sh li lb X Y) (hx : ∀ i, i < h.size → X i → X2 i) (hy : ∀ i, i < h.size → Y i → Y2 i) : PdR n h h1 rho rho1 sh li lb X2 Y2 :=
 ⟨⟨a.chg.1, fun i hi hf => a.chg.2.1 i hi fun f => hf (f.imp (hx i hi) fun f => f.imp (hy i hi) id), a.chg.2.2⟩, a.e, a.old, fun i hi h0 hX => a.none i hi h0 fun h => hX (hx i hi h), a.x, a.bk⟩
theorem PutS.pd {l : Sl} {I B : List (Sl × Int)} {si' sb' sm' sq' : Sl} {I' B' : List (Sl × Int)} {h' : Heap} (p : PutS n h h' rho rho' sh l I B si' sb' sm' sq' I' B') : PdR n h h' rho rho' sh (I.length + 4) (B.length + 4) (basB l) (fun _ => False) :=
 ⟨p.chg.mono fun i _ f => f.imp id .inr, ⟨si', sb', sm', sq', I', B', p.s, p.li, p.lb⟩, p.old, p.none, fun i hi h0 => by
  by_cases hl : basB l i
  ·right; rw [p.pos i hl]; exact Nat.le_refl _
  ·exact .inl (p.none i hi h0 hl), p.bk⟩
theorem s_shI {l : Sl} {A : List Int} {K : Unit → Prog} (e : ShE n h rho sh li lb) (bk : BkR n h rho) (ol : OwnL n .i64 h l A) (fr : ∀ i, basB l i → rho i = 0) (hn : n ≤ h.size) (hA : A.length ≤ 1000000) (h1 : li ≤ 900000) (hk : ∀ rho' h', PdR n h h' rho rho' sh (li + 4) (lb + 4) (basB l) (fun _ => False) → wp P (K ()) h' Q) :
  wp P (.call (F_shelf_put S (some sh) l) [] K) h Q := by
 obtain ⟨si, sb, sm, sq, I, B, r, l1, l2⟩ := e
 exact wp_callW (c_put r bk ol fr hn hA (by omega)) fun tg vs h' ⟨ht, hv, rho', _, _, _, _, _, _, p⟩ => ⟨ht, (), hv, hk rho' h' (p.pd.up (by omega) (by omega))⟩
theorem s_shB {l : Sl} {A : List Int} {K : Unit → Prog} (e : ShE n h rho sh li lb) (bk : BkR n h rho) (ol : OwnL n .u8 h l A) (fr : ∀ i, basB l i → rho i = 0) (hn : n ≤ h.size) (hA : A.length ≤ 1000000) (h1 : lb ≤ 900000) (hk : ∀ rho' h', PdR n h h' rho rho' sh (li + 4) (lb + 4) (basB l) (fun _ => False) → wp P (K ()) h' Q) :
  wp P (.call (F_shelf_putBytes S (some sh) l) [] K) h Q := by
 obtain ⟨si, sb, sm, sq, I, B, r, l1, l2⟩ := e
 exact wp_callW (c_putBytes r bk ol fr hn hA (by omega)) fun tg vs h' ⟨ht, hv, rho', _, _, _, _, _, _, p⟩ => ⟨ht, (), hv, hk rho' h' (p.pd.up (by omega) (by omega))⟩
structure HoR (n : Nat) (hc : Heap) (rho : Nat → Nat) (sh : Addr) (li lb : Nat) (a1 aN k : Nat) (h' : Heap) : Prop where
 a : ∃ rk, PdR n hc h' rho rk sh (li + 4 * k) (lb + 4 * k) (fun _ => False) (fun i => i = aN) ∧ ∀ i, Sw.own hc.size 8 i → rk i = 0
 c : Cel 0 h' ⟨aN, 0, none⟩ (i64v k)
 p : Cel 0 h' ⟨a1, 0, none⟩ (.pointer (some sh))
 al : a1 < hc.size ∧ aN < hc.size ∧ a1 ≠ aN ∧ rho a1 = 0 ∧ rho aN = 0
theorem HoR.own {hc a b : Heap} {a1 aN k : Nat} (r : HoR n hc rho sh li lb a1 aN k a) (c : Chg (Sw.own hc.size 8) a b) : HoR n hc rho sh li lb a1 aN k b := by
 obtain ⟨⟨rk, p, ho⟩, rc, rp, al⟩ := r
 exact ⟨⟨rk, p.step c ho fun i hi f => f.elim id fun f => by have := f.1; omega, ho⟩, c.own rc fun x hx f => by cases hx; have := f.1; dsimp only at this; omega, c.own rp fun x hx f => by cases hx; have := f.1; dsimp only at this; omega, al⟩
theorem c_handOut_1 {hc hp h1 : Heap} {a1 aN k : Nat} {s : Sl} {v : List Int} (r : HoR n hc rho sh li lb a1 aN k h1) (rp : HoR n hc rho sh li lb a1 aN k hp) (c : Chg (Sw.own hc.size 8) hp h1) (hps : hc.size + 8 ≤ hp.size) (hn : n ≤ hc.size) (os : OwnL hp.size .u8 h1 s v) (hv : v.length ≤ 1000000) (hk : k ≤ 19) (h1' : li ≤ 800000) (h2' : lb ≤ 800000) :
  wp P (F_shelf_handOut_1 S s (some ⟨a1, 0, none⟩) (some ⟨aN, 0, none⟩)) h1 fun tg vs h2 => tg = 0 ∧ ∃ (b : Bool) (rk : Nat → Nat), vs = [.bool b] ∧ (∀ i, rho i ≠ 0 → rk i = rho i) ∧ (∀ i, i < hc.size → rho i = 0 → rk i = 0) ∧ (∀ i, Sw.own hc.size 8 i → rk i = 0) ∧ Chg (fun i => i = aN ∨ hp.size ≤ i ∨ (5 ≤ rk i ∧ rk i ≤ 9)) h1 h2 ∧ HoR n hc rho sh li lb a1 aN (k + 1) h2 ∧ (b = true → k + 1 ≤ 19) := by
 unfold F_shelf_handOut_1
 obtain ⟨⟨rk0, pp0, ho0⟩, _, _, _⟩ := rp
 have hph := c.1
 have pd : PdR n hc h1 rho rk0 sh (li + 4 * k) (lb + 4 * k) (fun _ => False) (fun i => i = aN) := pp0.step c ho0 fun i hi f => f.elim id fun f => by have := f.1; omega
 have q1 := pd.chg.1
 have rc := r.c; have rp := r.p; have al := r.al
 have bs : ∀ i, basB s i → hp.size ≤ i ∧ i < h1.size := fun i hi => basB_lt os hi
 refine s_cel (b := .ptr) (x := some sh) rp (s_shB pd.e pd.bk (os.mono (by omega)) (fun i hi => pp0.bk.lo i (bs i hi).1) (by omega) hv (by omega) fun rk h2 p2 => ?_)
 have z1 : rk0 a1 = 0 := pd.none _ al.1 al.2.2.2.1 fun h => h
 have zN : rk0 aN = 0 := pd.none _ al.2.1 al.2.2.2.2 fun h => h
 have F2 : ∀ {i : Nat}, i < hc.size → rk0 i = 0 → ¬ (basB s i ∨ False ∨ (5 ≤ rk0 i ∧ rk0 i ≤ 9)) := fun {i} hi h0 f => by
  rcases f with f | f | f
  ·have := bs i f; omega
  ·exact f
  ·omega
 have c2 : Cel 0 h2 ⟨aN, 0, none⟩ (i64v k) := p2.chg.own rc fun x hx f => by cases hx; exact F2 al.2.1 zN f
 have p2' : Cel 0 h2 ⟨a1, 0, none⟩ (.pointer (some sh)) := p2.chg.own rp fun x hx f => by cases hx; exact F2 al.1 z1 f
 refine s_cel (b := .int .i64) (x := (k : Int)) c2 ?_
 rw [add_ok (by omega) (by omega)]
 refine s_celput (i64v ((k + 1 : Nat) : Int)) c2 rfl fun h3 c3 u3 => s_cel (b := .int .i64) (x := ((k + 1 : Nat) : Int)) c3 (s_ret ⟨rfl, _, rk, rfl, ?_, ?_, ?_, ?_, ?_, fun hb => ?_⟩)
 ·intro i hi
  have := pd.old i hi
  rw [p2.old i (by omega)]; exact this
 ·intro i hi h0
  exact p2.none i (by omega) (pd.none i hi h0 fun h => h) fun h => by have := bs i h; omega
 ·intro i hi
  have h8 := hi.2
  exact p2.none i (by omega) (ho0 i hi) fun h => by have := bs i h; omega
 ·have k3 : Chg (fun i => i = aN) h2 h3 := Chg.of_upd u3 fun y hy _ => by cases hy; rfl
  refine (p2.chg.mono (G := fun i => i = aN ∨ hp.size ≤ i ∨ (5 ≤ rk i ∧ rk i ≤ 9)) fun i _ f => ?_).trans k3 fun i _ f => .inl f
  rcases f with f | f | f
  ·exact .inr (.inl (bs i f).1)
  ·exact f.elim
  ·right; right; rw [p2.old i (by omega)]; exact f
 ·have k3 : Chg (fun i => i = aN) h2 h3 := Chg.of_upd u3 fun y hy _ => by cases hy; rfl
  have zN2 : rk aN = 0 := p2.none _ (by omega) zN fun h => by have := bs _ h; omega
  refine ⟨⟨rk, ?_, fun i hi => ?_⟩, c3, k3.own p2' fun x hx f => by cases hx; exact al.2.2.1 f, al⟩
  ·have := pd.trans p2 (X2 := fun _ => False) (Y2 := fun i => i = aN) (fun i hi f => f.elim id fun f => by have := bs i f; omega) (fun i hi f => f.elim id fun f => f.elim)
   exact (this.step k3 (fun i f => by rw [f]; exact zN2) fun i _ f => f.elim id id).up (by omega) (by omega)
  ·have h8 := hi.2
   exact p2.none i (by omega) (ho0 i hi) fun h => by have := bs i h; omega
 ·have hb : ltI ((k + 1 : Nat) : Int) 20 = true := hb
  rw [ltI_iff] at hb; omega
end Go.Sw.Piece

set_option linter.unusedVariables false
set_option linter.unusedSimpArgs false
set_option maxRecDepth 100000
namespace Go.Sw.Piece
open Go.Sw.Any Go.Sw.Codec
open Go.Sw.Tree (iv s_putAll s_newP s_getP s_getT s_putP eqI_self Placed cell_own wp_whileG minI_eq)
variable {P : Program} {S : Ids} {h : Heap} {Q : Nat → List Value → Heap → Prop}
variable {n li lb : Nat} {rho rho' : Nat → Nat} {sh : Addr}
abbrev PdN (n : Nat) (h h' : Heap) (rho rho' : Nat → Nat) (sh : Addr) (li lb : Nat) : Prop := PdR n h h' rho rho' sh li lb (fun _ => False) (fun _ => False)
theorem PdR.own0 {h1 : Heap} {rho1 : Nat → Nat} {m z : Nat} {s : Sl} {vs : List Value} (a : PdN n h h1 rho rho1 sh li lb) (o : Own m z h s vs) (hs : ∀ i, basB s i → rho i < 5 ∨ 9 < rho i) : Own m z h1 s vs := a.chg.own o fun y hy f => by
 have := hs _ ⟨y, hy, rfl⟩
 rcases f with f | f | f
 ·exact f
 ·exact f
 ·omega
theorem PdR.text0 {h1 : Heap} {rho1 : Nat → Nat} {T : TX} (a : PdN n h h1 rho rho1 sh li lb) (t : TextR S n h T) (rt : ∀ i, T.Z i → 0 < rho i ∧ rho i < 5) : TextR S n h1 T := t.chg a.chg fun i hi f => by
 have := rt i hi
 rcases f with f | f | f
 ·exact f
 ·exact f
 ·omega
theorem c_handOut (M : Meth0 P S) (C : Cl P S) (Y : ClA P S) {T : TX} {who A B size : Int} {es : Sl} (t : TextR S n h T) (rt : ∀ i, T.Z i → 0 < rho i ∧ rho i < 5) (hsm : (bytesL T.cur.ps).length ≤ T.limit) (e : ShE n h rho sh li lb) (bk : BkR n h rho) (hn : n ≤ h.size)
  (fB : fitsI .i64 B) (fS : fitsI .i64 size) (h1 : li ≤ 200000) (h2 : lb ≤ 200000) :
  wp P (F_shelf_handOut S (some sh) (some T.p) (who, A, B, size, es, ())) h fun tg vs h' => tg = 0 ∧ vs = [] ∧ ∃ rho', PdN n h h' rho rho' sh (li + 92) (lb + 92) := by
 unfold F_shelf_handOut
 have hlim := t.lim
 have htk := (toksL_le (enc := T.enc) t.cur.bytes).1
 have hel := els_len T.enc T.cur.ps
 have lo : ∀ i, h.size ≤ i → rho i = 0 := bk.lo
 refine s_newB (by simp) fun g1 e1 o1 => s_newB (by simp) fun g2 e2 o2 => ?_
 have o1 : Cel h.size g1 ⟨h.size, 0, none⟩ (.pointer (some sh)) := o1
 have o2 : Own g1.size 1 g2 ⟨some ⟨g1.size, 0, none⟩, 5, 5⟩ [i64v who, i64v A, i64v B, i64v size, slv es] := o2
 have q1 : h.size < g1.size := (o1.lt rfl).2
 have q2 : g1.size < g2.size := (o2.lt rfl).2
 have e12 := e1.trans e2
 have d2 : PdN n g2 g2 rho rho sh li lb := PdR.refl (e.ext e12) (bk.mono e12.size) _ _
 have t2 := t.ext e12
 have o1 := o1.ext e2
 have bO1 : ∀ i, basB ⟨some ⟨h.size, 0, none⟩, 1, 1⟩ i → rho i < 5 ∨ 9 < rho i := fun i ⟨x, hx, hi⟩ => by cases hx; subst hi; have := lo h.size (Nat.le_refl _); dsimp only; omega
 have bO2 : ∀ i, basB ⟨some ⟨g1.size, 0, none⟩, 5, 5⟩ i → rho i < 5 ∨ 9 < rho i := fun i ⟨x, hx, hi⟩ => by cases hx; subst hi; have := lo g1.size (by omega); dsimp only; omega
 have cl : ∀ (f : El → Int), ((cutL (els T.enc T.cur.ps) A B).map f).length ≤ 1000000 := fun f => by rw [List.length_map]; unfold cutL; rw [List.length_drop, List.length_take]; omega
 refine s_cel (b := .ptr) (x := some sh) o1 (s_cell (b := .int .i64) A rfl o2.cells rfl (s_cell (b := .int .i64) B rfl o2.cells rfl (wp_call (c_Atoms M C t2 fB) fun ⟨(s1 : Sl), _⟩ g3 e3 os1 => ?_)))
 have os1 : OwnL g2.size .i64 g3 s1 ((cutL (els T.enc T.cur.ps) A B).map (·.1)) := os1
 have q3 := e3.size
 have b1 : ∀ i, basB s1 i → g2.size ≤ i ∧ i < g3.size := fun i hi => basB_lt os1 hi
 refine s_celck (o1.ext e3) (s_shI (d2.e.ext e3) (d2.bk.mono q3) (os1.mono (by omega)) (fun i hi => lo i (by have := b1 i hi; omega)) (by omega) (cl _) (by omega) fun r4 g4 p4 => ?_)
 have d4 : PdN n g2 g4 rho r4 sh (li + 4) (lb + 4) := (p4.pre e3).less (fun i hi f => by have := b1 i f; omega) fun _ _ f => f
 have t4 := d4.text0 t2 rt
 have q4 := d4.chg.1
 have o14 : Cel h.size g4 ⟨h.size, 0, none⟩ (.pointer (some sh)) := d4.own0 o1 bO1
 have o24 := d4.own0 o2 bO2
 refine s_cel (b := .ptr) (x := some sh) o14 (s_cell (b := .int .i64) A rfl o24.cells rfl (s_cell (b := .int .i64) B rfl o24.cells rfl (wp_call (c_Tags M C t4 fB) fun ⟨(s2 : Sl), _⟩ g5 e5 os2 => ?_)))
 have os2 : OwnL g4.size .i64 g5 s2 ((cutL (els T.enc T.cur.ps) A B).map (·.2)) := os2
 have q5 := e5.size
 have b2 : ∀ i, basB s2 i → g4.size ≤ i ∧ i < g5.size := fun i hi => basB_lt os2 hi
 refine s_celck (o14.ext e5) (s_shI (d4.e.ext e5) (d4.bk.mono q5) (os2.mono (by omega)) (fun i hi => d4.bk.lo i (b2 i hi).1) (by omega) (cl _) (by omega) fun r6 g6 p6 => ?_)
 have d6 : PdN n g2 g6 rho r6 sh (li + 4 + 4) (lb + 4 + 4) := d4.trans (p6.pre e5) (fun i hi f => by rcases f with f | f; exact f; have := b2 i f; omega) fun i hi f => f.elim id id
 have t6 := d6.text0 t2 rt
 have q6 := d6.chg.1
 have o16 : Cel h.size g6 ⟨h.size, 0, none⟩ (.pointer (some sh)) := d6.own0 o1 bO1
 have o26 := d6.own0 o2 bO2
 refine s_cel (b := .ptr) (x := some sh) o16 (wp_call (c_Bytes C t6) fun ⟨(s3 : Sl), _⟩ g7 e7 os3 => ?_)
 have os3 : OwnL g6.size .u8 g7 s3 (bytesL T.cur.ps) := os3
 have q7 := e7.size
 have b3 : ∀ i, basB s3 i → g6.size ≤ i ∧ i < g7.size := fun i hi => basB_lt os3 hi
 refine s_celck (o16.ext e7) (s_shB (d6.e.ext e7) (d6.bk.mono q7) (os3.mono (by omega)) (fun i hi => d6.bk.lo i (b3 i hi).1) (by omega) (by omega) (by omega) fun r8 g8 p8 => ?_)
 have d8 : PdN n g2 g8 rho r8 sh (li + 4 + 4 + 4) (lb + 4 + 4 + 4) := d6.trans (p8.pre e7) (fun i hi f => by rcases f with f | f; exact f; have := b3 i f; omega) fun i hi f => f.elim id id
 have t8 := d8.text0 t2 rt
 have q8 := d8.chg.1
 have o18 : Cel h.size g8 ⟨h.size, 0, none⟩ (.pointer (some sh)) := d8.own0 o1 bO1
 have o28 := d8.own0 o2 bO2
 refine s_cell (b := .int .i64) size rfl o28.cells rfl (wp_call (c_TChunks C (Z := T.Z) t8 t8.chr fS) fun ⟨(it : Value), _⟩ g9 e9 ⟨c1, c3, hit, itc⟩ => ?_)
 have hit : it = .func (.func S.f_Text_Chunks_1) #[] #[.pointer (some c1), .pointer (some c3)] := hit
 have itc : IterC P it (nchI (bytesL T.cur.ps).length size) (chunkI (bytesL T.cur.ps) size) (fun i => T.Z i ∨ g8.size ≤ i) 8 g9 := itc
 have hf1 : isFunc it = true := by rw [hit]; rfl
 have hf2 : isNilFunc it = false := by rw [hit]; rfl
 have q9 := e9.size
 refine s_newput (i64v 0) (i64v 0) rfl fun g10 e10 o10 => ?_
 have q10 : g9.size < g10.size := (o10.lt rfl).2
 dsimp only
 rw [hf1, hf2]
 have r8lo : ∀ i, g8.size ≤ i → r8 i = 0 := d8.bk.lo
 have r8o : ∀ i, i < g2.size → rho i = 0 → r8 i = 0 := fun i hi h0 => d8.none i hi h0 fun h => h
 have zr : ∀ i, T.Z i → 0 < r8 i ∧ r8 i < 5 := fun i hi => by have := rt i hi; rw [d8.old i (by omega)]; exact this
 have d10 : PdN n g2 g10 rho r8 sh (li + 4 + 4 + 4) (lb + 4 + 4 + 4) := (d8.ext e9).ext e10
 have j0 : HoR n g10 r8 sh (li + 12) (lb + 12) h.size g9.size 0 g10 := ⟨⟨r8, PdR.refl d10.e d10.bk _ _, fun i hi => r8lo i (by have := hi.1; omega)⟩, o10.mono (Nat.zero_le _), ((o18.ext e9).ext e10).mono (Nat.zero_le _), ⟨by omega, by omega, by omega, r8o _ (by omega) (lo _ (Nat.le_refl _)), r8lo _ (by omega)⟩⟩
 refine wp_grd rfl (s_ifT (wp_callv (DynE.mono (itc g10 _ (fun k h' => HoR n g10 r8 sh (li + 12) (lb + 12) h.size g9.size k h' ∧ k ≤ 19) (fun h' => ∃ k, HoR n g10 r8 sh (li + 12) (lb + 12) h.size g9.size k h' ∧ k ≤ 20) (by omega) (Held.of_ext e10) rfl
  (fun k a b ⟨r, hl⟩ c => ⟨r.own c, hl⟩) (fun a b ⟨k, r, hl⟩ c => ⟨k, r.own c, hl⟩) (fun k hp h1 s hkN ⟨r, hl⟩ hps c hz os => ?_) ⟨j0, by decide⟩) fun vs h'' ⟨hv, _, _, hend⟩ => ⟨(), hv, s_ret ⟨rfl, rfl, ?_⟩⟩).toV))
 ·refine (Y.ho s (some ⟨h.size, 0, none⟩) (some ⟨g9.size, 0, none⟩) h1 _ ?_).toV
  refine wp_mono _ (fun tg vs h2 ⟨ht, b, rk, hv, hold, hnone, hown, cc, r', hb⟩ => ⟨ht, b, hv, ?_, fun hb' => ⟨r', hb hb'⟩, fun _ => ⟨_, r', by omega⟩⟩) (c_handOut_1 (r.own c) r c hps (by omega) os (Nat.le_trans (chunk_len _ _ _) (by omega)) hl (by omega) (by omega))
  refine Held.of_chg cc fun i hi hw f => ?_
  rcases f with f | f | f
  ·rcases hw with hw | hw
   ·have := hw.1; omega
   ·have := hw.2; omega
  ·rcases hw with hw | hw
   ·have := hw.2; omega
   ·have := hw.2; omega
  ·rcases hw with hw | hw
   ·have := hown i hw; omega
   ·rcases hw.1 with hz' | hz'
    ·have := zr i hz'
     rw [hold i (by omega)] at f; omega
    ·have := hnone i (by have := hw.2; omega) (r8lo i hz'); omega
 ·have key : ∃ k, HoR n g10 r8 sh (li + 12) (lb + 12) h.size g9.size k h'' ∧ k ≤ 20 := by
   rcases hend with ⟨r, hl⟩ | h
   ·exact ⟨_, r, by omega⟩
   ·exact h
  obtain ⟨k, ⟨⟨rk, p, _⟩, _, _, _⟩, hl⟩ := key
  exact ⟨rk, ((d10.trans p (X2 := fun _ => False) (Y2 := fun _ => False) (fun i hi f => f.elim id id) fun i hi f => f.elim id fun f => by omega).up (by omega) (by omega)).pre e12⟩
end Go.Sw.Piece

set_option linter.unusedVariables false
set_option linter.unusedSimpArgs false
set_option maxRecDepth 100000
namespace Go.Sw.Piece
open Go.Sw.Any Go.Sw.Codec
open Go.Sw.Tree (iv s_putAll s_newP s_getP s_getT s_putP eqI_self Placed cell_own wp_whileG minI_eq)
variable {P : Program} {S : Ids} {h : Heap} {Q : Nat → List Value → Heap → Prop}
def NeedQ (ra rw_ r0 q0 v : Nat) : Prop := v = ra ∨ v = rw_ ∨ v = 16 ∨ ∃ j, q0 ≤ j ∧ v = r0 + 2 * j
section
variable {k : IntKind} {n ra rw_ r0 q0 q1 : Nat} {rho rho' : Nat → Nat} {sa sw : Sl} {I W : List Sl} {V : List (List Int)}
theorem RackQ.chg2 {F : Nat → Prop} {h' : Heap} (r : RackQ k n h rho ra rw_ r0 sa sw I W V q0) (hq : q0 ≤ q1) (c : Chg F h h') (hF : ∀ i, F i → ¬ NeedQ ra rw_ r0 q1 (rho i)) (he : ∀ i, NeedQ ra rw_ r0 q1 (rho i) → rho' i = rho i) : RackQ k n h' rho' ra rw_ r0 sa sw I W V q1 := by
 refine ⟨c.own r.oa fun x hx f => hF _ f (.inl (r.ra _ ⟨x, hx, rfl⟩)), c.own r.ow fun x hx f => hF _ f (.inr (.inl (r.rw_ _ ⟨x, hx, rfl⟩))), r.li, r.lw, fun i hi => ?_, fun i hi => ?_, fun j s v hj hs hv => ?_, fun j s v hs hv => ?_, r.sz⟩
 ·rw [he i (.inl (r.ra i hi))]; exact r.ra i hi
 ·rw [he i (.inr (.inl (r.rw_ i hi)))]; exact r.rw_ i hi
 ·obtain ⟨o, ho⟩ := r.it j s v (by omega) hs hv
  exact ⟨c.ownL o fun y hy f => hF _ f (.inr (.inr (.inr ⟨j, hj, ho _ ⟨y, hy, rfl⟩⟩))), fun i hi => by rw [he i (.inr (.inr (.inr ⟨j, hj, ho i hi⟩)))]; exact ho i hi⟩
 ·obtain ⟨o, ho⟩ := r.wt j s v hs hv
  exact ⟨c.ownL o fun y hy f => hF _ f (.inr (.inr (.inl (ho _ ⟨y, hy, rfl⟩)))), fun i hi => by rw [he i (.inr (.inr (.inl (ho i hi))))]; exact ho i hi⟩
theorem RackQ.get {i : Nat} (r : RackQ k n h rho ra rw_ r0 sa sw I W V q0) (hi : i < V.length) (hq : q0 ≤ i) : ∃ s w v, I[i]? = some s ∧ W[i]? = some w ∧ V[i]? = some v ∧ OwnL n k h s v ∧ OwnL n k h w v ∧ v.length ≤ 1000000 ∧ ∀ j, basB s j → rho j = r0 + 2 * i := by
 have h1 : I[i]? = some (I[i]'(by rw [r.li]; exact hi)) := List.getElem?_eq_getElem _
 have h2 : W[i]? = some (W[i]'(by rw [r.lw]; exact hi)) := List.getElem?_eq_getElem _
 have h3 : V[i]? = some (V[i]) := List.getElem?_eq_getElem _
 obtain ⟨o1, o2⟩ := r.it i _ _ hq h1 h3
 exact ⟨_, _, _, h1, h2, h3, o1, (r.wt i _ _ h2 h3).1, r.sz _ (List.getElem_mem _), o2⟩
end
variable {n li lb : Nat} {rho rho' : Nat → Nat} {q sh : Addr}
theorem ShE.chg2 {F : Nat → Prop} {h' : Heap} (e : ShE n h rho sh li lb) (c : Chg F h h') (hF : ∀ i, F i → rho i < 5 ∨ 10 < rho i) (he : ∀ i, 5 ≤ rho i → rho i ≤ 10 → rho' i = rho i) : ShE n h' rho' sh li lb := by
 classical
 obtain ⟨si, sb, sm, sq, I, B, r, l1, l2⟩ := e
 have key : ∀ {k : IntKind} {rs rm : Nat} {ss sm : Sl} {I : List (Sl × Int)}, RackR k n h rho rs rm ss sm I → 5 ≤ rs ∧ rs ≤ 10 → 5 ≤ rm ∧ rm ≤ 10 → RackR k n h' rho' rs rm ss sm I := fun {k rs rm ss sm I} r h1 h2 =>
  ⟨c.own r.os fun x hx f => by have := hF _ f; have := r.rs _ ⟨x, hx, rfl⟩; omega, c.ownL r.om fun x hx f => by have := hF _ f; have := r.rm _ ⟨x, hx, rfl⟩; omega, fun i hi => by have := r.rs i hi; rw [he i (by omega) (by omega)]; exact this, fun i hi => by have := r.rm i hi; rw [he i (by omega) (by omega)]; exact this, fun x hx => ⟨let ⟨c', o⟩ := (r.it x hx).1; ⟨c', c.ownL o fun y hy f => by have := hF _ f; have := (r.it x hx).2 _ ⟨y, hy, rfl⟩; omega⟩, fun i hi => by have := (r.it x hx).2 i hi; rw [he i (by omega) (by omega)]; exact this⟩⟩
 refine ⟨si, sb, sm, sq, I, B, ⟨key r.i (by decide) (by decide), key r.b (by decide) (by decide), c.own r.oo fun x hx f => by cases hx; have := hF _ f; have := r.rsh; omega, ?_⟩, l1, l2⟩
 have := r.rsh
 rw [he _ (by omega) (by omega)]; exact this
structure QwR (n : Nat) (h0 h : Heap) (rho sg : Nat → Nat) (q sh : Addr) (qi qw qb qx : Sl) (Ii Wi : List Sl) (Vi : List (List Int)) (Ib Wb : List Sl) (Vb : List (List Int)) (q1 q2 c : Nat) : Prop where
 e : ShE n h sg sh c c
 bk : BkR n h sg
 i : RackQ .i64 n h sg 12 13 20 qi qw Ii Wi Vi q1
 b : RackQ .u8 n h sg 14 15 21 qb qx Ib Wb Vb q2
 oo : Own n 1 h ⟨some q, 4, 4⟩ [slv qi, slv qw, slv qb, slv qx]
 rq : sg q.block = 11
 chg : Chg (fun i => 20 ≤ rho i) h0 h
 out : ∀ i, i < h0.size → sg i < 5 ∨ 10 ≤ sg i
 hi : ∀ i, i < h0.size → 20 ≤ sg i → 20 ≤ rho i
section
variable {h0 : Heap} {sg : Nat → Nat} {qi qw qb qx : Sl} {Ii Wi Ib Wb : List Sl} {Vi Vb : List (List Int)} {q1 q2 c : Nat}
theorem QwR.put {s : Sl} {m : Nat} {q1' q2' : Nat} {sg2 : Nat → Nat} {h' : Heap} (w : QwR n h0 h rho sg q sh qi qw qb qx Ii Wi Vi Ib Wb Vb q1 q2 c) (h1 : q1 ≤ q1') (h2 : q2 ≤ q2') (hm : 20 ≤ m) (hs : ∀ i, basB s i → sg i = m) (hn : ∀ j, q1' ≤ j → m ≠ 20 + 2 * j) (hn' : ∀ j, q2' ≤ j → m ≠ 21 + 2 * j)
  {sg1 : Nat → Nat} (f1 : ∀ i, basB s i → sg1 i = 0) (f2 : ∀ i, ¬ basB s i → sg1 i = sg i) (p : PdR n h h' sg1 sg2 sh (c + 4) (c + 4) (basB s) (fun _ => False)) : QwR n h0 h' rho sg2 q sh qi qw qb qx Ii Wi Vi Ib Wb Vb q1' q2' (c + 4) := by
 have same : ∀ i, sg i ≠ m → sg1 i = sg i := fun i hi => f2 i fun hb => hi (hs i hb)
 have q0 := w.chg.1
 have hF : ∀ i, basB s i ∨ False ∨ (5 ≤ sg1 i ∧ sg1 i ≤ 9) → basB s i ∨ (5 ≤ sg i ∧ sg i ≤ 9) := fun i f => by
  by_cases hb : basB s i
  ·exact .inl hb
  ·rw [f2 i hb] at f
   rcases f with f | f | f
   ·exact .inl f
   ·exact f.elim
   ·exact .inr f
 refine ⟨p.e, p.bk, w.i.chg2 h1 p.chg (fun i f nd => ?_) (fun i nd => ?_), w.b.chg2 h2 p.chg (fun i f nd => ?_) (fun i nd => ?_), p.chg.own w.oo fun x hx f => ?_, ?_, w.chg.trans p.chg fun i hi f => ?_, fun i hi => ?_, fun i hi h20 => ?_⟩
 ·rcases hF i f with f | f
  ·have := hs i f
   rcases nd with h | h | h | ⟨j, hj, h⟩
   ·omega
   ·omega
   ·omega
   ·exact hn j hj (by omega)
  ·rcases nd with h | h | h | ⟨j, hj, h⟩ <;> omega
 ·have hne : sg i ≠ m := by
   rcases nd with h | h | h | ⟨j, hj, h⟩
   ·omega
   ·omega
   ·omega
   ·exact fun e => hn j hj (by omega)
  have h0' : sg i ≠ 0 := by rcases nd with h | h | h | ⟨j, hj, h⟩ <;> omega
  rw [p.old i (by rw [same i hne]; exact h0'), same i hne]
 ·rcases hF i f with f | f
  ·have := hs i f
   rcases nd with h | h | h | ⟨j, hj, h⟩
   ·omega
   ·omega
   ·omega
   ·exact hn' j hj (by omega)
  ·rcases nd with h | h | h | ⟨j, hj, h⟩ <;> omega
 ·have hne : sg i ≠ m := by
   rcases nd with h | h | h | ⟨j, hj, h⟩
   ·omega
   ·omega
   ·omega
   ·exact fun e => hn' j hj (by omega)
  have h0' : sg i ≠ 0 := by rcases nd with h | h | h | ⟨j, hj, h⟩ <;> omega
  rw [p.old i (by rw [same i hne]; exact h0'), same i hne]
 ·cases hx
  have := w.rq
  rcases hF _ f with f | f
  ·have := hs _ f; omega
  ·omega
 ·have := w.rq
  rw [p.old _ (by rw [same _ (by omega)]; omega), same _ (by omega)]; exact this
 ·rcases hF i f with f | f
  ·exact w.hi i hi (by rw [hs i f]; exact hm)
  ·have := w.out i hi; omega
 ·by_cases hb : basB s i
  ·have := p.x i (by omega) (f1 i hb); omega
  ·have e := f2 i hb
   by_cases h0' : sg i = 0
   ·have := p.x i (by omega) (by rw [e]; exact h0'); omega
   ·rw [p.old i (by rw [e]; exact h0'), e]; exact w.out i hi
 ·by_cases hb : basB s i
  ·exact w.hi i hi (by rw [hs i hb]; exact hm)
  ·have e := f2 i hb
   by_cases h0' : sg i = 0
   ·have hz := p.none i (by omega) (by rw [e]; exact h0') hb; omega
   ·rw [p.old i (by rw [e]; exact h0'), e] at h20; exact w.hi i hi h20
theorem c_qwhole (e : QuE n h rho q li lb) (bk : BkR n h rho) (hn : n ≤ h.size) (h1 : li ≤ 100000) (h2 : lb ≤ 100000) :
  wp P (F_quiet_whole S (some q)) h fun tg vs h' => tg = 0 ∧ vs = [.bool true] ∧ Chg (fun i => 20 ≤ rho i) h h' := by
 classical
 obtain ⟨qi, qw, qb, qx, Ii, Wi, Vi, Ib, Wb, Vb, r, l1, l2⟩ := e
 unfold F_quiet_whole
 refine s_newB (by simp) fun g1 e1 o1 => ?_
 have o1 : Own h.size 1 g1 ⟨some ⟨h.size, 0, none⟩, 4, 4⟩ [slv ⟨none, 0, 0⟩, slv ⟨none, 0, 0⟩, slv ⟨none, 0, 0⟩, slv ⟨none, 0, 0⟩] := o1
 have q1 : h.size < g1.size := (o1.lt rfl).2
 have oo1 := r.oo.ext e1
 have ql : q.block < h.size := (r.oo.lt rfl).2
 have lqi : qi.len = Vi.length := by have := r.i.oa.1; rw [Nat.mul_one, List.length_map] at this; rw [← r.i.li]; exact this
 have lqb : qb.len = Vb.length := by have := r.b.oa.1; rw [Nat.mul_one, List.length_map] at this; rw [← r.b.li]; exact this
 refine wp_while (fun (z : Int × Unit) h' => ∃ i : Nat, i ≤ Vi.length ∧ z.1 = (i : Int) ∧ Ext g1 h') (fun z _ => (Vi.length - z.1).toNat) (fun tag vs h' => tag = 2 ∧ vs = [] ∧ Ext g1 h') ⟨0, Nat.zero_le _, rfl, Ext.refl _⟩ ?_ ?_
 ·rintro ⟨(i' : Int), u⟩ h' ⟨i, hi, hi', ex⟩
  dsimp only at hi' ⊢
  subst hi'
  have ee := e1.trans ex
  have oo' := oo1.ext ex
  refine wp_grd rfl (wp_grd rfl (s_cell (b := .sl) qi rfl oo'.cells rfl (wp_ifB (fun hc => ?_) fun hc => s_ret ⟨fun hh => absurd hh (by decide), fun _ => ⟨rfl, rfl, ex⟩⟩)))
  rw [ltI_iff, natI_def, lqi] at hc
  obtain ⟨s, w, v, hs, hw, hv, os, ow, _, _⟩ := r.i.get (i := i) (by omega) (Nat.zero_le _)
  refine wp_grd rfl (wp_grd rfl (s_cell (b := .sl) qi rfl oo'.cells rfl (s_ldV (b := .sl) (x := s) (r.i.oa.ext ee) (by rw [List.getElem?_map, hs]; rfl) (wp_grd rfl (wp_grd rfl (s_cell (b := .sl) qw rfl oo'.cells rfl (s_ldV (b := .sl) (x := w) (r.i.ow.ext ee) (by rw [List.getElem?_map, hw]; rfl) ?_)))))))
  refine wp_call (c_same5I (os.ext ee).lst (ow.ext ee).lst) fun ⟨(b : Bool), _⟩ h'' ex' hb => ?_
  have hb : b = decide (v = v) := hb
  have hb : b = true := hb.trans (decide_eq_true rfl)
  subst hb
  refine wp_ifB (fun hh => by cases hh) fun _ => ?_
  rw [add_ok (by omega) (by omega)]
  exact s_ret ⟨fun _ => ⟨((i : Int) + 1, ()), rfl, ⟨i + 1, by omega, by dsimp only; omega, ex.trans ex'⟩, by dsimp only; omega⟩, fun hh => absurd rfl hh⟩
 rintro tag vs g2 ⟨rfl, rfl, e2⟩
 refine s_tag (s_cast0 ?_)
 refine wp_while (fun (z : Int × Unit) h' => ∃ i : Nat, i ≤ Vb.length ∧ z.1 = (i : Int) ∧ Ext g1 h') (fun z _ => (Vb.length - z.1).toNat) (fun tag vs h' => tag = 4 ∧ vs = [] ∧ Ext g1 h') ⟨0, Nat.zero_le _, rfl, e2⟩ ?_ ?_
 ·rintro ⟨(i' : Int), u⟩ h' ⟨i, hi, hi', ex⟩
  dsimp only at hi' ⊢
  subst hi'
  have ee := e1.trans ex
  have oo' := oo1.ext ex
  refine wp_grd rfl (wp_grd rfl (s_cell (b := .sl) qb rfl oo'.cells rfl (wp_ifB (fun hc => ?_) fun hc => s_ret ⟨fun hh => absurd hh (by decide), fun _ => ⟨rfl, rfl, ex⟩⟩)))
  rw [ltI_iff, natI_def, lqb] at hc
  obtain ⟨s, w, v, hs, hw, hv, os, ow, _, _⟩ := r.b.get (i := i) (by omega) (Nat.zero_le _)
  refine wp_grd rfl (wp_grd rfl (s_cell (b := .sl) qb rfl oo'.cells rfl (s_ldV (b := .sl) (x := s) (r.b.oa.ext ee) (by rw [List.getElem?_map, hs]; rfl) (wp_grd rfl (wp_grd rfl (s_cell (b := .sl) qx rfl oo'.cells rfl (s_ldV (b := .sl) (x := w) (r.b.ow.ext ee) (by rw [List.getElem?_map, hw]; rfl) ?_)))))))
  refine wp_call (c_same5B (os.ext ee).lst (ow.ext ee).lst) fun ⟨(b : Bool), _⟩ h'' ex' hb => ?_
  have hb : b = decide (v = v) := hb
  have hb : b = true := hb.trans (decide_eq_true rfl)
  subst hb
  refine wp_ifB (fun hh => by cases hh) fun _ => ?_
  rw [add_ok (by omega) (by omega)]
  exact s_ret ⟨fun _ => ⟨((i : Int) + 1, ()), rfl, ⟨i + 1, by omega, by dsimp only; omega, ex.trans ex'⟩, by dsimp only; omega⟩, fun hh => absurd rfl hh⟩
 rintro tag vs g3 ⟨rfl, rfl, e3⟩
 refine s_tag (s_cast0 ?_)
 have e03 := e1.trans e3
 have q3 := e3.size
 have w3 : QwR n h g3 rho (fun i => if i = h.size then 5 else if 11 ≤ rho i then rho i else 0) q ⟨h.size, 0, none⟩ qi qw qb qx Ii Wi Vi Ib Wb Vb 0 0 0 := by
  have nd : ∀ {ra rw_ r0 v : Nat}, 11 < ra → 11 < rw_ → 20 ≤ r0 → NeedQ ra rw_ r0 0 v → 11 ≤ v := fun a b c nd => by rcases nd with h | h | h | ⟨j, hj, h⟩ <;> omega
  have hx : ∀ {i : Nat}, 11 ≤ rho i → (if i = h.size then 5 else if 11 ≤ rho i then rho i else 0) = rho i := fun {i} hi => by
   rw [if_neg fun e => by have := bk.lo i (by omega); omega, if_pos hi]
  refine ⟨⟨_, _, _, _, [], [], ⟨⟨Own.nil _ _ _, OwnL.nil _ _ _, fun i ⟨a, ha, _⟩ => (by cases ha), fun i ⟨a, ha, _⟩ => (by cases ha), fun x hx => (by cases hx)⟩, ⟨Own.nil _ _ _, OwnL.nil _ _ _, fun i ⟨a, ha, _⟩ => (by cases ha), fun i ⟨a, ha, _⟩ => (by cases ha), fun x hx => (by cases hx)⟩, (o1.ext e3).mono hn, if_pos rfl⟩, Nat.le_refl _, Nat.le_refl _⟩, ⟨fun i hi => ?_, fun i hi => ?_⟩, r.i.chg2 (Nat.le_refl _) (Chg.of_ext (F := fun _ => False) e03) (fun i f => f.elim) (fun i h => hx (nd (by decide) (by decide) (by decide) h)), r.b.chg2 (Nat.le_refl _) (Chg.of_ext (F := fun _ => False) e03) (fun i f => f.elim) (fun i h => hx (nd (by decide) (by decide) (by decide) h)), oo1.ext e3, ?_, Chg.of_ext e03, fun i hi => ?_, fun i hi h20 => ?_⟩
  ·rw [if_neg (by omega), if_neg fun h => by have := bk.lo i (by omega); omega]
  ·by_cases hi' : i = h.size
   ·omega
   ·rw [if_neg hi'] at hi
    by_cases h11 : 11 ≤ rho i
    ·exact bk.ge i (by omega)
    ·rw [if_neg h11] at hi; exact absurd rfl hi
  ·rw [hx (by have := r.rq; omega)]; exact r.rq
  ·rw [if_neg (by omega)]
   split <;> omega
  ·rw [if_neg (by omega)] at h20
   split at h20 <;> omega
 generalize (fun i => if i = h.size then 5 else if 11 ≤ rho i then rho i else 0) = sg3 at w3
 refine wp_while (fun (z : Int × Unit) h' => ∃ (i : Nat) (sg : Nat → Nat), i ≤ Vi.length ∧ z.1 = (i : Int) ∧ QwR n h h' rho sg q ⟨h.size, 0, none⟩ qi qw qb qx Ii Wi Vi Ib Wb Vb i 0 (4 * i)) (fun z _ => (Vi.length - z.1).toNat)
  (fun tag vs h' => tag = 6 ∧ vs = [] ∧ ∃ sg, QwR n h h' rho sg q ⟨h.size, 0, none⟩ qi qw qb qx Ii Wi Vi Ib Wb Vb Vi.length 0 (4 * Vi.length)) ⟨0, sg3, Nat.zero_le _, rfl, w3⟩ ?_ ?_
 ·rintro ⟨(i' : Int), u⟩ h' ⟨i, sg, hi, hi', w⟩
  dsimp only at hi' ⊢
  subst hi'
  have qh := w.chg.1
  refine wp_grd rfl (wp_grd rfl (s_cell (b := .sl) qi rfl w.oo.cells rfl (wp_ifB (fun hc => ?_) fun hc => ?_)))
  ·rw [ltI_iff, natI_def, lqi] at hc
   obtain ⟨s, _, v, hs, _, _, os, _, hvl, hr⟩ := w.i.get (i := i) (by omega) (Nat.le_refl _)
   refine wp_grd rfl (wp_grd rfl (s_cell (b := .sl) qi rfl w.oo.cells rfl (s_ldV (b := .sl) (x := s) w.i.oa (by rw [List.getElem?_map, hs]; rfl) ?_)))
   have hne : ∀ j, 5 ≤ sg j → sg j ≤ 10 → (if basB s j then 0 else sg j) = sg j := fun j h5 h10 => if_neg fun hb => by have := hr j hb; omega
   refine s_shI (rho := fun j => if basB s j then 0 else sg j) (w.e.chg2 (Chg.of_ext (F := fun _ => False) (Ext.refl _)) (fun _ f => f.elim) hne) ⟨fun j hj => ?_, fun j hj => ?_⟩ os (fun j hj => if_pos hj) (by omega) hvl (by omega) fun sg2 h'' p => ?_
   ·rw [w.bk.lo j hj]; split <;> rfl
   ·by_cases hb : basB s j
    ·rw [if_pos hb] at hj; exact absurd rfl hj
    ·rw [if_neg hb] at hj; exact w.bk.ge j hj
   rw [add_ok (by omega) (by omega)]
   exact s_ret ⟨fun _ => ⟨((i : Int) + 1, ()), rfl, ⟨i + 1, sg2, by omega, by dsimp only; omega, w.put (q1' := i + 1) (q2' := 0) (by omega) (Nat.le_refl _) (m := 20 + 2 * i) (by omega) hr (fun j hj => by omega) (fun j hj => by omega) (fun j hj => if_pos hj) (fun j hj => if_neg hj) p⟩, by dsimp only; omega⟩, fun hh => absurd rfl hh⟩
  ·rw [ltI_not, natI_def, lqi] at hc
   have : i = Vi.length := by omega
   subst this
   exact s_ret ⟨fun hh => absurd hh (by decide), fun _ => ⟨rfl, rfl, sg, w⟩⟩
 rintro tag vs g4 ⟨rfl, rfl, sg4, w4⟩
 refine s_tag (s_cast0 ?_)
 refine wp_while (fun (z : Int × Unit) h' => ∃ (i : Nat) (sg : Nat → Nat), i ≤ Vb.length ∧ z.1 = (i : Int) ∧ QwR n h h' rho sg q ⟨h.size, 0, none⟩ qi qw qb qx Ii Wi Vi Ib Wb Vb Vi.length i (4 * Vi.length + 4 * i)) (fun z _ => (Vb.length - z.1).toNat)
  (fun tag vs h' => tag = 8 ∧ vs = [] ∧ ∃ sg, QwR n h h' rho sg q ⟨h.size, 0, none⟩ qi qw qb qx Ii Wi Vi Ib Wb Vb Vi.length Vb.length (4 * Vi.length + 4 * Vb.length)) ⟨0, sg4, Nat.zero_le _, rfl, w4⟩ ?_ ?_
 ·rintro ⟨(i' : Int), u⟩ h' ⟨i, sg, hi, hi', w⟩
  dsimp only at hi' ⊢
  subst hi'
  have qh := w.chg.1
  refine wp_grd rfl (wp_grd rfl (s_cell (b := .sl) qb rfl w.oo.cells rfl (wp_ifB (fun hc => ?_) fun hc => ?_)))
  ·rw [ltI_iff, natI_def, lqb] at hc
   obtain ⟨s, _, v, hs, _, _, os, _, hvl, hr⟩ := w.b.get (i := i) (by omega) (Nat.le_refl _)
   refine wp_grd rfl (wp_grd rfl (s_cell (b := .sl) qb rfl w.oo.cells rfl (s_ldV (b := .sl) (x := s) w.b.oa (by rw [List.getElem?_map, hs]; rfl) ?_)))
   have hne : ∀ j, 5 ≤ sg j → sg j ≤ 10 → (if basB s j then 0 else sg j) = sg j := fun j h5 h10 => if_neg fun hb => by have := hr j hb; omega
   refine s_shB (rho := fun j => if basB s j then 0 else sg j) (w.e.chg2 (Chg.of_ext (F := fun _ => False) (Ext.refl _)) (fun _ f => f.elim) hne) ⟨fun j hj => ?_, fun j hj => ?_⟩ os (fun j hj => if_pos hj) (by omega) hvl (by omega) fun sg2 h'' p => ?_
   ·rw [w.bk.lo j hj]; split <;> rfl
   ·by_cases hb : basB s j
    ·rw [if_pos hb] at hj; exact absurd rfl hj
    ·rw [if_neg hb] at hj; exact w.bk.ge j hj
   rw [add_ok (by omega) (by omega)]
   exact s_ret ⟨fun _ => ⟨((i : Int) + 1, ()), rfl, ⟨i + 1, sg2, by omega, by dsimp only; omega, w.put (q1' := Vi.length) (q2' := i + 1) (Nat.le_refl _) (by omega) (m := 21 + 2 * i) (by omega) hr (fun j hj => by omega) (fun j hj => by omega) (fun j hj => if_pos hj) (fun j hj => if_neg hj) p⟩, by dsimp only; omega⟩, fun hh => absurd rfl hh⟩
  ·rw [ltI_not, natI_def, lqb] at hc
   have : i = Vb.length := by omega
   subst this
   exact s_ret ⟨fun hh => absurd hh (by decide), fun _ => ⟨rfl, rfl, sg, w⟩⟩
 rintro tag vs g5 ⟨rfl, rfl, sg5, w5⟩
 obtain ⟨si, sb, sm, sq, I, B, rs, k1, k2⟩ := w5.e
 refine s_tag (s_cast0 (wp_call (c_whole5 rs (by omega) (by omega)) fun ⟨(b : Bool), _⟩ g6 e6 hb => s_ret ⟨rfl, ?_, w5.chg.ext e6⟩))
 have hb : b = true := hb
 rw [hb]
end
end Go.Sw.Piece

set_option linter.unusedVariables false
set_option linter.unusedSimpArgs false
set_option maxRecDepth 100000
namespace Go.Sw.Piece
open Go.Sw.Any Go.Sw.Codec
open Go.Sw.Tree (iv s_putAll s_newP s_getP s_getT s_putP eqI_self Placed cell_own wp_whileG minI_eq)
variable {P : Program} {S : Ids} {h : Heap} {Q : Nat → List Value → Heap → Prop}
structure ApR (S : Ids) (n : Nat) (h : Heap) (rho : Nat → Nat) (TT : Nat → TX) (ps : Option PenS) (pp : Option Addr) (q sh ar : Addr) (ls lq am : Nat) : Prop where
 t : ∀ k, k < 2 → TextR S n h (TT k)
 zt : ∀ k, k < 2 → ∀ i, (TT k).Z i → rho i = 1 + k
 sm : ∀ k, k < 2 → (bytesL (TT k).cur.ps).length ≤ (TT k).limit
 A : ∀ k, k < 2 → (TT k).A.length ≤ am
 pen : PenO n h pp ps
 zp : ∀ i, oZ ps i → rho i = 3
 oar : Own n 1 h ⟨some ar, 2, 2⟩ [.pointer (some (TT 0).p), .pointer (some (TT 1).p)]
 rar : rho ar.block = 4
 s : ShE n h rho sh ls ls
 qe : QuE n h rho q lq lq
 bk : BkR n h rho
variable {n ls lq am : Nat} {rho rho' : Nat → Nat} {TT : Nat → TX} {ps : Option PenS} {pp : Option Addr} {q sh ar : Addr}
theorem ApR.ext {h' : Heap} (a : ApR S n h rho TT ps pp q sh ar ls lq am) (e : Ext h h') (hl : lq ≤ 400000) : ApR S n h' rho TT ps pp q sh ar ls lq am :=
 ⟨fun k hk => (a.t k hk).ext e, a.zt, a.sm, a.A, a.pen.ext e, a.zp, a.oar.ext e, a.rar, a.s.ext e, a.qe.ext e hl hl, a.bk.mono e.size⟩
theorem ApR.ask {h' : Heap} {lq' : Nat} (a : ApR S n h rho TT ps pp q sh ar ls lq am) (d : AdR n h h' rho rho' q lq' lq' (fun _ => False)) : ApR S n h' rho' TT ps pp q sh ar ls lq' am := by
 refine ⟨fun k hk => (a.t k hk).chg d.chg fun i hi f => by have := a.zt k hk i hi; omega, fun k hk i hi => ?_, a.sm, a.A, a.pen.chg d.chg fun i hi f => by have := a.zp i hi; omega, fun i hi => ?_, d.chg.own a.oar fun x hx f => by cases hx; have := a.rar; omega, ?_, a.s.chg d.chg (fun i f => by omega) fun i h0 _ => d.old i (by omega), d.e, d.bk⟩
 ·have := a.zt k hk i hi; rw [d.old i (by omega)]; exact this
 ·have := a.zp i hi; rw [d.old i (by omega)]; exact this
 ·have := a.rar; rw [d.old _ (by omega)]; exact this
theorem ApR.out {h' : Heap} {ls' : Nat} (a : ApR S n h rho TT ps pp q sh ar ls lq am) (d : PdN n h h' rho rho' sh ls' ls') (hl : lq ≤ 400000) : ApR S n h' rho' TT ps pp q sh ar ls' lq am := by
 have key : ∀ {i v : Nat}, rho i = v → v < 5 ∨ 9 < v → ¬ (False ∨ False ∨ (5 ≤ rho i ∧ rho i ≤ 9)) := fun h hv f => by
  rcases f with f | f | f
  ·exact f
  ·exact f
  ·omega
 refine ⟨fun k hk => (a.t k hk).chg d.chg fun i hi => key (a.zt k hk i hi) (by omega), fun k hk i hi => ?_, a.sm, a.A, a.pen.chg d.chg fun i hi => key (a.zp i hi) (by omega), fun i hi => ?_, d.chg.own a.oar fun x hx => by cases hx; exact key a.rar (by omega), ?_, d.e, a.qe.chg d.chg (fun i f => ?_) (fun i h0 _ => d.old i (by omega)) hl hl, d.bk⟩
 ·have := a.zt k hk i hi; rw [d.old i (by omega)]; exact this
 ·have := a.zp i hi; rw [d.old i (by omega)]; exact this
 ·have := a.rar; rw [d.old _ (by omega)]; exact this
 ·rcases f with f | f | f
  ·exact f.elim
  ·exact f.elim
  ·omega
theorem ApR.write {h' : Heap} {k : Nat} {es : List EdD} {r : Int} {T' : TX} {s' : Option PenS} (a : ApR S n h rho TT ps pp q sh ar ls lq am) (hk : k < 2) (R : WrR S n (TT k) pp ps h h' es r T' s') (hl : lq ≤ 400000) :
  ∃ rho', ApR S n h' rho' (fun j => if j = k then T' else TT j) s' pp q sh ar ls lq (am + 4 * (putsOf es).length) ∧ (∀ i, i < h.size → rho i = 0 → rho' i = 0) ∧ Chg (fun i => rho i = 1 + k ∨ rho i = 3) h h' := by
 classical
 have c : Chg (fun i => rho i = 1 + k ∨ rho i = 3) h h' := R.chg.mono fun i _ f => f.imp (fun f => a.zt k hk i (wfoot_Z (a.t k hk) f)) fun f => a.zp i f
 have q0 := c.1
 have zn := R.nx.zn
 let rho' : Nat → Nat := fun i => if T'.Z i then 1 + k else if oZ s' i then 3 else rho i
 have old : ∀ i, rho i ≠ 0 → rho' i = rho i := fun i hi => by
  show (if T'.Z i then 1 + k else if oZ s' i then 3 else rho i) = rho i
  have il : i < h.size := Classical.byContradiction fun hh => hi (a.bk.lo i (by omega))
  by_cases h1 : T'.Z i
  ·rw [if_pos h1]
   rcases zn i h1 with h | h
   ·exact (a.zt k hk i h).symm
   ·omega
  ·rw [if_neg h1]
   by_cases h2 : oZ s' i
   ·rw [if_pos h2]
    rcases R.zone i h2 with h | h
    ·exact (a.zp i h).symm
    ·omega
   ·rw [if_neg h2]
 have none : ∀ i, i < h.size → rho i = 0 → rho' i = 0 := fun i hi h0 => by
  show (if T'.Z i then 1 + k else if oZ s' i then 3 else rho i) = 0
  rw [if_neg fun h1 => by
   rcases zn i h1 with h | h
   ·have := a.zt k hk i h; omega
   ·omega, if_neg fun h2 => by
   rcases R.zone i h2 with h | h
   ·have := a.zp i h; omega
   ·omega]
  exact h0
 have CR : ChangeR S n (TT k) h h' es r T' := ⟨R.ref, R.t, R.nx, R.els, R.len⟩
 refine ⟨rho', ⟨fun j hj => ?_, fun j hj i hi => ?_, fun j hj => ?_, fun j hj => ?_, R.pen, fun i hi => ?_, ?_, ?_, a.s.chg c (fun i f => by omega) fun i h0 _ => old i (by omega), a.qe.chg c (fun i f => by omega) (fun i h0 _ => old i (by omega)) hl hl, ⟨fun i hi => ?_, fun i hi => ?_⟩⟩, none, c⟩
 ·by_cases hjk : j = k
  ·rw [if_pos hjk]; exact R.t
  ·rw [if_neg hjk]
   exact (a.t j hj).chg c fun i hi f => by have := a.zt j hj i hi; omega
 ·by_cases hjk : j = k
  ·rw [if_pos hjk] at hi
   rw [hjk]; exact if_pos hi
  ·rw [if_neg hjk] at hi
   have := a.zt j hj i hi
   rw [old i (by omega)]; exact this
 ·by_cases hjk : j = k
  ·rw [if_pos hjk]; exact CR.small (a.t k hk).enc (a.t k hk).cur.bytes (a.sm k hk) (blen_state (a.t k hk).cur (a.t k hk).enc)
  ·rw [if_neg hjk]; exact a.sm j hj
 ·by_cases hjk : j = k
  ·rw [if_pos hjk]
   have := R.len; have := a.A k hk; omega
  ·rw [if_neg hjk]
   have := a.A j hj; omega
 ·show (if T'.Z i then 1 + k else if oZ s' i then 3 else rho i) = 3
  rw [if_neg fun hz => R.far i hz hi, if_pos hi]
 ·have hp : ∀ j, j < 2 → ((fun j => if j = k then T' else TT j) j).p = (TT j).p := fun j hj => by
   by_cases hjk : j = k
   ·dsimp only; rw [if_pos hjk, hjk]; exact R.nx.p
   ·dsimp only; rw [if_neg hjk]
  rw [hp 0 (by decide), hp 1 (by decide)]
  exact c.own a.oar fun x hx f => by cases hx; have := a.rar; omega
 ·have := a.rar; rw [old _ (by omega)]; exact this
 ·show (if T'.Z i then 1 + k else if oZ s' i then 3 else rho i) = 0
  rw [if_neg fun hz => by have := (R.t.lo i hz).2; omega, if_neg fun hz => by have := (R.pen.in hz).2; omega]
  exact a.bk.lo i (by omega)
 ·have hi : (if T'.Z i then 1 + k else if oZ s' i then 3 else rho i) ≠ 0 := hi
  by_cases h1 : T'.Z i
  ·exact (R.t.lo i h1).1
  ·rw [if_neg h1] at hi
   by_cases h2 : oZ s' i
   ·exact (R.pen.in h2).1
   ·rw [if_neg h2] at hi; exact a.bk.ge i hi
theorem c_copied5 {sa st sb : Sl} {A G B : List Int} (a1 : Lst .i64 h sa A) (a2 : Lst .i64 h st G) (a3 : Lst .u8 h sb B) (l1 : A.length ≤ 1000000) (l2 : G.length ≤ 1000000) (l3 : B.length ≤ 1000000) :
  Gives P (F_law5_copied S (sa, st, sb, ())) [.agg [.sl, .sl, .sl]] h fun (y : (Sl × Sl × Sl × Unit) × Unit) h' => OwnL h.size .i64 h' y.1.1 A ∧ OwnL h.size .i64 h' y.1.2.1 G ∧ OwnL h.size .u8 h' y.1.2.2.1 B := by
 unfold F_law5_copied Gives
 refine s_newO (bs := [.sl, .sl, .sl]) (sa, st, sb, ()) (by decide) fun g1 e1 o1 => s_newO (bs := [.sl, .sl, .sl]) (⟨none, 0, 0⟩, ⟨none, 0, 0⟩, ⟨none, 0, 0⟩, ()) (by decide) fun g2 e2 o2 => ?_
 have e12 := e1.trans e2
 have o12 := o1.ext e2
 have q1 := e1.size; have q2 := e2.size
 refine s_cell (b := .sl) sa rfl o12.cells rfl (s_cell (b := .sl) st rfl o12.cells rfl (s_cell (b := .sl) sb rfl o12.cells rfl ?_))
 refine s_append (n := g2.size) (k := .i64) (OwnL.nil _ _ _) (Nat.le_refl _) (a1.ext e12) (by simp; omega) (by simp; omega) fun r1 g3 k3 or1 _ _ => ?_
 have e3 : Ext g2 g3 := k3
 rw [List.nil_append] at or1
 have e13 := e12.trans e3
 refine s_ckD (o12.ext e3).cells rfl (s_ckD (o12.ext e3).cells rfl (s_append (n := g3.size) (k := .i64) (OwnL.nil _ _ _) (Nat.le_refl _) (a2.ext e13) (by simp; omega) (by simp; omega) fun r2 g4 k4 or2 _ _ => ?_))
 have e4 : Ext g3 g4 := k4
 rw [List.nil_append] at or2
 have e14 := e13.trans e4
 have q3 := e3.size; have q4 := e4.size
 refine s_ckD ((o12.ext e3).ext e4).cells rfl (s_append (n := g4.size) (k := .u8) (OwnL.nil _ _ _) (Nat.le_refl _) (a3.ext e14) (by simp; omega) (by simp; omega) fun r3 g5 k5 or3 _ _ => ?_)
 have e5 : Ext g4 g5 := k5
 rw [List.nil_append] at or3
 have e25 := (e3.trans e4).trans e5
 refine s_stoO (bs := [.sl, .sl, .sl]) (r1, r2, r3, ()) (o2.ext e25) sl3f fun g6 o6 u6 => s_getO (bs := [.sl, .sl, .sl]) o6 (s_ret ⟨rfl, Upd.extN (e14.trans e5) u6 (by intro z hz; cases hz; exact q1), ((r1, r2, r3, ()), ()), rfl, ?_, ?_, ?_⟩)
 ·have c6 : Chg (fun i => i = g1.size) g5 g6 := Chg.of_upd u6 fun x hx _ => by cases hx; rfl
  exact (c6.ownL ((or1.ext e4).ext e5) fun x hx f => by have := (or1.own.lt hx).1; have : g1.size < g2.size := (o2.lt rfl).2; omega).mono (by omega)
 ·have c6 : Chg (fun i => i = g1.size) g5 g6 := Chg.of_upd u6 fun x hx _ => by cases hx; rfl
  exact (c6.ownL (or2.ext e5) fun x hx f => by have := (or2.own.lt hx).1; have : g1.size < g2.size := (o2.lt rfl).2; omega).mono (by omega)
 ·have c6 : Chg (fun i => i = g1.size) g5 g6 := Chg.of_upd u6 fun x hx _ => by cases hx; rfl
  exact (c6.ownL or3 fun x hx f => by have := (or3.own.lt hx).1; have : g1.size < g2.size := (o2.lt rfl).2; omega).mono (by omega)
end Go.Sw.Piece

set_option linter.unusedVariables false
set_option linter.unusedSimpArgs false
set_option maxRecDepth 100000
namespace Go.Sw.Piece
open Go.Sw.Any Go.Sw.Codec
open Go.Sw.Tree (iv s_putAll s_newP s_getP s_getT s_putP eqI_self Placed cell_own wp_whileG minI_eq)
variable {P : Program} {S : Ids} {h : Heap} {Q : Nat → List Value → Heap → Prop}
theorem s_newPn {K : Addr → Prog} (hk : ∀ h', Ext h h' → Own h.size 1 h' ⟨some (at0 h.size), 2, 2⟩ [.slice none 0 0, .slice none 0 0] → h'.size = h.size + 1 → wp P (K (at0 h.size)) h' Q) : wp P (.alloc [.slice none 0 0, .slice none 0 0] K) h Q :=
 fun elem => hk _ (Ext.push ..) (own_alloc rfl (by decide) (by decide)) (by simp)
def pn0 (b : Nat) : PenS := ⟨b, none, ⟨none, 0, 0⟩, []⟩
theorem pn0_Z {b x : Nat} (hx : oZ (some (pn0 b)) x) : x = b := by
 rcases hx with (h | ⟨a, ha, _⟩) | h | h
 ·exact h
 ·cases ha
 ·cases h
 ·cases h
theorem pn0_R {n b : Nat} (o : Own n 1 h ⟨some (at0 b), 2, 2⟩ [.slice none 0 0, .slice none 0 0]) : PenR n h (pn0 b) :=
 ⟨o, fun b hb => (by cases hb), Own.nil _ _ _, fun b hb => (by cases hb), List.nodup_nil, fun b hb => (by cases hb), fun i hi hw => (by rcases hw with h | h <;> cases h), fun a ha => (by cases ha), Nat.zero_le _⟩
abbrev HnSh : Sh := .str (.pair (.int .i64) (.pair (.int .i64) (.pair (.int .i64) (.pair (.int .i64) (.pair (.list EdSh) .unit)))))
abbrev HnD := Int × Int × Int × Int × Eds × Unit
abbrev hnP (x : HnD) : Nat := (putsOf x.2.2.2.2.1.2).length
theorem hn_wt (x : HnD) : hnP x ≤ HnSh.wt x ∧ (Sh.list EdSh).wt x.2.2.2.2.1 ≤ HnSh.wt x := by
 have h1 := (eds_wt x.2.2.2.2.1).2.1
 have h2 : HnSh.wt x = (1 + (1 + (1 + (1 + ((Sh.list EdSh).wt x.2.2.2.2.1 + 0))))) + 1 := rfl
 exact ⟨by show (putsOf x.2.2.2.2.1.2).length ≤ _; omega, by omega⟩
theorem s_ar {n j : Nat} {TT : Nat → TX} {ar : Addr} {K : Option Addr → Prog} (o : Own n 1 h ⟨some ar, 2, 2⟩ [.pointer (some (TT 0).p), .pointer (some (TT 1).p)]) (hj : j < 2) (hk : wp P (K (some (TT j).p)) h Q) :
  wp P (grd (inB (j : Int) 2) <| .load (.one .ptr) (shiftTo (some ar) (mulN (toN (j : Int)) 1)) K) h Q := by
 have : j = 0 ∨ j = 1 := by omega
 rcases this with rfl | rfl
 ·exact wp_grd rfl (s_cell (b := .ptr) (some (TT 0).p) rfl o.cells rfl hk)
 ·exact wp_grd rfl (s_cell (b := .ptr) (some (TT 1).p) rfl o.cells rfl hk)
theorem open_ok {h0 h : Heap} {enc : Int} {l : List Int} {p : Option Addr} {er : Int} (o : OpenR S h0 h enc 65536 l p er) (he : known enc) (hl : l.length ≤ 65536) :
  ∃ T : TX, p = some T.p ∧ er = 0 ∧ TextR S h0.size h T ∧ T.limit = 65536 ∧ T.A = [] ∧ bytesL T.cur.ps = l ∧ ∀ i, T.Z i → h0.size ≤ i := by
 cases o with
 | enc h => exact absurd he h
 | arg _ h => exact absurd (by decide : (0 : Int) ≤ 65536 ∧ (65536 : Int) ≤ 65536) h
 | full _ _ h => exact absurd h (by omega)
 | ok T _ _ _ t he' hl' hk hA hel hby hz => exact ⟨T, rfl, rfl, t, hl', hA, hby, hz⟩
structure SnR (m : Nat) (h : Heap) (x : Sl × Sl × Sl × Unit) (T : TX) : Prop where
 a : OwnL m .i64 h x.1 ((els T.enc T.cur.ps).map (·.1))
 t : OwnL m .i64 h x.2.1 ((els T.enc T.cur.ps).map (·.2))
 b : OwnL m .u8 h x.2.2.1 (bytesL T.cur.ps)
theorem SnR.chg {m : Nat} {F : Nat → Prop} {h' : Heap} {x : Sl × Sl × Sl × Unit} {T : TX} (s : SnR m h x T) (c : Chg F h h') (hF : ∀ i, m ≤ i → i < h.size → ¬ F i) : SnR m h' x T :=
 ⟨c.ownL s.a fun y hy => hF _ (s.a.own.lt hy).1 (s.a.own.lt hy).2, c.ownL s.t fun y hy => hF _ (s.t.own.lt hy).1 (s.t.own.lt hy).2, c.ownL s.b fun y hy => hF _ (s.b.own.lt hy).1 (s.b.own.lt hy).2⟩
theorem SnR.ext {m : Nat} {h' : Heap} {x : Sl × Sl × Sl × Unit} {T : TX} (s : SnR m h x T) (e : Ext h h') : SnR m h' x T := ⟨s.a.ext e, s.t.ext e, s.b.ext e⟩
theorem s_see (M : Meth0 P S) (C : Cl P S) {n : Nat} {T : TX} {K : (Sl × Sl × Sl × Unit) × Unit → Prog} (t : TextR S n h T) (hk : ∀ x h', Ext h h' → SnR h.size h' x T → wp P (K (x, ())) h' Q) : wp P (.call (F_law5_see S (some T.p)) [.agg [.sl, .sl, .sl]] K) h Q :=
 wp_call (c_see M C t) fun ⟨(x : Sl × Sl × Sl × Unit), _⟩ h' e ⟨a, b, c⟩ => hk x h' e ⟨a, b, c⟩
theorem s_same (x y : Sl × Sl × Sl × Unit) {m m' : Nat} {T : TX} {K : Bool × Unit → Prog} (a : SnR m h x T) (b : SnR m' h y T) (hk : ∀ h', Ext h h' → wp P (K (true, ())) h' Q) : wp P (.call (F_seen_same S (x.1, (x.2.1, (x.2.2.1, ()))) (y.1, (y.2.1, (y.2.2.1, ())))) [.one .bool] K) h Q :=
 wp_call (c_seen_same a.a.lst a.t.lst a.b.lst b.a.lst b.t.lst b.b.lst) fun ⟨(r : Bool), _⟩ h' e hr => by
  have hr : r = true := hr.2 ⟨rfl, rfl, rfl⟩
  subst hr
  exact hk h' e
abbrev bS3 : List B := [.sl, .sl, .sl]
abbrev bO5 : List B := [.int .i64, .int .i64, .int .i64, .int .i64, .sl]
variable {n ls lq am : Nat} {rho : Nat → Nat} {TT : Nat → TX} {ps : Option PenS} {pp : Option Addr} {q sh ar : Addr}
theorem ApR.lens (a : ApR S n h rho TT ps pp q sh ar ls lq am) {k : Nat} (hk : k < 2) : (els (TT k).enc (TT k).cur.ps).length ≤ 65536 ∧ (bytesL (TT k).cur.ps).length ≤ 65536 := by
 have h1 := (toksL_le (enc := (TT k).enc) (a.t k hk).cur.bytes).1
 have h2 := a.sm k hk
 have h3 := (a.t k hk).lim
 rw [els_len]
 omega
theorem ApR.pos (a : ApR S n h rho TT ps pp q sh ar ls lq am) {k : Nat} (hk : k < 2) : ∀ i, (TT k).Z i → 0 < rho i ∧ rho i < 5 := fun i hi => by have := a.zt k hk i hi; omega
theorem ApR.up {ls' lq' am' : Nat} (a : ApR S n h rho TT ps pp q sh ar ls lq am) (h1 : ls ≤ ls') (h2 : lq ≤ lq') (h3 : am ≤ am') : ApR S n h rho TT ps pp q sh ar ls' lq' am' :=
 ⟨a.t, a.zt, a.sm, fun k hk => Nat.le_trans (a.A k hk) h3, a.pen, a.zp, a.oar, a.rar, a.s.mono h1 h1, a.qe.mono h2 h2, a.bk⟩
theorem own_zero {m z : Nat} {F : Nat → Prop} {s : Sl} {vs : List Value} {h' : Heap} (c : Chg F h h') (o : Own m z h s vs) (hF : ∀ i, F i → rho i ≠ 0) (hs : ∀ i, basB s i → rho i = 0) : Own m z h' s vs := c.own o fun y hy f => hF _ f (hs _ ⟨y, hy, rfl⟩)
theorem c_PieceApart (M : Meth0 P S) (C : Cl P S) (Y : ClA P S) {enc : Int} {sl : Sl} {l : List Int} {z : Sl × List HnD} (hl : Lst .u8 h sl l) (hz : (Sh.list HnSh).ok h z) (wz : (Sh.list HnSh).wt z ≤ 1048576) :
  Gives P (F_law5_PieceApart S enc sl z.1) [.one .bool] h fun (y : Bool × Unit) _ => y.1 = true := by
 unfold F_law5_PieceApart Gives
 have hll := hl.len
 have lz := hz.len
 have sumz : (z.2.map hnP).sum ≤ 1048576 := by
  have e2 : (Sh.list HnSh).wt z = (z.2.map HnSh.wt).sum + 1 := rfl
  have h4 := sum_le_sum hnP HnSh.wt z.2 fun x _ => (hn_wt x).1
  omega
 have edsz : ∀ x, x ∈ z.2 → (Sh.list EdSh).wt x.2.2.2.2.1 ≤ 1048576 := fun x hx => by
  have e2 : (Sh.list HnSh).wt z = (z.2.map HnSh.wt).sum + 1 := rfl
  have h5 := sum_mem_le HnSh.wt hx
  have h6 := (hn_wt x).2
  omega
 refine wp_call (c_able M) fun ⟨(ab : Bool), _⟩ h1 e1 hab => ?_
 have hab : ab = true := hab
 subst hab
 refine s_ifF (bind_bool (¬ (known enc ∧ l.length ≤ 65536) ∨ 100 < z.2.length) ?_ fun bb h2 e2 hb => wp_ifB (fun _ => s_ret ⟨rfl, e1.trans e2, (true, ()), rfl, rfl⟩) fun hx2 => ?_)
 ·refine wp_call (c_known5 (hl.ext e1)) fun ⟨(kn : Bool), _⟩ h2 e2 hkn => ?_
  have hkn : kn = true ↔ known enc ∧ l.length ≤ 65536 := hkn
  dsimp only
  refine wp_ifB (fun hc => s_ret ⟨rfl, e2, true, rfl, Iff.intro (fun _ => .inl fun h => ?_) fun _ => rfl⟩) fun hc => s_ret ⟨rfl, e2, _, rfl, ?_⟩
  ·rw [notB_iff] at hc; rw [hkn.2 h] at hc; cases hc
  ·rw [notB_not] at hc
   rw [gtI_iff, natI_def, lz]
   have := hkn.1 hc
   exact Iff.intro (fun h => .inr (by omega)) fun h => h.elim (fun h => absurd this h) fun h => by omega
 have hno : ¬ (¬ (known enc ∧ l.length ≤ 65536) ∨ 100 < z.2.length) := fun h => by rw [hb.2 h] at hx2; cases hx2
 have hkl : known enc ∧ l.length ≤ 65536 := Classical.byContradiction fun h => hno (.inl h)
 have hz100 : z.2.length ≤ 100 := by
  by_cases h : 100 < z.2.length
  ·exact absurd (.inr h) hno
  ·omega
 obtain ⟨he, hl6⟩ := hkl
 have e02 := e1.trans e2
 refine s_append (n := h2.size) (k := .u8) (OwnL.nil _ _ _) (Nat.le_refl _) (hl.ext e02) (by simp; omega) (by simp; omega) fun r h3 k3 o3 u3 b3 => ?_
 have e3 : Ext h2 h3 := k3
 rw [List.nil_append] at o3
 have e03 := e02.trans e3
 have br : ∀ i, basB r i → h2.size ≤ i ∧ i < h3.size := fun i hi => basB_lt o3 hi
 refine wp_call (c_Open M (enc := enc) (limit := 65536) o3.lst) fun ⟨(p1 : Option Addr), (er1 : Int), _⟩ h4 e4 hx4 => ?_
 obtain ⟨T1, rfl, rfl, t1, lim1, A1, by1, z1⟩ := open_ok (show OpenR S h3 h4 enc 65536 l p1 er1 from hx4) he hl6
 refine wp_call (c_Open M (enc := enc) (limit := 65536) (o3.ext e4).lst) fun ⟨(p2 : Option Addr), (er2 : Int), _⟩ h5 e5 hx5 => ?_
 obtain ⟨T2, rfl, rfl, t2, lim2, A2, by2, z2⟩ := open_ok (show OpenR S h4 h5 enc 65536 l p2 er2 from hx5) he hl6
 have e35 := e4.trans e5
 have q2 := e02.size; have q3 := e3.size; have q4 := e4.size; have q5 := e5.size
 refine bind_bool False (wp_ifB (fun hh => by cases hh) fun _ => wp_ifB (fun hh => by cases hh) fun _ => wp_ifB (fun hh => by rw [neI_iff] at hh; exact absurd rfl hh) fun _ => wp_ifB (fun hh => by rw [neI_iff] at hh; exact absurd rfl hh) fun _ =>
  wp_call (c_same5B (o3.ext e35).lst (hl.ext (e03.trans e35))) fun ⟨(b : Bool), _⟩ h6 e6 hb => s_ret ⟨rfl, e6, _, rfl, ?_⟩) fun bb h6 e6 hb6 => wp_ifB (fun hx => (hb6.1 hx).elim) fun _ => ?_
 ·have hb : b = decide (l = l) := hb
  have hb : b = true := hb.trans (decide_eq_true rfl)
  rw [hb]; exact Iff.intro (fun h => by cases h) False.elim
 have e36 := e35.trans e6
 have e06 := e03.trans e36
 have q6 := e6.size
 have t1_6 := (t1.ext e5).ext e6
 have t2_6 := t2.ext e6
 have lr := o3.len
 refine wp_while (fun (w : Int × Unit) h' => ∃ (i : Nat) (L : List Int), i ≤ l.length ∧ w.1 = (i : Int) ∧ L.length = l.length ∧ Chg (basB r) h6 h' ∧ OwnL h2.size .u8 h' r L) (fun w _ => (l.length - w.1).toNat)
  (fun tag vs h' => tag = 2 ∧ vs = [] ∧ ∃ L : List Int, L.length = l.length ∧ Chg (basB r) h6 h' ∧ OwnL h2.size .u8 h' r L) ⟨0, l, Nat.zero_le _, rfl, rfl, Chg.refl _ _, o3.ext e36⟩ ?_ ?_
 ·rintro ⟨(i' : Int), u⟩ h' ⟨i, L, hi, hi', hL, cL, oL⟩
  dsimp only at hi' ⊢
  subst hi'
  refine wp_ifB (fun hc => ?_) fun hc => s_ret ⟨fun hh => absurd hh (by decide), fun _ => ⟨rfl, rfl, L, hL, cL, oL⟩⟩
  rw [ltI_iff, natI_def, lr] at hc
  refine s_set oL (by omega) (by omega) (by rw [fits_u8]; decide) fun h'' o'' u'' _ => ?_
  rw [add_ok (by omega) (by omega)]
  exact s_ret ⟨fun _ => ⟨((i : Int) + 1, ()), rfl, ⟨i + 1, _, by omega, by dsimp only; omega, by rw [List.length_set]; exact hL, cL.trans (Chg.of_upd (F := basB r) u'' fun y hy _ => ⟨y, hy, rfl⟩) fun _ _ f => f, o''⟩, by dsimp only; omega⟩, fun hh => absurd rfl hh⟩
 rintro tag vs h7 ⟨rfl, rfl, L, hL, c7, oL⟩
 refine s_tag (s_cast0 ?_)
 have q7 := c7.1
 have e07 : Ext h h7 := Keep.trans e06 (c7.keep e06.size fun i hi f => by have := br i f; omega)
 have t1_7 := t1_6.chg c7 fun i hi f => by have := z1 i hi; have := br i f; omega
 have t2_7 := t2_6.chg c7 fun i hi f => by have := z2 i hi; have := br i f; omega
 refine wp_call (c_Open M (enc := enc) (limit := 65536) oL.lst) fun ⟨(p3 : Option Addr), (er3 : Int), _⟩ h8 e8 hx8 => ?_
 obtain ⟨T3, rfl, rfl, t3, lim3, A3, by3, z3⟩ := open_ok (show OpenR S h7 h8 enc 65536 L p3 er3 from hx8) he (by omega)
 have e08 := e07.trans e8
 refine bind_bool False (wp_ifB (fun hh => by cases hh) fun _ => wp_ifB (fun hh => by rw [neI_iff] at hh; exact absurd rfl hh) fun _ => wp_call (c_Bytes C t3) fun ⟨(v1 : Sl), _⟩ j1 f1 ov1 => ?_) fun bb h9 e9 hb9 => wp_ifB (fun hx => (hb9.1 hx).elim) fun _ => ?_
 ·have ov1 : OwnL h8.size .u8 j1 v1 (bytesL T3.cur.ps) := ov1
  rw [by3] at ov1
  refine wp_call (c_same5B ov1.lst ((oL.ext e8).ext f1).lst) fun ⟨(b : Bool), _⟩ j2 f2 hb => ?_
  have hb : b = decide (L = L) := hb
  have hb : b = true := hb.trans (decide_eq_true rfl)
  subst hb
  refine wp_ifB (fun hh => by cases hh) fun _ => wp_call (c_Bytes C (((t1_7.ext e8).ext f1).ext f2)) fun ⟨(v2 : Sl), _⟩ j3 f3 ov2 => ?_
  have ov2 : OwnL j2.size .u8 j3 v2 (bytesL T1.cur.ps) := ov2
  rw [by1] at ov2
  have g3 := (f1.trans f2).trans f3
  refine wp_call (c_same5B ov2.lst ((hl.ext e08).ext g3)) fun ⟨(b : Bool), _⟩ j4 f4 hb => ?_
  have hb : b = decide (l = l) := hb
  have hb : b = true := hb.trans (decide_eq_true rfl)
  subst hb
  have g4 := g3.trans f4
  refine wp_ifB (fun hh => by cases hh) fun _ => wp_call (c_Bytes C ((t2_7.ext e8).ext g4)) fun ⟨(v3 : Sl), _⟩ j5 f5 ov3 => ?_
  have ov3 : OwnL j4.size .u8 j5 v3 (bytesL T2.cur.ps) := ov3
  rw [by2] at ov3
  have g5 := g4.trans f5
  refine wp_call (c_same5B ov3.lst ((hl.ext e08).ext g5)) fun ⟨(b : Bool), _⟩ j6 f6 hb => s_ret ⟨rfl, g5.trans f6, _, rfl, ?_⟩
  have hb : b = decide (l = l) := hb
  have hb : b = true := hb.trans (decide_eq_true rfl)
  rw [hb]; exact Iff.intro (fun h => by cases h) False.elim
 have e09 := e08.trans e9
 have q8 := e8.size; have q9 := e9.size
 refine s_putO (bs := [.ptr, .ptr]) (z := ((none, none, ()) : Option Addr × Option Addr × Unit)) ((some T1.p, some T2.p, ()) : Option Addr × Option Addr × Unit) (by decide) (by intro v hv; simp [Bs.inj] at hv; rcases hv with rfl | rfl <;> rfl) fun h10 e10 oar => ?_
 have oar : Own h9.size 1 h10 ⟨some ⟨h9.size, 0, none⟩, 2, 2⟩ [.pointer (some T1.p), .pointer (some T2.p)] := oar
 refine s_newB (by simp) fun h11 e11 osh => s_newB (by simp) fun h12 e12 oqu => s_newPn fun h13 e13 open_ hsz => ?_
 have osh : Own h10.size 1 h11 ⟨some ⟨h10.size, 0, none⟩, 4, 4⟩ [slv ⟨none, 0, 0⟩, slv ⟨none, 0, 0⟩, slv ⟨none, 0, 0⟩, slv ⟨none, 0, 0⟩] := osh
 have oqu : Own h11.size 1 h12 ⟨some ⟨h11.size, 0, none⟩, 4, 4⟩ [slv ⟨none, 0, 0⟩, slv ⟨none, 0, 0⟩, slv ⟨none, 0, 0⟩, slv ⟨none, 0, 0⟩] := oqu
 have l910 : h9.size < h10.size := (oar.lt rfl).2
 have l1011 : h10.size < h11.size := (osh.lt rfl).2
 have l1112 : h11.size < h12.size := (oqu.lt rfl).2
 have q13 := e13.size
 have e1013 := (e11.trans e12).trans e13
 have e913 := e10.trans e1013
 have e013 := e09.trans e913
 have t1_13 := ((t1_7.ext e8).ext e9).ext e913
 have t2_13 := ((t2_7.ext e8).ext e9).ext e913
 have low : ∀ {m : Nat} {T : TX}, h.size ≤ m → TextR S m h13 T → TextR S h.size h13 T := fun hm t => ⟨t.enc, t.lim, t.ob.mono hm, t.ad.mono hm, t.adp, t.adk, t.cur, t.kept, t.zp, t.za, fun i hi => ⟨Nat.le_trans hm (t.lo i hi).1, (t.lo i hi).2⟩⟩
 have zl1 : ∀ i, T1.Z i → h3.size ≤ i ∧ i < h4.size := fun i hi => ⟨z1 i hi, (t1.lo i hi).2⟩
 have zl2 : ∀ i, T2.Z i → h4.size ≤ i ∧ i < h5.size := fun i hi => ⟨z2 i hi, (t2.lo i hi).2⟩
 have a13 : ∃ rho, ApR S h.size h13 rho (fun j => if j = 0 then T1 else T2) (some (pn0 h12.size)) (some (at0 h12.size)) ⟨h11.size, 0, none⟩ ⟨h10.size, 0, none⟩ ⟨h9.size, 0, none⟩ 0 0 0 := by
  classical
  refine ⟨fun i => if T1.Z i then 1 else if T2.Z i then 2 else if i = h12.size then 3 else if i = h9.size then 4 else if i = h10.size then 5 else if i = h11.size then 11 else 0, fun k hk => ?_, fun k hk i hi => ?_, fun k hk => ?_, fun k hk => ?_, ⟨rfl, pn0_R (open_.mono (by omega))⟩, fun i hi => ?_, (oar.ext e1013).mono (by omega), ?_, ⟨_, _, _, _, [], [], ⟨⟨Own.nil _ _ _, OwnL.nil _ _ _, fun i ⟨a, ha, _⟩ => (by cases ha), fun i ⟨a, ha, _⟩ => (by cases ha), fun x hx => (by cases hx)⟩, ⟨Own.nil _ _ _, OwnL.nil _ _ _, fun i ⟨a, ha, _⟩ => (by cases ha), fun i ⟨a, ha, _⟩ => (by cases ha), fun x hx => (by cases hx)⟩, ((osh.ext e12).ext e13).mono (by omega), ?_⟩, Nat.le_refl _, Nat.le_refl _⟩,
   ⟨_, _, _, _, [], [], [], [], [], [], ⟨⟨Own.nil _ _ _, Own.nil _ _ _, rfl, rfl, fun i ⟨a, ha, _⟩ => (by cases ha), fun i ⟨a, ha, _⟩ => (by cases ha), fun j s v _ hs => (by simp at hs), fun j s v hs => (by simp at hs), fun v hv => (by cases hv)⟩, ⟨Own.nil _ _ _, Own.nil _ _ _, rfl, rfl, fun i ⟨a, ha, _⟩ => (by cases ha), fun i ⟨a, ha, _⟩ => (by cases ha), fun j s v _ hs => (by simp at hs), fun j s v hs => (by simp at hs), fun v hv => (by cases hv)⟩, (oqu.ext e13).mono (by omega), ?_⟩, Nat.le_refl _, Nat.le_refl _⟩, ⟨fun i hi => ?_, fun i hi => ?_⟩⟩
  ·by_cases h0 : k = 0
   ·rw [if_pos h0]; exact low (by omega) t1_13
   ·rw [if_neg h0]; exact low (by omega) t2_13
  ·by_cases h0 : k = 0
   ·rw [if_pos h0] at hi; rw [if_pos hi, h0]
   ·rw [if_neg h0] at hi
    rw [if_neg fun h => by have := zl1 i h; have := zl2 i hi; omega, if_pos hi]; omega
  ·by_cases h0 : k = 0
   ·rw [if_pos h0, by1, lim1]; omega
   ·rw [if_neg h0, by2, lim2]; omega
  ·by_cases h0 : k = 0
   ·rw [if_pos h0, A1]; exact Nat.le_refl _
   ·rw [if_neg h0, A2]; exact Nat.le_refl _
  ·have := pn0_Z hi
   rw [if_neg fun h => by have := zl1 i h; omega, if_neg fun h => by have := zl2 i h; omega, if_pos this]
  ·show (if T1.Z h9.size then 1 else if T2.Z h9.size then 2 else if h9.size = h12.size then 3 else if h9.size = h9.size then 4 else if h9.size = h10.size then 5 else if h9.size = h11.size then 11 else 0) = 4
   rw [if_neg fun h => by have := zl1 _ h; omega, if_neg fun h => by have := zl2 _ h; omega, if_neg (by omega), if_pos rfl]
  ·show (if T1.Z h10.size then 1 else if T2.Z h10.size then 2 else if h10.size = h12.size then 3 else if h10.size = h9.size then 4 else if h10.size = h10.size then 5 else if h10.size = h11.size then 11 else 0) = 5
   rw [if_neg fun h => by have := zl1 _ h; omega, if_neg fun h => by have := zl2 _ h; omega, if_neg (by omega), if_neg (by omega), if_pos rfl]
  ·show (if T1.Z h11.size then 1 else if T2.Z h11.size then 2 else if h11.size = h12.size then 3 else if h11.size = h9.size then 4 else if h11.size = h10.size then 5 else if h11.size = h11.size then 11 else 0) = 11
   rw [if_neg fun h => by have := zl1 _ h; omega, if_neg fun h => by have := zl2 _ h; omega, if_neg (by omega), if_neg (by omega), if_neg (by omega), if_pos rfl]
  ·rw [if_neg fun h => by have := zl1 _ h; omega, if_neg fun h => by have := zl2 _ h; omega, if_neg (by omega), if_neg (by omega), if_neg (by omega), if_neg (by omega)]
  ·by_cases g1 : T1.Z i
   ·have := zl1 i g1; omega
   ·rw [if_neg g1] at hi
    by_cases g2 : T2.Z i
    ·have := zl2 i g2; omega
    ·rw [if_neg g2] at hi
     by_cases g3 : h9.size ≤ i
     ·omega
     ·rw [if_neg (by omega), if_neg (by omega), if_neg (by omega), if_neg (by omega)] at hi
      exact absurd rfl hi
 obtain ⟨rho0, a13⟩ := a13
 generalize (fun j => if j = 0 then T1 else T2) = TT0 at a13
 generalize some (pn0 h12.size) = ps0 at a13
 have sumi : ∀ i, ((z.2.take i).map hnP).sum ≤ 1048576 := fun i => Nat.le_trans (sum_take_le hnP z.2 i) sumz
 refine wp_while (fun (w : Int × Unit) h' => ∃ (i : Nat) (TT : Nat → TX) (ps : Option PenS) (rho : Nat → Nat), i ≤ z.2.length ∧ w.1 = (i : Int) ∧ Ext h h' ∧ ApR S h.size h' rho TT ps (some (at0 h12.size)) ⟨h11.size, 0, none⟩ ⟨h10.size, 0, none⟩ ⟨h9.size, 0, none⟩ (92 * i) (8 * i) (4 * ((z.2.take i).map hnP).sum)) (fun w _ => (z.2.length - w.1).toNat)
  (fun tag vs h' => tag = 4 ∧ vs = [] ∧ ∃ (TT : Nat → TX) (ps : Option PenS) (rho : Nat → Nat) (am : Nat), Ext h h' ∧ ApR S h.size h' rho TT ps (some (at0 h12.size)) ⟨h11.size, 0, none⟩ ⟨h10.size, 0, none⟩ ⟨h9.size, 0, none⟩ 10000 10000 am) ⟨0, TT0, ps0, rho0, Nat.zero_le _, rfl, e013, a13⟩ ?_ ?_
 ·rintro ⟨(i' : Int), u⟩ g0 ⟨i, TT, ps, rho, hi, hi', ex0, a0⟩
  dsimp only at hi' ⊢
  subst hi'
  refine wp_ifB (fun hc => ?_) fun hc => s_ret ⟨fun hh => absurd hh (by decide), fun _ => ⟨rfl, rfl, TT, ps, rho, _, ex0, a0.up (by omega) (by omega) (Nat.le_refl _)⟩⟩
  rw [ltI_iff, natI_def, lz] at hc
  have hil : i < z.2.length := by omega
  obtain ⟨e, hee⟩ : ∃ e, z.2[i]? = some e := ⟨z.2[i], List.getElem?_eq_getElem hil⟩
  have hee' : z.2[((i : Nat) : Int).toNat]? = some e := hee
  have hs2 := sum_take hnP hee
  have hwe := edsz e (List.mem_of_getElem? hee)
  have hsi := sumi i
  have hsi1 := sumi (i + 1)
  refine s_atSh (e := HnSh) (x := z) (bs := bO5) (z := (e.1, e.2.1, e.2.2.1, e.2.2.2.1, e.2.2.2.2.1.1, ())) (Sh.ok.ext ex0 hz) (by omega) hee' rfl rfl ?_
  refine s_putO (bs := bO5) (z := ((0, 0, 0, 0, ⟨none, 0, 0⟩, ()) : Int × Int × Int × Int × Sl × Unit)) ((e.1, e.2.1, e.2.2.1, e.2.2.2.1, e.2.2.2.2.1.1, ()) : Int × Int × Int × Int × Sl × Unit) (by decide) (by intro v hv; simp [Bs.inj] at hv; rcases hv with rfl | rfl | rfl | rfl | rfl <;> rfl) fun g1 f1 o1 => ?_
  have ok := hz.el hee
  have fB : fitsI .i64 e.2.2.1 := ok.2.2.1
  have fS : fitsI .i64 e.2.2.2.1 := ok.2.2.2.1
  have okE : ∀ {g : Heap}, Ext h g → (Sh.list EdSh).ok g e.2.2.2.2.1 := fun {g} ee => ((Sh.ok.ext ee hz).el hee).2.2.2.2.1
  obtain ⟨who, iA, iB, size, ⟨es, el⟩, eu⟩ := e
  dsimp only at hs2 hwe fB fS okE o1 ⊢
  have hs2 : ((z.2.take (i + 1)).map hnP).sum = ((z.2.take i).map hnP).sum + (putsOf el).length := hs2
  obtain ⟨we1, we2, we3⟩ := eds_wt (es, el)
  dsimp only at we1 we2 we3
  clear ok hee hee'
  obtain ⟨k, hk, hwho⟩ : ∃ k : Nat, k < 2 ∧ andI .i64 who 1 = (k : Int) := ⟨(who % 2).toNat, by omega, by rw [and1_64]; omega⟩
  have hwho' : subI .i64 1 (k : Int) = ((1 - k : Nat) : Int) := by rw [sub_ok (by omega) (by omega)]; omega
  refine s_cell (b := .int .i64) who rfl o1.cells rfl ?_
  rw [hwho, hwho']
  have lq4 : 8 * i ≤ 400000 := by omega
  have a1 := a0.ext f1 lq4
  have ex1 := ex0.trans f1
  have n0 := ex0.size
  have l01 : g0.size < g1.size := (o1.lt rfl).2
  have lo0 : ∀ j, g0.size ≤ j → rho j = 0 := a0.bk.lo
  have h1k : 1 - k < 2 := by omega
  have hkk : 1 - k ≠ k := by omega
  refine s_ar a1.oar h1k (s_see M C (a1.t (1 - k) h1k) fun xo g2 f2 so => ?_)
  refine s_putO (bs := bS3) (z := ((⟨none, 0, 0⟩, ⟨none, 0, 0⟩, ⟨none, 0, 0⟩, ()) : Sl × Sl × Sl × Unit)) xo (by decide) sl3f fun g3 f3 oO => ?_
  have l12 := f2.size
  have l23 : g2.size < g3.size := (oO.lt rfl).2
  have f13 := f2.trans f3
  have a3 := a1.ext f13 lq4
  have ex3 := ex1.trans f13
  have so3 := so.ext f3
  have o13 := o1.ext f13
  refine s_ar a3.oar hk (s_cell (b := .sl) es rfl o13.cells rfl ?_)
  refine wp_callW (c_written M (x := (es, el)) (a3.t k hk) a3.pen (fun j hj hz' => by have := a3.zt k hk j hj; have := a3.zp j hz'; omega) ex3.size (fun h' kk => okE (Keep.trans ex3 kk)) (by dsimp only; omega) (fun x hx => by have := we3 x hx; omega) (by have := a3.A k hk; dsimp only; omega) (a3.sm k hk)) fun tg vs g4 ⟨ht, rr, T', s', hv, wr⟩ => ⟨ht, (rr, true, ()), hv, ?_⟩
  obtain ⟨rho1, a4, none4, c4⟩ := a3.write hk wr lq4
  have q34 := c4.1
  have F4 : ∀ j, rho j = 1 + k ∨ rho j = 3 → rho j ≠ 0 := fun j f => by omega
  have bo1 : ∀ j, basB ⟨some ⟨g0.size, 0, none⟩, 5, 5⟩ j → j = g0.size := fun j ⟨x, hx, hj⟩ => by cases hx; exact hj.symm
  have boO : ∀ j, basB ⟨some ⟨g2.size, 0, none⟩, 3, 3⟩ j → j = g2.size := fun j ⟨x, hx, hj⟩ => by cases hx; exact hj.symm
  have o14 : Own g0.size 1 g4 ⟨some ⟨g0.size, 0, none⟩, 5, 5⟩ (Bs.inj bO5 ((who, iA, iB, size, es, ()) : Int × Int × Int × Int × Sl × Unit)) := own_zero c4 o13 F4 fun j hj => lo0 j (by rw [bo1 j hj]; exact Nat.le_refl _)
  have oO4 : Own g2.size 1 g4 ⟨some ⟨g2.size, 0, none⟩, 3, 3⟩ (Bs.inj bS3 xo) := own_zero c4 oO F4 fun j hj => lo0 j (by have := boO j hj; omega)
  have so4 : SnR g1.size g4 xo (TT (1 - k)) := so3.chg c4 fun j hj _ f => F4 j f (lo0 j (by omega))
  have zr1 : ∀ j, g0.size ≤ j → (j < g3.size ∨ g4.size ≤ j) → rho1 j = 0 := fun j h1 h2 => by
   rcases h2 with h2 | h2
   ·exact none4 j h2 (lo0 j h1)
   ·exact a4.bk.lo j h2
  have ex4 : Ext h g4 := Keep.trans ex3 (c4.keep ex3.size fun j hj f => by have := a3.bk.ge j (F4 j f); omega)
  have hTk : (if k = k then T' else TT k) = T' := if_pos rfl
  have hTo : (if 1 - k = k then T' else TT (1 - k)) = TT (1 - k) := if_neg hkk
  generalize hTT : (fun j => if j = k then T' else TT j) = TT' at a4
  have hTo' : TT' (1 - k) = TT (1 - k) := by rw [← hTT]; exact hTo
  rw [← hTo'] at so4
  clear hTT hTk hTo hTo'
  refine wp_ifB (fun hh => by cases hh) fun _ => ?_
  refine s_ar a4.oar hk (s_see M C (a4.t k hk) fun xf g5 f5 sf => ?_)
  obtain ⟨len1, len2⟩ := a4.lens hk
  refine wp_call (c_copied5 sf.a.lst sf.t.lst sf.b.lst (by rw [List.length_map]; omega) (by rw [List.length_map]; omega) (by omega)) fun ⟨(xc : Sl × Sl × Sl × Unit), _⟩ g6 f6 ⟨ca, ct, cb⟩ => ?_
  have sc : SnR g5.size g6 xc (TT' k) := ⟨ca, ct, cb⟩
  refine s_putO (bs := bS3) (z := ((⟨none, 0, 0⟩, ⟨none, 0, 0⟩, ⟨none, 0, 0⟩, ()) : Sl × Sl × Sl × Unit)) xc (by decide) sl3f fun g7 f7 oC => ?_
  have l45 := f5.size; have l56 := f6.size
  have l67 : g6.size < g7.size := (oC.lt rfl).2
  have f47 := (f5.trans f6).trans f7
  have a7 := a4.ext f47 lq4
  have ex7 := ex4.trans f47
  have boC : ∀ j, basB ⟨some ⟨g6.size, 0, none⟩, 3, 3⟩ j → j = g6.size := fun j ⟨x, hx, hj⟩ => by cases hx; exact hj.symm
  have hsum : 4 * ((z.2.take i).map hnP).sum + 4 * (putsOf el).length = 4 * ((z.2.take (i + 1)).map hnP).sum := by omega
  rw [hsum] at a7
  refine wp_bind (fun tag vs g8 => tag = 0 ∧ vs = [] ∧ ∃ rho2, ApR S h.size g8 rho2 TT' s' (some (at0 h12.size)) ⟨h11.size, 0, none⟩ ⟨h10.size, 0, none⟩ ⟨h9.size, 0, none⟩ (92 * i) (8 * (i + 1)) (4 * ((z.2.take (i + 1)).map hnP).sum) ∧ Chg (fun j => rho1 j ≠ 0) g7 g8 ∧ (∀ j, j < g7.size → rho1 j = 0 → rho2 j = 0)) ?_ ?_
  ·refine wp_ifB (fun _ => ?_) fun _ => s_ret ⟨rfl, rfl, rho1, a7.up (Nat.le_refl _) (by omega) (Nat.le_refl _), Chg.refl _ _, fun _ _ h => h⟩
   refine s_ar a7.oar hk (s_getO (bs := bO5) (o14.ext f47) ?_)
   refine wp_callW (c_ask M C Y (who := who) (A := iA) (B := iB) (size := size) (es := es) (a7.t k hk) (a7.pos hk) (a7.sm k hk) a7.qe a7.bk ex7.size fB fS (by omega) (by omega)) fun tg vs g8 ⟨ht, hv, rho2, d⟩ => ⟨ht, (), hv, s_ret ⟨rfl, rfl, rho2, a7.ask (d.up (by omega) (by omega)), d.chg.mono fun j _ f => by omega, fun j hj h0 => d.none j hj h0 fun f => f⟩⟩
  rintro tag vs g8 ⟨rfl, rfl, rho2, a8, c8, none8⟩
  refine s_tag (s_cast0 ?_)
  have q78 := c8.1
  have ex8 : Ext h g8 := Keep.trans ex7 (c8.keep ex7.size fun j hj f => by have := a7.bk.ge j f; omega)
  have zr1o : rho1 g0.size = 0 := zr1 _ (Nat.le_refl _) (.inl (by omega))
  have zr1O : rho1 g2.size = 0 := zr1 _ (by omega) (.inl (by omega))
  have zr1C : rho1 g6.size = 0 := zr1 _ (by omega) (.inr (by omega))
  have o18 := own_zero c8 (o14.ext f47) (fun _ f => f) fun j hj => by rw [bo1 j hj]; exact zr1o
  have oO8 := own_zero c8 (oO4.ext f47) (fun _ f => f) fun j hj => by rw [boO j hj]; exact zr1O
  have oC8 := own_zero c8 oC (fun _ f => f) fun j hj => by rw [boC j hj]; exact zr1C
  have so8 : SnR g1.size g8 xo (TT' (1 - k)) := by
   have bA : ∀ {x : Sl} {kd : IntKind} {L : List Int}, OwnL g1.size kd g3 x L → ∀ y, x.base = some y → rho1 y.block = 0 := fun o y hy => zr1 _ (by have := (o.own.lt hy).1; omega) (.inl (o.own.lt hy).2)
   have s7 := so4.ext f47
   exact ⟨c8.ownL s7.a fun y hy f => f (bA so3.a y hy), c8.ownL s7.t fun y hy f => f (bA so3.t y hy), c8.ownL s7.b fun y hy f => f (bA so3.b y hy)⟩
  have sc8 : SnR g5.size g8 xc (TT' k) := (sc.ext f7).chg c8 fun j hj _ f => f (zr1 j (by omega) (.inr (by omega)))
  refine s_ar a8.oar hk (s_getO (bs := bO5) o18 ?_)
  have lq8 : 8 * (i + 1) ≤ 400000 := by omega
  refine wp_callW (c_handOut M C Y (who := who) (A := iA) (B := iB) (size := size) (es := es) (a8.t k hk) (a8.pos hk) (a8.sm k hk) a8.s a8.bk ex8.size fB fS (by omega) (by omega)) fun tg vs g9 ⟨ht, hv, rho3, d⟩ => ⟨ht, (), hv, ?_⟩
  have a9 := a8.out d lq8
  have q89 := d.chg.1
  have c9 : Chg (fun j => rho2 j ≠ 0) g8 g9 := d.chg.mono fun j _ f => by
   rcases f with f | f | f
   ·exact f.elim
   ·exact f.elim
   ·omega
  have ex9 : Ext h g9 := Keep.trans ex8 (c9.keep ex8.size fun j hj f => by have := a8.bk.ge j f; omega)
  have oO9 := own_zero c9 oO8 (fun _ f => f) fun j hj => by rw [boO j hj]; exact none8 _ (by omega) zr1O
  have oC9 := own_zero c9 oC8 (fun _ f => f) fun j hj => by rw [boC j hj]; exact none8 _ (by omega) zr1C
  have so9 : SnR g1.size g9 xo (TT' (1 - k)) := by
   have bA : ∀ {x : Sl} {kd : IntKind} {L : List Int}, OwnL g1.size kd g3 x L → ∀ y, x.base = some y → rho2 y.block = 0 := fun o y hy => none8 _ (by have := (o.own.lt hy).2; omega) (zr1 _ (by have := (o.own.lt hy).1; omega) (.inl (o.own.lt hy).2))
   exact ⟨c9.ownL so8.a fun y hy f => f (bA so3.a y hy), c9.ownL so8.t fun y hy f => f (bA so3.t y hy), c9.ownL so8.b fun y hy f => f (bA so3.b y hy)⟩
  have sc9 : SnR g5.size g9 xc (TT' k) := by
   have bA : ∀ {x : Sl} {kd : IntKind} {L : List Int}, OwnL g5.size kd g6 x L → ∀ y, x.base = some y → rho2 y.block = 0 := fun o y hy => none8 _ (by have := (o.own.lt hy).2; omega) (zr1 _ (by have := (o.own.lt hy).1; omega) (.inr (by have := (o.own.lt hy).1; omega)))
   exact ⟨c9.ownL sc8.a fun y hy f => f (bA sc.a y hy), c9.ownL sc8.t fun y hy f => f (bA sc.t y hy), c9.ownL sc8.b fun y hy f => f (bA sc.b y hy)⟩
  refine bind_bool False ?_ fun bb g10 f10 hbb => wp_ifB (fun hx => (hbb.1 hx).elim) fun _ => ?_
  ·refine s_ar a9.oar hk (s_getO (bs := bS3) oC9 (s_see M C (a9.t k hk) fun xg j1 k1 sg => s_ckO (bs := bS3) (oC9.ext k1) (s_same xg xc sg (sc9.ext k1) fun j2 k2 => wp_ifB (fun hh => by cases hh) fun _ => ?_)))
   have k12 := k1.trans k2
   have a12 := a9.ext k12 lq8
   refine s_ar a12.oar h1k (s_getO (bs := bS3) (oO9.ext k12) (s_see M C (a12.t (1 - k) h1k) fun xg j3 k3 sg => s_ckO (bs := bS3) ((oO9.ext k12).ext k3) (s_same xg xo sg ((so9.ext k12).ext k3) fun j4 k4 => wp_ifB (fun hh => by cases hh) fun _ => ?_)))
   have k14 := (k12.trans k3).trans k4
   obtain ⟨si, sb, sm, sq, I, B, rs, r1, r2⟩ := (a9.ext k14 lq8).s
   refine wp_call (c_whole5 rs (by omega) (by omega)) fun ⟨(b : Bool), _⟩ j5 k5 hb => s_ret ⟨rfl, k14.trans k5, _, rfl, ?_⟩
   have hb : b = true := hb
   rw [hb]; exact Iff.intro (fun h => by cases h) False.elim
  rw [add_ok (by omega) (by omega)]
  exact s_ret ⟨fun _ => ⟨((i : Int) + 1, ()), rfl, ⟨i + 1, TT', s', rho3, hil, by dsimp only; omega, ex9.trans f10, (a9.up (by omega) (Nat.le_refl _) (Nat.le_refl _)).ext f10 lq8⟩, by dsimp only; omega⟩, fun hh => absurd rfl hh⟩
 ·rintro tag vs g0 ⟨rfl, rfl, TT, ps, rho, am, ex0, a0⟩
  refine s_tag (s_cast0 (wp_bind (fun tag vs h' => tag = 0 ∧ vs = [.bool true] ∧ Ext h h') ?_ ?_))
  ·refine wp_callW (c_qwhole a0.qe a0.bk ex0.size (by decide) (by decide)) fun tg vs g1 ⟨ht, hv, c⟩ => ⟨ht, (true, ()), hv, wp_ifB (fun _ => ?_) fun hh => by cases hh⟩
   have ex1 : Ext h g1 := Keep.trans ex0 (c.keep ex0.size fun j hj f => by have := a0.bk.ge j (by omega); omega)
   obtain ⟨si, sb, sm, sq, I, B, rs, r1, r2⟩ := a0.s.chg c (fun j f => by omega) (fun _ _ _ => rfl) (rho' := rho)
   refine wp_call (c_whole5 rs (by omega) (by omega)) fun ⟨(b : Bool), _⟩ g2 f2 hb => s_ret ⟨rfl, ?_, ex1.trans f2⟩
   have hb : b = true := hb
   rw [hb]
  ·rintro tag vs h' ⟨rfl, rfl, ex⟩
   exact s_tag (wp_cast (tys := [.one .bool]) (true, ()) rfl (s_ret ⟨rfl, ex, (true, ()), rfl, rfl⟩))
end Go.Sw.Piece
