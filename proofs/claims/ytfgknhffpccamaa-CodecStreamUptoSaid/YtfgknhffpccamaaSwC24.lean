/-
  Codec: frames; the document's Feed, Close, NewStream.
-/
import Derived.Test.YtfgknhffpccamaaSwC23
set_option linter.unusedVariables false
set_option linter.unusedSimpArgs false
set_option maxRecDepth 100000
namespace Go.Sw
variable {P : Program} {h : Heap} {Q : Nat → List Value → Heap → Prop}
/-- Of old memory only blocks that F names may have changed. -/
def Chg (F : Nat → Prop) (h h' : Heap) : Prop := h.size ≤ h'.size ∧ (∀ i, i < h.size → ¬ F i → h'[i]? = h[i]?) ∧ ∀ a, frz h a = false → frz h' a = false
theorem Chg.refl (F : Nat → Prop) (h : Heap) : Chg F h h := ⟨Nat.le_refl _, fun _ _ _ => rfl, fun _ x => x⟩
theorem Chg.of_ext {F : Nat → Prop} {a b : Heap} (e : Ext a b) : Chg F a b := ⟨e.1, fun i hi _ => e.2.1 i hi, e.2.2⟩
theorem Chg.trans {F G : Nat → Prop} {a b c : Heap} (u : Chg F a b) (v : Chg G b c) (hg : ∀ i, i < a.size → G i → F i) : Chg F a c :=
  ⟨Nat.le_trans u.1 v.1, fun i hi hn => (v.2.1 i (Nat.lt_of_lt_of_le hi u.1) fun g => hn (hg i hi g)).trans (u.2.1 i hi hn), fun x hx => v.2.2 x (u.2.2 x hx)⟩
theorem Chg.ext {F : Nat → Prop} {a b c : Heap} (u : Chg F a b) (e : Ext b c) : Chg F a c := u.trans (Chg.of_ext (F := F) e) fun _ _ g => g
theorem Chg.pre {F : Nat → Prop} {a b c : Heap} (e : Ext a b) (u : Chg F b c) : Chg F a c := (Chg.of_ext (F := F) e).trans u fun _ _ g => g
theorem Chg.mono {F G : Nat → Prop} {a b : Heap} (u : Chg F a b) (hg : ∀ i, i < a.size → F i → G i) : Chg G a b := (Chg.refl G a).trans u hg
theorem Chg.of_upd {F : Nat → Prop} {s : Sl} {a b : Heap} (u : Upd s a b) (hs : ∀ x, s.base = some x → x.block < a.size → F x.block) : Chg F a b :=
  ⟨u.1, fun i hi hn => u.2.1 i hi fun x hx e => hn (by rw [← e]; exact hs x hx (by omega)), u.2.2⟩
theorem Chg.upd {F : Nat → Prop} {s : Sl} {a b c : Heap} (u : Chg F a b) (v : Upd s b c) (hs : ∀ x, s.base = some x → x.block < a.size → F x.block) : Chg F a c :=
  u.trans (G := fun i => ∃ x, s.base = some x ∧ x.block = i) (Chg.of_upd v fun x hx _ => ⟨x, hx, rfl⟩) fun i hi ⟨x, hx, e⟩ => by rw [← e]; exact hs x hx (by omega)
theorem Chg.keep {F : Nat → Prop} {n : Nat} {a b : Heap} (u : Chg F a b) (hn : n ≤ a.size) (hf : ∀ i, i < n → ¬ F i) : Keep n a b := ⟨u.1, fun i hi => u.2.1 i (by omega) (hf i hi), u.2.2⟩
theorem Chg.lst {F : Nat → Prop} {a b : Heap} {k : IntKind} {s : Sl} {l : List Int} (u : Chg F a b) (hr : Lst k a s l) (hn : ∀ x, s.base = some x → ¬ F x.block) : Lst k b s l :=
  Go.Sw.Lst.blocks hr fun x hx hl => u.2.1 _ hl (hn x hx)
theorem Chg.lst0 {F : Nat → Prop} {a b : Heap} {k : IntKind} {s : Sl} {l : List Int} (u : Chg F a b) (hr : Lst k a s l) (hn : l ≠ [] → ∀ x, s.base = some x → ¬ F x.block) : Lst k b s l := by
  cases l with
  | nil => exact ⟨⟨hr.rd.1, fun i v hi => by simp at hi⟩, hr.cap, hr.max, hr.wf⟩
  | cons y l => exact u.lst hr (hn (by simp))
theorem Chg.own {F : Nat → Prop} {n size : Nat} {a b : Heap} {s : Sl} {vs : List Value} (u : Chg F a b) (hr : Own n size a s vs) (hn : ∀ x, s.base = some x → ¬ F x.block) : Own n size b s vs :=
  hr.keep fun x hx => u.2.1 _ (hr.lt hx).2 (hn x hx)
theorem Chg.ownL {F : Nat → Prop} {n : Nat} {a b : Heap} {k : IntKind} {s : Sl} {l : List Int} (u : Chg F a b) (hr : OwnL n k a s l) (hn : ∀ x, s.base = some x → ¬ F x.block) : OwnL n k b s l :=
  ⟨u.own hr.own hn, hr.wf⟩

def GivesF (F : Nat → Prop) (P : Program) (m : Prog) (tys : List Ty) (h : Heap) (R : Ts.den tys → Heap → Prop) : Prop :=
  wp P m h fun t vs h' => t = 0 ∧ Chg F h h' ∧ ∃ x, vs = Ts.inj tys x ∧ R x h'
theorem wp_callF {F : Nat → Prop} {m : Prog} {tys : List Ty} {K : Ts.den tys → Prog} {R : Ts.den tys → Heap → Prop} (g : GivesF F P m tys h R) (hk : ∀ x h', Chg F h h' → R x h' → wp P (K x) h' Q) :
    wp P (.call m tys K) h Q :=
  wp_mono m (fun _ _ _ ⟨a, b, x, c, d⟩ => ⟨a, x, c, hk x _ b d⟩) g
theorem s_ckC {q : Addr} {j : Nat} {v : Value} {K : Prog} (hc : cell h (q.add j) = some v) (hk : wp P K h Q) : wp P (.check (shiftTo (some q) j) [v] K) h Q := by
  refine ⟨⟨q.add j, rfl, cells_iff.2 fun i u hi => ?_⟩, hk⟩
  cases i with
  | zero => simp at hi; subst hi; rw [add_zero']; exact hc
  | succ i => simp at hi
theorem take_snoc {l : List Int} {i : Nat} (hi : i < l.length) : l.take i ++ [l.getD i 0] = l.take (i + 1) := by
  rw [List.take_add_one, List.getD_eq_getElem?_getD, List.getElem?_eq_getElem hi]; rfl
theorem cutBase_block {p : Option Addr} {m i size : Nat} {a : Addr} (h : cutBase p m i size = some a) : ∃ b, p = some b ∧ b.block = a.block := by
  unfold cutBase at h
  split at h
  · exact ⟨a, h, rfl⟩
  · cases p with
    | none => simp at h
    | some b => simp at h; exact ⟨b, rfl, by rw [← h, add_block]⟩
end Go.Sw

namespace Go.Sw.Codec
variable {P : Program} {S : Ids} {h : Heap} {Q : Nat → List Value → Heap → Prop} {n : Nat} {q : Addr} {enc told : Int} {rs : Sl} {all : List Int}

/-- The blocks of the document's stream. -/
def rfoot (q : Addr) (rs : Sl) (i : Nat) : Prop := i = q.block ∨ ∃ a, rs.base = some a ∧ a.block = i

theorem RStr.lt (r : RStr n h q enc rs all told) : n ≤ q.block ∧ q.block < h.size := r.ob.lt rfl

theorem c_ref_New {n : Nat} (hn : n ≤ h.size) : Gives P (F_ref1_NewStream S enc) [.one .ptr, .one (.int .i64)] h fun (x : Option Addr × Int × Unit) h' =>
    (¬ known enc ∧ x.1 = none ∧ x.2.1 = 10) ∨ (known enc ∧ x.2.1 = 0 ∧ ∃ q : Addr, x.1 = some q ∧ h.size ≤ q.block ∧ q.block < h'.size ∧ RStr n h' q enc ⟨none, 0, 0⟩ [] 0) := by
  unfold F_ref1_NewStream
  refine wp_call (c_known enc) fun ⟨(k : Bool), u⟩ h1 e1 hk => ?_
  have hk : k = true ↔ known enc := hk
  dsimp only
  refine wp_ifB (fun hc => ?_) fun hc => ?_
  · rw [notB_iff] at hc
    exact s_ret ⟨rfl, e1, (none, 10, ()), rfl, .inl ⟨(fun hh => by rw [hk.2 hh] at hc; cases hc), rfl, rfl⟩⟩
  · have hkn : known enc := by
      cases hb : k with
      | true => exact hk.1 hb
      | false => rw [hb] at hc; cases hc
    refine fun elem => s_ret ⟨rfl, e1.trans (Ext.push ..), (some ⟨h1.size, 0, none⟩, 0, ()), rfl, .inr ⟨hkn, rfl, _, rfl, e1.1, by simp, ?_⟩⟩
    exact ⟨(own_alloc (vs := [i64v enc, slv ⟨none, 0, 0⟩, i64v 0]) rfl (by decide) (by decide)).mono (by have := e1.1; omega), OwnL.nil .., fun a ha => by cases ha⟩

theorem c_ref_Feed {b : Sl} {x : List Int} (he : known enc) (r : RStr n h q enc rs all told) (hn : n ≤ h.size) (hb : Lst .u8 h b x) (hbd : x ≠ [] → ∀ a, b.base = some a → ¬ rfoot q rs a.block) (hl : all.length + x.length ≤ 1099511627776) (h0 : 0 ≤ told)
    (hle : ∀ v, HeldR enc (all ++ x) v → told ≤ ((dec enc ((all ++ x).take ((all ++ x).length - v.toNat))).length : Int)) :
    GivesF (rfoot q rs) P (F_ref_Stream_Feed S (some q) b) [.one .sl] h fun y h' => ∃ (rs' : Sl) (v : Int), HeldR enc (all ++ x) v ∧
      RStr n h' q enc rs' (all ++ x) ((dec enc ((all ++ x).take ((all ++ x).length - v.toNat))).length : Int) ∧ (∀ a, rs'.base = some a → rs.base = some a ∨ h.size ≤ a.block) ∧
      Lst .i64 h' y.1 ((dec enc ((all ++ x).take ((all ++ x).length - v.toNat))).drop told.toNat) ∧ ∀ a, y.1.base = some a → h.size ≤ a.block := by
  have hbl := hb.len
  have hnl : natI b.len = (x.length : Int) := by rw [natI_def, hbl]
  have hlt := r.lt
  have hby : isBytes (all ++ x) := bytes_append r.al.wf hb.wf
  unfold F_ref_Stream_Feed GivesF
  rw [hnl]
  refine wp_while (fun (s : Int × Unit) h' => Chg (rfoot q rs) h h' ∧ ∃ (i : Nat) (rs' : Sl), s.1 = i ∧ i ≤ x.length ∧ RStr n h' q enc rs' (all ++ x.take i) told ∧ ∀ a, rs'.base = some a → rs.base = some a ∨ h.size ≤ a.block) (fun s _ => ((x.length : Int) - s.1).toNat)
    (fun t vs h' => t = 2 ∧ vs = [] ∧ Chg (rfoot q rs) h h' ∧ ∃ (rs' : Sl), RStr n h' q enc rs' (all ++ x) told ∧ ∀ a, rs'.base = some a → rs.base = some a ∨ h.size ≤ a.block) ⟨Chg.refl _ _, 0, rs, rfl, by omega, by simpa using r, fun a ha => .inl ha⟩ ?_ ?_
  · rintro ⟨i', u⟩ h1 ⟨u1, i, rs1, hi, hix, r1, b1⟩
    dsimp only at hi ⊢
    subst hi
    refine wp_ifB (fun hc => ?_) fun hc => ?_
    · rw [ltI_iff] at hc
      have hb1 := u1.lst0 hb hbd
      have hn1 := u1.1
      refine s_getF (b := .sl) (x := rs1) r1.c1 (s_at hb1 (by omega) hc fun hv => ?_)
      rw [Int.toNat_natCast] at hv ⊢
      refine s_allocL (k := .u8) [x.getD i 0] (fun y hy => by rw [List.mem_singleton.1 hy]; exact hv) (by simp) fun h2 e2 o2 => ?_
      have r2 := r1.ext e2
      have hlen2 : (all ++ x.take i).length = all.length + i := by rw [List.length_append, List.length_take]; omega
      refine s_ckC r2.c1 (s_append (bytes := 1) r2.al (by have := e2.1; omega) o2.lst (by rw [hlen2]; simp; omega) (by rw [hlen2]; simp; omega) fun r3 h3 k3 o3 u3 b3 => ?_)
      have ob3 := r2.ob.keep (h' := h3) fun a ha => by cases ha; exact u3.2.1 _ r2.lt.2 fun a ha e => r2.ne a ha e
      refine s_grd rfl (s_grd rfl (s_setC' (slv r3) ob3 (by simp) rfl fun h4 ob4 u4 => ?_))
      have hne3 : ∀ a, r3.base = some a → a.block ≠ q.block := fun a ha => by
        rcases b3 a ha with hh | hh
        · exact r2.ne a hh
        · have := r2.lt.2; omega
      rw [add_ok (by omega) (by omega)]
      have o4 : OwnL n .u8 h4 r3 (all ++ x.take i ++ [x.getD i 0]) := o3.keep fun a ha => u4.2.1 _ (o3.own.lt ha).2 fun a' ha' => by cases ha'; exact fun e => hne3 a ha e.symm
      rw [List.append_assoc, take_snoc (by omega)] at o4
      have f2 := u1.ext e2
      have f3 := f2.upd u3 fun a ha hl => by
        rcases b1 a ha with hh | hh
        · exact .inr ⟨a, hh, rfl⟩
        · omega
      have f4 := f3.upd u4 fun a ha hl => by cases ha; exact .inl rfl
      refine s_ret ⟨fun _ => ⟨((i : Int) + 1, ()), rfl, ⟨f4, i + 1, r3, rfl, by omega, ⟨ob4, o4, hne3⟩, fun a ha => ?_⟩, by dsimp only; omega⟩, fun h => absurd rfl h⟩
      rcases b3 a ha with hh | hh
      · exact b1 a hh
      · right; have := e2.1; omega
    · rw [ltI_not] at hc
      have : i = x.length := by omega
      subst this
      rw [List.take_length] at r1
      exact s_ret ⟨fun h => absurd h (by decide), fun _ => ⟨rfl, rfl, u1, rs1, r1, b1⟩⟩
  · rintro t vs h1 ⟨rfl, rfl, u1, rs1, r1, b1⟩
    have hLL : (all ++ x).length = all.length + x.length := List.length_append
    refine s_tag (s_cast0 (wp_call (c_ref_Held he r1 (by omega)) fun ⟨(v : Int), w⟩ h2 e2 hh => ?_))
    have hh : HeldR enc (all ++ x) v := hh
    obtain ⟨v0, v3, vl⟩ := hh.small hby
    dsimp only
    have r2 := r1.ext e2
    have hln := r2.al.len
    have hcap := r2.al.lst.cap
    have hnl2 : natI rs1.len = ((all ++ x).length : Int) := by rw [natI_def, hln]
    refine s_getF (b := .int .i64) (x := enc) r2.c0 (s_getF (b := .sl) (x := rs1) r2.c1 (s_getF (b := .sl) (x := rs1) r2.c1 ?_))
    rw [hnl2, sub_ok (by omega) (by omega)]
    refine s_grd (leB_ok (by omega) (by omega)) ?_
    have hto : toN (((all ++ x).length : Int) - v) = (all ++ x).length - v.toNat := by rw [toN_def]; omega
    rw [hto, cutBase_zero, subZero, subZero]
    refine wp_call (c_ref_Decode (Lst.head r2.al.lst (i := (all ++ x).length - v.toNat) (by omega)) (by rw [List.length_take]; omega)) fun ⟨y, (ye : Int), w'⟩ h3 e3 hy => ?_
    obtain ⟨oy, _⟩ := DecA.known he hy
    dsimp only at oy ⊢
    have hyl := oy.len
    have hle' := hle v hh
    have r3 := r2.ext e3
    refine s_getF (b := .int .i64) (x := told) r3.c2 (s_grd (leB_ok h0 (by omega)) (s_grd rfl (s_grd rfl (s_setC' (i64v (natI y.len)) r3.ob (by simp) rfl fun h4 ob4 u4 => ?_))))
    have f4 := ((u1.ext e2).ext e3).upd u4 fun a ha hl => by cases ha; exact .inl rfl
    have hqb : q.block < h2.size := r2.lt.2
    have oy4 := oy.lst.blocks (h' := h4) fun a ha hl => u4.2.1 _ hl fun a' ha' => by cases ha'; have := (oy.own.lt ha).1; omega
    have ht := oy4.tail (i := told.toNat) (by omega)
    rw [toN_def]
    refine s_ret ⟨rfl, f4, (_, ()), rfl, rs1, v, hh, ⟨?_, r3.al.keep fun a ha => u4.2.1 _ (r3.al.own.lt ha).2 fun a' ha' => by cases ha'; exact fun e => r3.ne a ha e.symm, r3.ne⟩, b1, ht, fun a ha => ?_⟩
    · have : i64v (natI y.len) = i64v ((dec enc ((all ++ x).take ((all ++ x).length - v.toNat))).length : Int) := by rw [natI_def, hyl]
      rw [this] at ob4; exact ob4
    · obtain ⟨b', hb', e⟩ := cutBase_block ha
      have := (oy.own.lt hb').1
      have := u1.1; have := e2.1
      omega

theorem c_ref_Close (he : known enc) (r : RStr n h q enc rs all told) (hl : all.length ≤ 1099511627776) (h0 : 0 ≤ told) (hle : told ≤ ((dec enc all).length : Int)) :
    GivesF (fun i => i = q.block) P (F_ref_Stream_Close S (some q)) [.one .sl] h fun y h' => RStr n h' q enc ⟨none, 0, 0⟩ [] 0 ∧ Lst .i64 h' y.1 ((dec enc all).drop told.toNat) ∧ ∀ a, y.1.base = some a → h.size ≤ a.block := by
  unfold F_ref_Stream_Close GivesF
  refine s_getF (b := .int .i64) (x := enc) r.c0 (s_getF (b := .sl) (x := rs) r.c1 ?_)
  refine wp_call (c_ref_Decode r.al.lst (by omega)) fun ⟨y, (ye : Int), w'⟩ h3 e3 hy => ?_
  obtain ⟨oy, _⟩ := DecA.known he hy
  dsimp only at oy ⊢
  have hyl := oy.len
  have r3 := r.ext e3
  have hqb : q.block < h.size := r.lt.2
  refine s_getF (b := .int .i64) (x := told) r3.c2 (s_grd (leB_ok h0 (by omega)) (s_grd rfl (s_grd rfl (s_setC' (slv ⟨none, 0, 0⟩) r3.ob (by simp) rfl fun h4 ob4 u4 => s_grd rfl (s_grd rfl (s_setC' (i64v 0) ob4 (by simp) rfl fun h5 ob5 u5 => ?_))))))
  have f5 := ((Chg.of_ext (F := fun i => i = q.block) e3).upd u4 fun a ha hl => by cases ha; rfl).upd u5 fun a ha hl => by cases ha; rfl
  have oy4 := oy.lst.blocks (h' := h4) fun a ha hl => u4.2.1 _ hl fun a' ha' => by cases ha'; have := (oy.own.lt ha).1; omega
  have oy5 := oy4.blocks (h' := h5) fun a ha hl => u5.2.1 _ hl fun a' ha' => by cases ha'; have := (oy.own.lt ha).1; omega
  have ht := oy5.tail (i := told.toNat) (by omega)
  rw [toN_def]
  refine s_ret ⟨rfl, f5, (_, ()), rfl, ⟨ob5, OwnL.nil .., fun a ha => by cases ha⟩, ht, fun a ha => ?_⟩
  obtain ⟨b', hb', e⟩ := cutBase_block ha
  have := (oy.own.lt hb').1
  omega

/-- The same memory, written over. -/
theorem c_turnedF {m : Nat} {c : Sl} {n : Nat} {L : List Int} (hc : OwnL m .u8 h c L) (hn : n ≤ L.length) (hroom : n ≤ 140737488355328) :
    GivesF (fun i => ∃ a, c.base = some a ∧ a.block = i) P (F_law1_turned S c (n : Int)) [.one .sl] h fun (x : Sl × Unit) h' => ∃ l' : List Int, l'.length = n ∧ OwnL m .u8 h' c (l' ++ L.drop n) ∧ OwnL h.size .u8 h' x.1 l' := by
  have hlen := hc.len
  have hcap := hc.own.2.1
  have hmax := hc.own.2.2.1
  unfold F_law1_turned GivesF
  refine wp_while (fun (s : Int × Unit) h' => Chg (fun i => ∃ a, c.base = some a ∧ a.block = i) h h' ∧ 0 ≤ s.1 ∧ s.1 ≤ n ∧ ∃ l' : List Int, l'.length = n ∧ OwnL m .u8 h' c (l' ++ L.drop n)) (fun s _ => n - s.1.toNat)
    (fun t vs h' => t = 2 ∧ vs = [] ∧ Chg (fun i => ∃ a, c.base = some a ∧ a.block = i) h h' ∧ ∃ l' : List Int, l'.length = n ∧ OwnL m .u8 h' c (l' ++ L.drop n)) ⟨Chg.refl _ _, by simp, by simp, L.take n, by simp; omega, by rw [List.take_append_drop]; exact hc⟩ ?_ ?_
  · rintro ⟨(i : Int), u⟩ h' ⟨k, h0, h1, l', hl', ho⟩
    dsimp only at h0 h1 ⊢
    refine wp_ifB (fun hc => ?_) fun hc => ?_
    · rw [ltI_iff] at hc
      have hlt : (i : Int) < (l' ++ L.drop n).length := by rw [List.length_append]; omega
      refine s_at ho.lst h0 hlt fun _ => s_not (s_set ho h0 hlt (range_u8 _) fun h2 o2 u2 z2 => ?_)
      rw [add_ok (by omega) (by omega)]
      refine s_ret ⟨fun _ => ⟨(i + 1, ()), rfl, ⟨k.upd u2 fun a ha _ => ⟨a, ha, rfl⟩, by dsimp only; omega, by dsimp only; omega, ?_⟩, by dsimp only; omega⟩, fun h => absurd rfl h⟩
      rw [List.set_append_left i.toNat _ (by omega)] at o2
      exact ⟨_, by simpa using hl', o2⟩
    · exact s_ret ⟨fun h => absurd h (by decide), fun _ => ⟨rfl, rfl, k, l', hl', ho⟩⟩
  · rintro t vs h' ⟨ht, hv, k, l', hl', ho⟩
    refine s_exit ht () hv (s_grd (leB_ok (by omega) (by omega)) ?_)
    simp only [cutBase_zero, subZero, toN_def, Int.toNat_natCast]
    have hl := ho.lst.take (n := n) (m := c.cap) (by rw [List.length_append]; omega) (by omega) (by omega)
    rw [List.take_left' hl'] at hl
    refine wp_call (c_copyBytes hl (by omega)) fun y h2 e2 hy => s_ret ⟨rfl, k.ext e2, (_, ()), rfl, l', hl', ho.ext e2, OwnL.mono hy k.1⟩
end Go.Sw.Codec
