/-
  The laws of chapter 5: good: what is produced meanwhile.
-/
import Derived.Test.YtjhnjehmbgaciaaSwG4
import Derived.Test.YtjhnjehmbgaciaaSwCD
set_option linter.unusedVariables false
set_option linter.unusedSimpArgs false
set_option maxRecDepth 100000
namespace Go.Sw.Piece
open Go.Sw.Any Go.Sw.Codec
open Go.Sw.Tree (iv s_putAll s_newP s_getP s_getT s_putP eqI_self Placed cell_own cell_upd1 wp_whileG minI_eq)
variable {P : Program} {S : Ids} {h : Heap} {Q : Nat → List Value → Heap → Prop}

/-! ### Two lists that grow side by side -/
structure GI (F : Nat → Prop) (hz : Heap) (n a3 : Nat) (h : Heap) (sA sT : Sl) (LA LT : List Int) : Prop where
  held : Held F hz h
  fz : ∀ i, F i → i < hz.size ∧ i ≠ a3 ∧ (∀ a, sA.base = some a → a.block ≠ i) ∧ ∀ a, sT.base = some a → a.block ≠ i
  o3 : Own 0 1 h ⟨some (at0 a3), 3, 3⟩ [slv sA, slv sT, .slice none 0 0]
  la : OwnL n .i64 h sA LA
  lt : OwnL n .i64 h sT LT
  ne : ∀ a b, sA.base = some a → sT.base = some b → a.block ≠ b.block
  an : a3 < n
  nh : n ≤ h.size
variable {F : Nat → Prop} {hz : Heap} {n a3 : Nat} {sA sT : Sl} {LA LT : List Int}
theorem GI.ext {h' : Heap} (g : GI F hz n a3 h sA sT LA LT) (e : Ext h h') : GI F hz n a3 h' sA sT LA LT :=
  ⟨g.held.trans (Held.of_ext e), g.fz, g.o3.ext e, g.la.ext e, g.lt.ext e, g.ne, g.an, Nat.le_trans g.nh e.size⟩
end Go.Sw.Piece

set_option linter.unusedVariables false
set_option linter.unusedSimpArgs false
set_option maxRecDepth 100000
namespace Go.Sw.Piece
open Go.Sw.Any Go.Sw.Codec
open Go.Sw.Tree (iv s_putAll s_newP s_getP s_getT s_putP eqI_self Placed cell_own cell_upd1 wp_whileG minI_eq)
variable {P : Program} {S : Ids} {h : Heap} {Q : Nat → List Value → Heap → Prop}
variable {F : Nat → Prop} {hz : Heap} {n a3 : Nat} {sA sT : Sl} {LA LT : List Int}

abbrev SE := Sl × Sl × Sl × Unit
/-- Three lists that show these atoms, tags and bytes. -/
structure ShowR (m : Nat) (h : Heap) (enc : Int) (q : SE) (E : List El) : Prop where
  a : OwnL m .i64 h q.1 (E.map (·.1))
  t : OwnL m .i64 h q.2.1 (E.map (·.2))
  b : OwnL m .u8 h q.2.2.1 ((E.map (·.1)).flatMap (putF enc))
theorem ShowR.ext {m : Nat} {h' : Heap} {enc : Int} {q : SE} {E : List El} (s : ShowR m h enc q E) (e : Ext h h') : ShowR m h' enc q E := ⟨s.a.ext e, s.t.ext e, s.b.ext e⟩
theorem ShowR.chg {G : Nat → Prop} {m : Nat} {h' : Heap} {enc : Int} {q : SE} {E : List El} (s : ShowR m h enc q E) (c : Chg G h h') (hG : ∀ i, m ≤ i → i < h.size → ¬ G i ∨ (∀ a, q.1.base = some a → a.block ≠ i) ∧ (∀ a, q.2.1.base = some a → a.block ≠ i) ∧ ∀ a, q.2.2.1.base = some a → a.block ≠ i) : ShowR m h' enc q E :=
  ⟨c.ownL s.a fun x hx g => (hG _ (s.a.own.lt hx).1 (s.a.own.lt hx).2).elim (fun h => h g) fun h => h.1 x hx rfl,
   c.ownL s.t fun x hx g => (hG _ (s.t.own.lt hx).1 (s.t.own.lt hx).2).elim (fun h => h g) fun h => h.2.1 x hx rfl,
   c.ownL s.b fun x hx g => (hG _ (s.b.own.lt hx).1 (s.b.own.lt hx).2).elim (fun h => h g) fun h => h.2.2 x hx rfl⟩
/-- The blocks of its lists. -/
def inS (q : SE) (i : Nat) : Prop := (∃ a, q.1.base = some a ∧ a.block = i) ∨ (∃ a, q.2.1.base = some a ∧ a.block = i) ∨ ∃ a, q.2.2.1.base = some a ∧ a.block = i
theorem ShowR.in {m i : Nat} {enc : Int} {q : SE} {E : List El} (s : ShowR m h enc q E) (hi : inS q i) : m ≤ i ∧ i < h.size := by
  rcases hi with ⟨a, ha, rfl⟩ | ⟨a, ha, rfl⟩ | ⟨a, ha, rfl⟩
  · exact s.a.own.lt ha
  · exact s.t.own.lt ha
  · exact s.b.own.lt ha

end Go.Sw.Piece

set_option linter.unusedVariables false
set_option linter.unusedSimpArgs false
set_option maxRecDepth 100000
namespace Go.Sw.Piece
open Go.Sw.Any Go.Sw.Codec
open Go.Sw.Tree (iv s_putAll s_newP s_getP s_getT s_putP eqI_self Placed cell_own cell_upd1 wp_whileG minI_eq)
variable {P : Program} {S : Ids} {h : Heap} {Q : Nat → List Value → Heap → Prop}

end Go.Sw.Piece

set_option linter.unusedVariables false
set_option linter.unusedSimpArgs false
set_option maxRecDepth 100000
namespace Go.Sw.Piece
open Go.Sw.Any Go.Sw.Codec
open Go.Sw.Tree (iv s_putAll s_newP s_getP s_getT s_putP eqI_self Placed cell_own cell_upd1 wp_whileG minI_eq)
variable {P : Program} {S : Ids} {h : Heap} {Q : Nat → List Value → Heap → Prop}

/-! ### Two lists of an object that grow side by side -/
structure RI (h0 : Heap) (n a : Nat) (enc limit : Int) (h : Heap) (sA sT : Sl) (LA LT : List Int) : Prop where
  k : Ext h0 h
  o : Own h0.size 1 h ⟨some (at0 a), 5, 5⟩ [i64v enc, i64v limit, slv sA, slv sT, .slice none 0 0]
  la : OwnL n .i64 h sA LA
  lt : OwnL n .i64 h sT LT
  ne : ∀ a b, sA.base = some a → sT.base = some b → a.block ≠ b.block
  an : a < n
  nh : n ≤ h.size
variable {h0 : Heap} {n a : Nat} {enc limit : Int} {sA sT : Sl} {LA LT : List Int}
theorem RI.ext {h' : Heap} (g : RI h0 n a enc limit h sA sT LA LT) (e : Ext h h') : RI h0 n a enc limit h' sA sT LA LT :=
  ⟨g.k.trans e, g.o.ext e, g.la.ext e, g.lt.ext e, g.ne, g.an, Nat.le_trans g.nh e.size⟩
theorem s_rA {x : Sl} {m : List Int} {K : Prog} (g : RI h0 n a enc limit h sA sT LA LT) (hx : Lst .i64 h x m) (hl : LA.length + m.length ≤ 1099511627776)
    (hk : ∀ h' s', RI h0 n a enc limit h' s' sT (LA ++ m) LT → wp P K h' Q) : wp P (.append 1 8 [.int .i64 0] sA x fun r => .store (shiftTo (some (at0 a)) 2) [slv r] K) h Q := by
  have bA := fun b (ha : sA.base = some b) => g.la.own.lt ha
  have bT := fun b (ha : sT.base = some b) => g.lt.own.lt ha
  have an := g.an; have nh := g.nh
  have a0 : h0.size ≤ a := (g.o.lt rfl).1
  refine s_appendE g.la g.nh hx (by omega) (by omega) fun r h1 k1 o1 u1 b1 _ => ?_
  have o3 := g.o.keep fun b hb => by cases hb; exact k1.2.1 _ an
  refine s_setC' (slv r) o3 (by simp) rfl fun h2 o2 u2 => ?_
  have r1 : ∀ b, r.base = some b → n ≤ b.block ∧ ((∃ c, sA.base = some c ∧ c.block = b.block) ∨ h.size ≤ b.block) := fun b hb => ⟨(o1.own.lt hb).1, (b1 b hb).imp (fun h => ⟨b, h, rfl⟩) id⟩
  have c12 : Chg (fun i => i = a ∨ ∃ b, sA.base = some b ∧ b.block = i) h h2 := ((Chg.of_upd (F := fun i => ∃ b, sA.base = some b ∧ b.block = i) u1 fun y hy _ => ⟨y, hy, rfl⟩).mono fun i _ x => .inr x).trans ((upd_chg u2).mono fun i _ (x : i = a) => .inl x) fun i _ x => x
  refine hk h2 r ⟨Keep.trans g.k (c12.keep g.k.size fun i hi f => ?_), o2, o1.upd u2 fun b c hb hc => by cases hc; have := (r1 b hb).1; show a ≠ _; omega, c12.ownL g.lt fun b hb f => ?_, fun b c hb hc => ?_, an, Nat.le_trans nh c12.1⟩
  · rcases f with f | ⟨b, hb, f⟩
    · omega
    · have := (bA b hb).1; omega
  · rcases f with f | ⟨c, hc, f⟩
    · have := (bT b hb).1; omega
    · exact g.ne c b hc hb f
  · rcases (r1 b hb).2 with ⟨d, hd, e2⟩ | hh
    · rw [← e2]; exact g.ne d c hd hc
    · have := (bT c hc).2; omega
theorem s_rT {x : Sl} {m : List Int} {K : Prog} (g : RI h0 n a enc limit h sA sT LA LT) (hx : Lst .i64 h x m) (hl : LT.length + m.length ≤ 1099511627776)
    (hk : ∀ h' s', RI h0 n a enc limit h' sA s' LA (LT ++ m) → wp P K h' Q) : wp P (.append 1 8 [.int .i64 0] sT x fun r => .store (shiftTo (some (at0 a)) 3) [slv r] K) h Q := by
  have bA := fun b (ha : sA.base = some b) => g.la.own.lt ha
  have bT := fun b (ha : sT.base = some b) => g.lt.own.lt ha
  have an := g.an; have nh := g.nh
  have a0 : h0.size ≤ a := (g.o.lt rfl).1
  refine s_appendE g.lt g.nh hx (by omega) (by omega) fun r h1 k1 o1 u1 b1 _ => ?_
  have o3 := g.o.keep fun b hb => by cases hb; exact k1.2.1 _ an
  refine s_setC' (slv r) o3 (by simp) rfl fun h2 o2 u2 => ?_
  have r1 : ∀ b, r.base = some b → n ≤ b.block ∧ ((∃ c, sT.base = some c ∧ c.block = b.block) ∨ h.size ≤ b.block) := fun b hb => ⟨(o1.own.lt hb).1, (b1 b hb).imp (fun h => ⟨b, h, rfl⟩) id⟩
  have c12 : Chg (fun i => i = a ∨ ∃ b, sT.base = some b ∧ b.block = i) h h2 := ((Chg.of_upd (F := fun i => ∃ b, sT.base = some b ∧ b.block = i) u1 fun y hy _ => ⟨y, hy, rfl⟩).mono fun i _ x => .inr x).trans ((upd_chg u2).mono fun i _ (x : i = a) => .inl x) fun i _ x => x
  refine hk h2 r ⟨Keep.trans g.k (c12.keep g.k.size fun i hi f => ?_), o2, c12.ownL g.la fun b hb f => ?_, o1.upd u2 fun b c hb hc => by cases hc; have := (r1 b hb).1; show a ≠ _; omega, fun b c hb hc => ?_, an, Nat.le_trans nh c12.1⟩
  · rcases f with f | ⟨b, hb, f⟩
    · omega
    · have := (bT b hb).1; omega
  · rcases f with f | ⟨c, hc, f⟩
    · have := (bA b hb).1; omega
    · exact g.ne b c hb hc f.symm
  · rcases (r1 c hc).2 with ⟨d, hd, e2⟩ | hh
    · rw [← e2]; exact g.ne b d hb hd
    · have := (bA b hb).2; omega

/-! ### The document's text in memory -/
structure RX where
  b : Nat
  enc : Int
  limit : Int
  sa : Sl
  st : Sl
  sk : Sl
  E : List El
  K : List (Sl × Sl × List El)
  Z : Nat → Prop
/-- Lists that show these atoms and tags. -/
def Shows (n : Nat) (h : Heap) (k : Sl × Sl × List El) : Prop := OwnL n .i64 h k.1 (k.2.2.map (·.1)) ∧ OwnL n .i64 h k.2.1 (k.2.2.map (·.2))
/-- Their blocks. -/
def inK (k : Sl × Sl × List El) (i : Nat) : Prop := (∃ a, k.1.base = some a ∧ a.block = i) ∨ ∃ a, k.2.1.base = some a ∧ a.block = i
structure RefT (n : Nat) (h : Heap) (R : RX) : Prop where
  enc : known R.enc
  lim : 0 ≤ R.limit ∧ R.limit ≤ 65536
  ob : Own n 1 h ⟨some (at0 R.b), 5, 5⟩ [i64v R.enc, i64v R.limit, slv R.sa, slv R.st, slv R.sk]
  cur : Shows n h (R.sa, R.st, R.E)
  sk : Own n 2 h R.sk (R.K.flatMap fun k => [slv k.1, slv k.2.1])
  kept : ∀ k, k ∈ R.K → Shows n h k
  zb : R.Z R.b
  zc : ∀ i, inK (R.sa, R.st, R.E) i → R.Z i ∧ i ≠ R.b ∧ ∀ a, R.sk.base = some a → a.block ≠ i
  zk : ∀ k, k ∈ R.K → ∀ i, inK k i → R.Z i ∧ i ≠ R.b ∧ ∀ a, R.sk.base = some a → a.block ≠ i
  zs : ∀ a, R.sk.base = some a → R.Z a.block ∧ a.block ≠ R.b
  lo : ∀ i, R.Z i → n ≤ i ∧ i < h.size
  fit : ∀ a, a ∈ R.E.map (·.1) → 0 < sizeF R.enc a
theorem Shows.chg {F : Nat → Prop} {h' : Heap} {k : Sl × Sl × List El} (s : Shows n h k) (c : Chg F h h') (hF : ∀ i, inK k i → ¬ F i) : Shows n h' k :=
  ⟨c.ownL s.1 fun y hy => hF _ (.inl ⟨y, hy, rfl⟩), c.ownL s.2 fun y hy => hF _ (.inr ⟨y, hy, rfl⟩)⟩
theorem RefT.chg {F : Nat → Prop} {h' : Heap} {R : RX} (r : RefT n h R) (c : Chg F h h') (hF : ∀ i, R.Z i → ¬ F i) : RefT n h' R where
  enc := r.enc
  lim := r.lim
  ob := c.own r.ob fun y hy => by cases hy; exact hF _ r.zb
  cur := r.cur.chg c fun i hi => hF _ (r.zc i hi).1
  sk := c.own r.sk fun y hy => hF _ (r.zs y hy).1
  kept := fun k hk => (r.kept k hk).chg c fun i hi => hF _ (r.zk k hk i hi).1
  zb := r.zb
  zc := r.zc
  zk := r.zk
  zs := r.zs
  lo := fun i hi => ⟨(r.lo i hi).1, Nat.lt_of_lt_of_le (r.lo i hi).2 c.1⟩
  fit := r.fit
theorem RefT.ext {h' : Heap} {R : RX} (r : RefT n h R) (e : Ext h h') : RefT n h' R := r.chg (Chg.of_ext (F := fun _ => False) e) fun _ _ x => x
theorem RefT.mono {m : Nat} {R : RX} (r : RefT n h R) (hm : m ≤ n) : RefT m h R :=
  ⟨r.enc, r.lim, r.ob.mono hm, ⟨r.cur.1.mono hm, r.cur.2.mono hm⟩, r.sk.mono hm, fun k hk => ⟨(r.kept k hk).1.mono hm, (r.kept k hk).2.mono hm⟩, r.zb, r.zc, r.zk, r.zs, fun i hi => ⟨Nat.le_trans hm (r.lo i hi).1, (r.lo i hi).2⟩, r.fit⟩

inductive ROpenR (h0 h : Heap) (enc limit : Int) (l : List Int) : Option Addr → Int → Prop where
  | enc : ¬ known enc → ROpenR h0 h enc limit l none 10
  | arg : known enc → ¬ (0 ≤ limit ∧ limit ≤ 65536) → ROpenR h0 h enc limit l none 1
  | full : known enc → 0 ≤ limit ∧ limit ≤ 65536 → limit < l.length → ROpenR h0 h enc limit l none 50
  | ok (R : RX) : known enc → 0 ≤ limit ∧ limit ≤ 65536 → l.length ≤ limit → RefT h0.size h R → R.enc = enc → R.limit = limit → R.K = [] → R.E = elsF 0 0 (toks enc l) → (∀ i, R.Z i → h0.size ≤ i) → ROpenR h0 h enc limit l (some (at0 R.b)) 0

theorem elsF_succ {ts : List (Int × Int)} {k : Nat} {t : Int × Int} (ht : ts[k]? = some t) : (elsF 0 0 ts).take (k + 1) = (elsF 0 0 ts).take k ++ [(t.1, (offs (ts.take k) : Int))] := by
  have h1 := elsF_drop 0 ts 0 k
  have hlt := (List.getElem?_eq_some_iff.1 ht).1
  have h2 : ts.drop k = t :: ts.drop (k + 1) := by
    have := (List.getElem?_eq_some_iff.1 ht).2
    rw [List.drop_eq_getElem_cons hlt, this]
  rw [h2] at h1
  have h3 : (elsF 0 0 ts)[k]? = some (t.1, (offs (ts.take k) : Int)) := by
    have h4 : ((elsF 0 0 ts).drop k)[0]? = (elsF 0 0 ts)[k]? := by rw [List.getElem?_drop]; rfl
    rw [← h4, h1]
    simp [elsF]
  rw [List.take_add_one, h3]; rfl

theorem c_refOpen {enc limit : Int} {b : Sl} {l : List Int} (hb : Lst .u8 h b l) (hl : l.length ≤ 1073741824) :
    Gives P (F_ref5_Open S enc b limit) [.one .ptr, .one (.int .i64)] h fun (y : Option Addr × Int × Unit) h' => ROpenR h h' enc limit l y.1 y.2.1 := by
  unfold F_ref5_Open Gives
  have hlb := hb.len
  have hby : isBytes l := hb.wf
  refine bind_bool (¬ known enc) ?_ fun bb h1 e1 hb1 => wp_ifB (fun hx => s_ret ⟨rfl, e1, (none, 10, ()), rfl, .enc (hb1.1 hx)⟩) fun hx => ?_
  · unfold known
    refine wp_ifB (fun hc => s_ret ⟨rfl, Ext.refl _, true, rfl, Iff.intro (fun _ => by rw [ltI_iff] at hc; omega) fun _ => rfl⟩) fun hc => s_ret ⟨rfl, Ext.refl _, _, rfl, ?_⟩
    rw [ltI_not] at hc; rw [gtI_iff]; omega
  have he : known enc := by
    by_cases h : known enc
    · exact h
    · rw [hb1.2 h] at hx; cases hx
  refine bind_bool (¬ (0 ≤ limit ∧ limit ≤ 65536)) ?_ fun bb h2 e2 hb2 => wp_ifB (fun hx => s_ret ⟨rfl, e1.trans e2, (none, 1, ()), rfl, .arg he (hb2.1 hx)⟩) fun hx2 => ?_
  · refine wp_ifB (fun hc => s_ret ⟨rfl, Ext.refl _, true, rfl, Iff.intro (fun _ => by rw [ltI_iff] at hc; omega) fun _ => rfl⟩) fun hc => s_ret ⟨rfl, Ext.refl _, _, rfl, ?_⟩
    rw [ltI_not] at hc; rw [gtI_iff]; omega
  have hli : 0 ≤ limit ∧ limit ≤ 65536 := by
    by_cases h : 0 ≤ limit ∧ limit ≤ 65536
    · exact h
    · rw [hb2.2 h] at hx2; cases hx2
  have e02 := e1.trans e2
  refine wp_ifB (fun hx => s_ret ⟨rfl, e02, (none, 50, ()), rfl, .full he hli (by rw [gtI_iff, natI_def, hlb] at hx; exact hx)⟩) fun hx => ?_
  rw [gtI_not, natI_def, hlb] at hx
  refine s_newO (bs := [.int .i64, .int .i64, .sl, .sl, .sl]) (enc, limit, ⟨none, 0, 0⟩, ⟨none, 0, 0⟩, ⟨none, 0, 0⟩, ()) (by decide) fun h3 e3 o3 => ?_
  have o3 : Own h2.size 1 h3 ⟨some (at0 h2.size), 5, 5⟩ [i64v enc, i64v limit, .slice none 0 0, .slice none 0 0, .slice none 0 0] := o3
  have q3 : h2.size < h3.size := (o3.lt rfl).2
  have tl := toks_len (enc := enc) hby
  have hof := toks_offs (enc := enc) hby
  have G0 : RI h2 h3.size h2.size enc limit h3 ⟨none, 0, 0⟩ ⟨none, 0, 0⟩ (((elsF 0 0 (toks enc l)).take 0).map (·.1)) (((elsF 0 0 (toks enc l)).take 0).map (·.2)) := ⟨e3, o3, OwnL.nil _ _ _, OwnL.nil _ _ _, fun _ _ h => (by cases h), q3, Nat.le_refl _⟩
  refine wp_whileG (G := Nat × Sl × Sl) (fun g (r : Int × Unit) h' => g.1 ≤ (toks enc l).length ∧ r.1 = offs ((toks enc l).take g.1) ∧ RI h2 h3.size h2.size enc limit h' g.2.1 g.2.2 (((elsF 0 0 (toks enc l)).take g.1).map (·.1)) (((elsF 0 0 (toks enc l)).take g.1).map (·.2))) (fun g => (toks enc l).length - g.1)
    (fun tag vs h' => tag = 2 ∧ vs = [] ∧ ∃ sA sT, RI h2 h3.size h2.size enc limit h' sA sT ((elsF 0 0 (toks enc l)).map (·.1)) ((elsF 0 0 (toks enc l)).map (·.2))) (0, ⟨none, 0, 0⟩, ⟨none, 0, 0⟩) ⟨Nat.zero_le _, rfl, G0⟩ ?_ ?_
  · rintro ⟨k, sA, sT⟩ ⟨(at_ : Int), u⟩ h4 ⟨hk, hat, g⟩
    dsimp only at hk hat g ⊢
    subst hat
    have hsp : offs (toks enc l) = offs ((toks enc l).take k) + offs ((toks enc l).drop k) := by rw [← offs_append, List.take_append_drop]
    refine wp_ifB (fun hc => ?_) fun hc => ?_
    · rw [ltI_iff, natI_def, hlb] at hc
      have hkl : k < (toks enc l).length := by
        by_cases h : k < (toks enc l).length
        · exact h
        · rw [List.drop_eq_nil_of_le (by omega), offs_nil] at hsp; omega
      obtain ⟨t, ht⟩ : ∃ t, (toks enc l)[k]? = some t := ⟨(toks enc l)[k]'hkl, List.getElem?_eq_getElem hkl⟩
      have htm := List.mem_of_getElem? ht
      have hto := toks_at (enc := enc) hby k hk
      have hdl : 0 < (l.drop (offs ((toks enc l).take k))).length := by rw [List.length_drop]; omega
      have hft : firstF enc (l.drop (offs ((toks enc l).take k))) = t := by
        have h1 := toks_cons (enc := enc) (hby.drop (offs ((toks enc l).take k))) hdl
        rw [hto.2, List.drop_eq_getElem_cons hkl, (List.getElem?_eq_some_iff.1 ht).2] at h1
        exact (List.cons.inj h1).1.symm
      have hts := toks_size (enc := enc) hby t htm
      have htf := toks_fits (enc := enc) hby t htm
      have e24 := g.k
      refine wp_call (c_ref_Next (hb.ext (e02.trans e24)) (by omega)) fun ⟨(y1 : Int), (y2 : Int), _⟩ h5 e5 hy => ?_
      have hy : y1 = t.1 ∧ y2 = t.2 := by
        rcases hy with ⟨hn, _, _⟩ | ⟨_, _, _, hy⟩
        · rcases hn with h | h | h
          · exact absurd he h
          · omega
          · omega
        · rw [Int.toNat_natCast, hft] at hy
          exact ⟨congrArg Prod.fst hy, congrArg Prod.snd hy⟩
      obtain ⟨rfl, rfl⟩ := hy
      dsimp only
      refine wp_ifB (fun hz => by rw [ltI_iff] at hz; omega) fun _ => ?_
      have g5 := g.ext e5
      have hlen : ((elsF 0 0 (toks enc l)).take k).length = k := by rw [List.length_take, elsF_len]; omega
      refine s_cell (b := .sl) sA rfl g5.o.cells rfl (s_allocL (k := .i64) [t.1] (by intro z hz; rw [List.mem_singleton.1 hz]; exact htf) (by simp) fun h6 e6 o6 => s_rA (g5.ext e6) o6.lst (by rw [List.length_map, hlen, List.length_singleton]; omega) fun h7 sA7 g7 => ?_)
      refine s_cell (b := .sl) sT rfl g7.o.cells rfl (s_allocL (k := .i64) [((offs ((toks enc l).take k) : Nat) : Int)] (by intro z hz; rw [List.mem_singleton.1 hz]; exact fits_i64.2 (by omega)) (by simp) fun h8 e8 o8 => s_rT (g7.ext e8) o8.lst (by rw [List.length_map, hlen, List.length_singleton]; omega) fun h9 sT9 g9 => ?_)
      have h1 : ((elsF 0 0 (toks enc l)).take k).map (fun y : El => y.1) ++ [t.1] = ((elsF 0 0 (toks enc l)).take (k + 1)).map fun y : El => y.1 := by rw [elsF_succ ht]; simp
      have h2 : ((elsF 0 0 (toks enc l)).take k).map (fun y : El => y.2) ++ [((offs ((toks enc l).take k) : Nat) : Int)] = ((elsF 0 0 (toks enc l)).take (k + 1)).map fun y : El => y.2 := by rw [elsF_succ ht]; simp
      rw [h1, h2] at g9
      have hoff : offs ((toks enc l).take (k + 1)) = offs ((toks enc l).take k) + t.2.toNat := by rw [List.take_add_one, ht, offs_append]; simp [offs]
      rw [add_ok (by omega) (by omega)]
      exact s_ret ⟨fun _ => ⟨(k + 1, sA7, sT9), (((offs ((toks enc l).take k) : Nat) : Int) + t.2, ()), rfl, ⟨hkl, by dsimp only; omega, g9⟩, by dsimp only; omega⟩, fun hh => absurd rfl hh⟩
    · rw [ltI_not, natI_def, hlb] at hc
      have hkl : k = (toks enc l).length := by
        by_cases h : k < (toks enc l).length
        · obtain ⟨t, ht⟩ : ∃ t, (toks enc l)[k]? = some t := ⟨(toks enc l)[k]'h, List.getElem?_eq_getElem h⟩
          have hts := toks_size (enc := enc) hby t (List.mem_of_getElem? ht)
          rw [List.drop_eq_getElem_cons h, (List.getElem?_eq_some_iff.1 ht).2, offs_cons] at hsp
          omega
        · omega
      subst hkl
      rw [List.take_of_length_le (by rw [elsF_len]; exact Nat.le_refl _)] at g
      exact s_ret ⟨fun hh => absurd hh (by decide), fun _ => ⟨rfl, rfl, sA, sT, g⟩⟩
  · rintro tag vs h4 ⟨rfl, rfl, sA, sT, g⟩
    refine s_tag (s_cast0 (s_ret ⟨rfl, e02.trans g.k, (some (at0 h2.size), 0, ()), rfl, ?_⟩))
    have q02 := e02.size
    refine ROpenR.ok ⟨h2.size, enc, limit, sA, sT, ⟨none, 0, 0⟩, elsF 0 0 (toks enc l), [], fun i => h2.size ≤ i ∧ i < h4.size⟩ he hli (by omega) ⟨he, hli, g.o.mono q02, ⟨g.la.mono (by omega), g.lt.mono (by omega)⟩, Own.nil _ _ _, fun k hk => (by cases hk), ⟨Nat.le_refl _, (g.o.lt rfl).2⟩, fun i hi => ?_, fun k hk => (by cases hk), fun a ha => (by cases ha), fun i hi => ⟨by have := hi.1; omega, hi.2⟩, ?_⟩ rfl rfl rfl rfl fun i hi => by have := hi.1; omega
    · rcases hi with ⟨y, hy, rfl⟩ | ⟨y, hy, rfl⟩
      · have := g.la.own.lt hy; exact ⟨⟨by omega, this.2⟩, by dsimp only; omega, fun a ha => (by cases ha)⟩
      · have := g.lt.own.lt hy; exact ⟨⟨by omega, this.2⟩, by dsimp only; omega, fun a ha => (by cases ha)⟩
    · intro a ha
      dsimp only at ha ⊢
      have h1 : (elsF 0 0 (toks enc l)).map (fun y : El => y.1) = (toks enc l).map (·.1) := elsF_fst ..
      rw [h1] at ha
      obtain ⟨t, ht, rfl⟩ := List.mem_map.1 ha
      exact ((toks_is he hby).1 t ht).1

theorem s_appendI {n bytes : Nat} {k : IntKind} {s x : Sl} {l m : List Int} {K : Sl → Prog} (ho : OwnL n k h s l) (hn : n ≤ h.size) (hx : Ints k h x m) (hw : ∀ y, y ∈ m → fitsI k y) (hroom : (l.length + m.length) * bytes ≤ 140737488355328) (hlen : l.length + m.length < 2 ^ 63)
    (hk : ∀ r h', Keep n h h' → OwnL n k h' r (l ++ m) → wp P (K r) h' Q) : wp P (.append 1 bytes [.int k 0] s x K) h Q := by
  have hl := ho.len
  have hm := hx.len
  refine wp_append ho.own hn hx (by intro y hy; obtain ⟨z, _, rfl⟩ := List.mem_map.1 hy; rfl) rfl (by rw [hl, hm]; exact hroom) (by rw [hl, hm]; exact hlen) fun r h' a b c d => ?_
  refine hk r h' (Upd.keep ho.own hn c) ⟨by simpa using a, fun y hy => ?_⟩
  rcases List.mem_append.1 hy with hy | hy
  · exact ho.wf y hy
  · exact hw y hy

theorem c_refSize {R : RX} (r : RefT n h R) (hl : R.E.length ≤ 1073741824) : Gives P (F_ref_Text_Size S (some (at0 R.b))) [.one (.int .i64)] h fun (y : Int × Unit) _ => y.1 = blen R.enc R.E := by
  unfold F_ref_Text_Size Gives
  have lla := r.cur.1.len
  rw [List.length_map] at lla
  dsimp only at lla
  have hfit := r.fit
  refine wp_while (fun (q : Int × Int × Unit) h' => ∃ i : Nat, i ≤ R.E.length ∧ q.2.1 = i ∧ q.1 = blen R.enc (R.E.take i) ∧ Ext h h') (fun q _ => (R.E.length - q.2.1).toNat) (fun tag vs h' => tag = 2 ∧ vs = [i64v (blen R.enc R.E)] ∧ Ext h h') ⟨0, Nat.zero_le _, rfl, rfl, Ext.refl _⟩ ?_ ?_
  · rintro ⟨(s : Int), (i' : Int), u⟩ h1 ⟨i, hi, hi', hs, e1⟩
    dsimp only at hi' hs ⊢
    subst hi'; subst hs
    have r1 := r.ext e1
    refine wp_grd rfl (wp_grd rfl (s_cell (b := .sl) R.sa rfl r1.ob.cells rfl (wp_ifB (fun hc => ?_) fun hc => ?_)))
    · rw [ltI_iff, natI_def, lla] at hc
      obtain ⟨⟨a, g⟩, hx⟩ : ∃ x, R.E[i]? = some x := ⟨R.E[i]'(by omega), List.getElem?_eq_getElem (by omega)⟩
      have hfa := hfit a (List.mem_map.2 ⟨_, List.mem_of_getElem? hx, rfl⟩)
      have hlen := putF_len hfa
      have hs4 := sizeF_le R.enc a
      have hga : (R.E.map (fun x : El => x.1)).getD ((i : Int)).toNat 0 = a := by rw [Int.toNat_natCast, List.getD_eq_getElem?_getD, List.getElem?_map, hx]; rfl
      have hb1 : blen R.enc (R.E.take (i + 1)) = blen R.enc (R.E.take i) + (putF R.enc a).length := by rw [List.take_add_one, hx, blen_append]; simp [blen]
      have hb2 : blen R.enc (R.E.take i) ≤ 4 * i := by
        have := (put_le (enc := R.enc) (l := (R.E.take i).map (·.1)) fun b hb => hfit b (by obtain ⟨y, hy, rfl⟩ := List.mem_map.1 hb; exact List.mem_map.2 ⟨y, List.mem_of_mem_take hy, rfl⟩)).2
        rw [List.length_map, List.length_take] at this
        have h2 : blen R.enc (R.E.take i) ≤ 4 * min i R.E.length := this
        omega
      refine wp_grd rfl (wp_grd rfl (s_cell (b := .int .i64) R.enc rfl r1.ob.cells rfl (wp_grd rfl (wp_grd rfl (s_cell (b := .sl) R.sa rfl r1.ob.cells rfl (s_at r1.cur.1.lst (by omega) (by rw [List.length_map]; dsimp only; omega) fun _ => ?_))))))
      rw [hga]
      refine wp_call (c_ref_Size R.enc a) fun ⟨(z : Int), _⟩ h2 e2 hz => ?_
      have hz : z = sizeF R.enc a := hz
      subst hz
      dsimp only
      rw [add_ok (by omega) (by omega), add_ok (by omega) (by omega)]
      exact s_ret ⟨fun _ => ⟨((blen R.enc (R.E.take i) : Int) + sizeF R.enc a, (i : Int) + 1, ()), rfl, ⟨i + 1, by omega, by dsimp only; omega, by dsimp only; omega, e1.trans e2⟩, by dsimp only; omega⟩, fun hh => absurd rfl hh⟩
    · rw [ltI_not, natI_def, lla] at hc
      have : i = R.E.length := by omega
      subst this
      rw [List.take_length]
      exact s_ret ⟨fun hh => absurd hh (by decide), fun _ => ⟨rfl, rfl, e1⟩⟩
  · rintro tag vs h1 ⟨rfl, rfl, e1⟩
    exact s_tag (s_castI (s_ret ⟨rfl, e1, (_, ()), rfl, rfl⟩))
theorem c_refBytes {R : RX} (r : RefT n h R) (hl : R.E.length ≤ 1073741824) : Gives P (F_ref_Text_Bytes S (some (at0 R.b))) [.one .sl] h fun (y : Sl × Unit) h' => OwnL h.size .u8 h' y.1 ((R.E.map (·.1)).flatMap (putF R.enc)) := by
  unfold F_ref_Text_Bytes Gives
  have lla := r.cur.1.len
  rw [List.length_map] at lla
  dsimp only at lla
  have hfit := r.fit
  refine wp_while (fun (q : Sl × Int × Unit) h' => ∃ i : Nat, i ≤ R.E.length ∧ q.2.1 = i ∧ OwnL h.size .u8 h' q.1 (((R.E.take i).map (·.1)).flatMap (putF R.enc)) ∧ Ext h h') (fun q _ => (R.E.length - q.2.1).toNat) (fun tag vs h' => tag = 2 ∧ ∃ s : Sl, vs = [slv s] ∧ OwnL h.size .u8 h' s ((R.E.map (·.1)).flatMap (putF R.enc)) ∧ Ext h h') ⟨0, Nat.zero_le _, rfl, OwnL.nil _ _ _, Ext.refl _⟩ ?_ ?_
  · rintro ⟨(s : Sl), (i' : Int), u⟩ h1 ⟨i, hi, hi', hs, e1⟩
    dsimp only at hi' hs ⊢
    subst hi'
    have r1 := r.ext e1
    refine wp_grd rfl (wp_grd rfl (s_cell (b := .sl) R.sa rfl r1.ob.cells rfl (wp_ifB (fun hc => ?_) fun hc => ?_)))
    · rw [ltI_iff, natI_def, lla] at hc
      obtain ⟨⟨a, g⟩, hx⟩ : ∃ x, R.E[i]? = some x := ⟨R.E[i]'(by omega), List.getElem?_eq_getElem (by omega)⟩
      have hfa := hfit a (List.mem_map.2 ⟨_, List.mem_of_getElem? hx, rfl⟩)
      have hlen := putF_len hfa
      have hs4 := sizeF_le R.enc a
      have hga : (R.E.map (fun x : El => x.1)).getD ((i : Int)).toNat 0 = a := by rw [Int.toNat_natCast, List.getD_eq_getElem?_getD, List.getElem?_map, hx]; rfl
      have hb1 : ((R.E.take (i + 1)).map (fun x : El => x.1)).flatMap (putF R.enc) = ((R.E.take i).map (fun x : El => x.1)).flatMap (putF R.enc) ++ putF R.enc a := by rw [List.take_add_one, hx]; simp
      have hb2 : (((R.E.take i).map (fun x : El => x.1)).flatMap (putF R.enc)).length ≤ 4 * i := by
        have := (put_le (enc := R.enc) (l := (R.E.take i).map (·.1)) fun b hb => hfit b (by obtain ⟨y, hy, rfl⟩ := List.mem_map.1 hb; exact List.mem_map.2 ⟨y, List.mem_of_mem_take hy, rfl⟩)).2
        rw [List.length_map, List.length_take] at this
        omega
      refine wp_grd rfl (wp_grd rfl (s_cell (b := .int .i64) R.enc rfl r1.ob.cells rfl (wp_grd rfl (wp_grd rfl (s_cell (b := .sl) R.sa rfl r1.ob.cells rfl (s_at r1.cur.1.lst (by omega) (by rw [List.length_map]; dsimp only; omega) fun _ => ?_))))))
      rw [hga]
      refine wp_call (c_ref_Put hfa) fun ⟨(z : Sl), _⟩ h2 e2 ⟨hz, _⟩ => ?_
      have hz : Ints .u8 h2 z (putF R.enc a) := hz
      dsimp only
      refine s_appendI (hs.ext e2) (by have := (e1.trans e2).size; omega) hz (bytes_put hfa) (by omega) (by omega) fun r' h3 k3 o3 => ?_
      rw [← hb1] at o3
      rw [add_ok (by omega) (by omega)]
      exact s_ret ⟨fun _ => ⟨(r', (i : Int) + 1, ()), rfl, ⟨i + 1, by omega, by dsimp only; omega, o3, Keep.trans (e1.trans e2) k3⟩, by dsimp only; omega⟩, fun hh => absurd rfl hh⟩
    · rw [ltI_not, natI_def, lla] at hc
      have : i = R.E.length := by omega
      subst this
      rw [List.take_length] at hs
      exact s_ret ⟨fun hh => absurd hh (by decide), fun _ => ⟨rfl, s, rfl, hs, e1⟩⟩
  · rintro tag vs h1 ⟨rfl, s, rfl, o, e1⟩
    exact s_tag (wp_cast (tys := [.one .sl]) (s, ()) rfl (s_ret ⟨rfl, e1, (s, ()), rfl, o⟩))
end Go.Sw.Piece

set_option linter.unusedVariables false
set_option linter.unusedSimpArgs false
set_option maxRecDepth 100000
namespace Go.Sw.Piece
open Go.Sw.Any Go.Sw.Codec
open Go.Sw.Tree (iv s_putAll s_newP s_getP s_getT s_putP eqI_self Placed cell_own cell_upd1 wp_whileG minI_eq)
variable {P : Program} {S : Ids} {h : Heap} {Q : Nat → List Value → Heap → Prop}

/-! ### Arrays in objects -/
theorem s_arr {a : Addr} {vs : List Value} {off i m : Nat} {b : B} (z : b.den) {K : b.den → Prog} (hc : Cells h a vs) (hv : vs[off + i]? = some (b.inj z)) (hi : i < m) (hk : wp P (K z) h Q) :
    wp P (grd (andB (someB (shiftTo (some a) off)) (inB (i : Int) m)) <| .load (.one b) (shiftTo (shiftTo (some a) off) (mulN (toN (i : Int)) 1)) K) h Q := by
  refine wp_grd (andB_iff.2 ⟨rfl, inB_is.2 ⟨by omega, by omega⟩⟩) ?_
  rw [shiftTo_some, shiftTo_some, mulN_def, toN_def, Int.toNat_natCast, Nat.mul_one, add_add]
  exact wp_load1 (a.add (off + i)) z rfl (cells_iff.1 hc _ _ hv) hk
theorem s_setArr {n c d : Nat} {a : Addr} {vs : List Value} {off i m : Nat} (v : Value) {K : Prog} (o : Own n 1 h ⟨some a, c, d⟩ vs) (hv : off + i < vs.length) (hi : i < m) (hf : flat v = true)
    (hk : ∀ h', Own n 1 h' ⟨some a, c, d⟩ (vs.set (off + i) v) → Upd ⟨some a, c, d⟩ h h' → wp P K h' Q) :
    wp P (grd (andB (someB (shiftTo (some a) off)) (inB (i : Int) m)) <| .store (shiftTo (shiftTo (some a) off) (mulN (toN (i : Int)) 1)) [v] K) h Q := by
  refine wp_grd (andB_iff.2 ⟨rfl, inB_is.2 ⟨by omega, by omega⟩⟩) ?_
  rw [shiftTo_some, shiftTo_some, mulN_def, toN_def, Int.toNat_natCast, Nat.mul_one, add_add, ← shiftTo_some]
  exact s_setC' v o hv hf hk

/-! ### Bytes with marks behind them -/
def m5 (k : Nat) : Int := xorI .u8 (wrapI .u8 (k : Int)) 165
def marks5 (m room : Nat) : List Int := (List.range room).map fun j => m5 (m + j)
theorem m5_fits (k : Nat) : fitsI .u8 (m5 k) := by unfold m5 xorI; exact range_u8 _
theorem marks5_len (m k : Nat) : (marks5 m k).length = k := by simp [marks5]
theorem marks5_succ (m k : Nat) : marks5 m (k + 1) = marks5 m k ++ [m5 (m + k)] := by simp [marks5, List.range_succ]
theorem s_fillB {n b room : Nat} {s : Sl} {l : List Int} {K : Nat → List Value → Prog} (hb : Blk n h b (l.length + room)) (hs : Lst .u8 h s l) (hl : l.length + room ≤ 1099511627776)
    (hk : ∀ h', Reg n h' b ((l ++ marks5 l.length room).map (.int .u8)) → SChg (fun i => i = b) h h' → h'.size = h.size → wp P (K 4 []) h' Q) :
    wp P (.copy 1 (slb b (l.length + room)) s fun _ => .bind (.loop [.one (.int .i64)] (natI s.len, ()) fun (r : Int × Unit) =>
      ifB (ltI r.1 (natI (l.length + room))) (grd (andB (someB (some (at0 b))) (inB r.1 (l.length + room))) <| .store (shiftTo (some (at0 b)) (mulN (toN r.1) 1)) [.int .u8 (xorI .u8 (wrapI .u8 r.1) 165)] <| .ret 0 [.int .i64 (addI .i64 r.1 1)]) <| .ret 4 []) K) h Q := by
  have hsl := hs.len
  obtain ⟨vs, hvl, rv⟩ := hb.reg
  have hv2 : vs = vs.take l.length ++ vs.drop l.length := (List.take_append_drop ..).symm
  rw [hv2] at rv
  refine s_copyR rv hs (by rw [List.length_take]; omega) (by omega) fun h1 r1 c1 z1 => ?_
  refine wp_while (fun (r : Int × Unit) h' => ∃ c, c ≤ room ∧ r.1 = ((l.length + c : Nat) : Int) ∧ ∃ rest : List Value, rest.length = room - c ∧ Reg n h' b ((l ++ marks5 l.length c).map (.int .u8) ++ rest) ∧ SChg (fun i => i = b) h h' ∧ h'.size = h.size) (fun r _ => (l.length + room - r.1).toNat)
    (fun tg vs h' => tg = 4 ∧ vs = [] ∧ Reg n h' b ((l ++ marks5 l.length room).map (.int .u8)) ∧ SChg (fun i => i = b) h h' ∧ h'.size = h.size) ⟨0, Nat.zero_le _, by rw [natI_def, hsl]; rfl, vs.drop l.length, by rw [List.length_drop]; omega, by simpa [marks5] using r1, c1, z1⟩ ?_ ?_
  · rintro ⟨(r : Int), u⟩ h2 ⟨c, hc, hr, rest, hrl, rg, cg, zg⟩
    dsimp only at hr ⊢
    subst hr
    refine wp_ifB (fun hx => ?_) fun hx => ?_
    · rw [ltI_iff, natI_def] at hx
      obtain ⟨v0, rest', rfl⟩ : ∃ v0 rest', rest = v0 :: rest' := by
        cases rest with
        | nil => simp at hrl; omega
        | cons v r => exact ⟨v, r, rfl⟩
      refine wp_grd (andB_iff.2 ⟨rfl, inB_is.2 ⟨by omega, by omega⟩⟩) ?_
      rw [shiftTo_some, mulN_def, toN_def, Nat.mul_one, add_mk, Nat.zero_add, Int.toNat_natCast]
      have rg' : Reg n h2 b ((l ++ marks5 l.length c).map (.int .u8) ++ [v0] ++ rest') := by simpa using rg
      refine s_putR [.int .u8 (m5 (l.length + c))] rg' (by simp [marks5_len]) rfl (by intro v hv; rw [List.mem_singleton.1 hv]; rfl) fun h3 r3 c3 z3 => ?_
      rw [add_ok (by omega) (by omega)]
      refine s_ret ⟨fun _ => ⟨(_, ()), rfl, ⟨c + 1, by omega, by dsimp only; omega, rest', by simp at hrl; omega, ?_, cg.trans c3 fun _ _ x => x, by omega⟩, by dsimp only; omega⟩, fun hh => absurd rfl hh⟩
      rw [marks5_succ, ← List.append_assoc, List.map_append]
      exact r3
    · rw [ltI_not, natI_def] at hx
      have : c = room := by omega
      subst this
      exact s_ret ⟨fun hh => absurd hh (by decide), fun _ => ⟨rfl, rfl, rg.pre, cg, zg⟩⟩
  · rintro tg vs h2 ⟨rfl, rfl, r2, c2, z2⟩
    exact hk h2 r2 c2 z2

/-! ### A text and the document's text -/
structure PairR (S : Ids) (n : Nat) (h : Heap) (T : TX) (R : RX) : Prop where
  t : TextR S n h T
  r : RefT n h R
  enc : R.enc = T.enc
  limit : R.limit = T.limit
  E : R.E = els T.enc T.cur.ps
  sm : (bytesL T.cur.ps).length ≤ T.limit
  far : ∀ i, T.Z i → ¬ R.Z i
def PairO (S : Ids) (n : Nat) (h : Heap) : Option TX → Option RX → Prop
  | none, none => True
  | some T, some R => PairR S n h T R
  | _, _ => False
def tP (t : Option TX) : Option Addr := t.map (·.p)
def rP (r : Option RX) : Option Addr := r.map fun r => at0 r.b
def pZ (t : Option TX) (r : Option RX) (i : Nat) : Prop := (∃ T, t = some T ∧ T.Z i) ∨ ∃ R, r = some R ∧ R.Z i
/-- Nothing was kept yet. -/
def Young (t : Option TX) (r : Option RX) : Prop := (∀ T, t = some T → T.kept = [] ∧ T.A = []) ∧ ∀ R, r = some R → R.K = []
theorem PairO.chg {n : Nat} {F : Nat → Prop} {h' : Heap} {t : Option TX} {r : Option RX} (o : PairO S n h t r) (c : Chg F h h') (hF : ∀ i, pZ t r i → ¬ F i) : PairO S n h' t r := by
  cases t with
  | none => cases r with
    | none => trivial
    | some R => exact o
  | some T => cases r with
    | none => exact o
    | some R => exact ⟨o.t.chg c fun i hi => hF i (.inl ⟨T, rfl, hi⟩), o.r.chg c fun i hi => hF i (.inr ⟨R, rfl, hi⟩), o.enc, o.limit, o.E, o.sm, o.far⟩
theorem PairO.ext {n : Nat} {h' : Heap} {t : Option TX} {r : Option RX} (o : PairO S n h t r) (e : Ext h h') : PairO S n h' t r := o.chg (Chg.of_ext (F := fun _ => False) e) fun _ _ f => f
theorem PairO.in {n i : Nat} {t : Option TX} {r : Option RX} (o : PairO S n h t r) (hi : pZ t r i) : n ≤ i ∧ i < h.size := by
  cases t with
  | none => cases r with
    | none => rcases hi with ⟨T, hT, _⟩ | ⟨R, hR, _⟩
              · cases hT
              · cases hR
    | some R => exact o.elim
  | some T => cases r with
    | none => exact o.elim
    | some R =>
      rcases hi with ⟨T', hT, hz⟩ | ⟨R', hR, hz⟩
      · cases hT; exact o.t.lo i hz
      · cases hR; exact o.r.lo i hz
theorem TextR.mono {m n : Nat} {T : TX} (t : TextR S n h T) (hm : m ≤ n) : TextR S m h T :=
  ⟨t.enc, t.lim, t.ob.mono hm, t.ad.mono hm, t.adp, t.adk, t.cur, t.kept, t.zp, t.za, fun i hi => ⟨Nat.le_trans hm (t.lo i hi).1, (t.lo i hi).2⟩⟩
theorem open_join {n : Nat} {ha hb hc : Heap} {enc limit er er' : Int} {l : List Int} {p p' : Option Addr} (hn : n ≤ ha.size) (ea : Ext ha hb) (hT : OpenR S ha hb enc limit l p er) (hR : ROpenR hb hc enc limit l p' er') (e : Ext hb hc) :
    er = er' ∧ ∃ t r, p = tP t ∧ p' = rP r ∧ PairO S n hc t r ∧ (∀ i, pZ t r i → ha.size ≤ i) ∧ Young t r := by
  have yn : Young none none := ⟨fun T h => (by cases h), fun R h => (by cases h)⟩
  have zn : ∀ i, pZ none none i → ha.size ≤ i := fun i hi => by
    rcases hi with ⟨T, hT, _⟩ | ⟨R, hR, _⟩
    · cases hT
    · cases hR
  cases hT with
  | enc h => cases hR with
    | enc _ => exact ⟨rfl, none, none, rfl, rfl, trivial, zn, yn⟩
    | arg h2 => exact absurd h2 h
    | full h2 => exact absurd h2 h
    | ok R h2 => exact absurd h2 h
  | arg h h1 => cases hR with
    | enc h2 => exact absurd h h2
    | arg _ _ => exact ⟨rfl, none, none, rfl, rfl, trivial, zn, yn⟩
    | full _ h2 => exact absurd h2 h1
    | ok R _ h2 => exact absurd h2 h1
  | full h h1 h3 => cases hR with
    | enc h2 => exact absurd h h2
    | arg _ h2 => exact absurd h1 h2
    | full _ _ _ => exact ⟨rfl, none, none, rfl, rfl, trivial, zn, yn⟩
    | ok R _ _ h2 => omega
  | ok T h h1 h3 t he hl hk hA hE hby hz => cases hR with
    | enc h2 => exact absurd h h2
    | arg _ h2 => exact absurd h1 h2
    | full _ _ h2 => omega
    | ok R _ _ _ r he' hl' hk' hE' hz' =>
      refine ⟨rfl, some T, some R, rfl, rfl, ⟨(t.ext e).mono hn, r.mono (by have := ea.size; omega), by rw [he', he], by rw [hl', hl], ?_, by rw [hby, hl]; omega, fun i h1 h2 => ?_⟩, fun i hi => ?_, ⟨fun T' h => by cases h; exact ⟨hk, hA⟩, fun R' h => by cases h; exact hk'⟩⟩
      · rw [hE', he]; exact hE.symm
      · have := (t.lo i h1).2; have := hz' i h2; omega
      · rcases hi with ⟨T', hT, hz2⟩ | ⟨R', hR, hz2⟩
        · cases hT; exact hz i hz2
        · cases hR; have := hz' i hz2; have := ea.size; omega
theorem none_eq {n : Nat} {t : Option TX} {r : Option RX} (o : PairO S n h t r) : eqB (noneB (tP t)) (noneB (rP r)) = true := by
  cases t with
  | none => cases r with
    | none => rfl
    | some R => exact o.elim
  | some T => cases r with
    | none => exact o.elim
    | some R => rfl

abbrev BT := Int × Int × Int × Int × Sl × Sl × Sl × Unit
abbrev wCells (t0 t1 : Option TX) (r0 r1 : Option RX) (rest : List Value) : List Value := [.pointer (tP t0), .pointer (tP t1), .pointer (rP r0), .pointer (rP r1)] ++ rest

theorem c_begin (M : Meth0 P S) {en li : Nat → Int} {bs : Nat → Sl} {ls : Nat → List Int} {steps : Sl} {m wb : Nat} {rest : List Value} (o : Own m 1 h ⟨some (at0 wb), 8, 8⟩ (wCells none none none none rest)) (hrest : rest.length = 4)
    (hb : ∀ i, i < 2 → Lst .u8 h (bs i) (ls i) ∧ (ls i).length ≤ 1073741824) (hnb : ∀ i, i < 2 → ∀ a, (bs i).base = some a → a.block ≠ wb ∨ ls i = []) :
    wp P (F_world_begin S (some (at0 wb)) (en 0, en 1, li 0, li 1, bs 0, bs 1, steps, ())) h fun tag vs h' => tag = 0 ∧ vs = [.bool true] ∧ Chg (fun i => i = wb) h h' ∧ ∃ t0 t1 r0 r1, Own m 1 h' ⟨some (at0 wb), 8, 8⟩ (wCells t0 t1 r0 r1 rest) ∧
      PairO S h.size h' t0 r0 ∧ PairO S h.size h' t1 r1 ∧ (∀ i, pZ t0 r0 i → ¬ pZ t1 r1 i) ∧ Young t0 r0 ∧ Young t1 r1 := by
  unfold F_world_begin
  have wlt : wb < h.size := (o.lt rfl).2
  refine s_newO (bs := [.int .i64, .int .i64, .int .i64, .int .i64, .sl, .sl, .sl]) (en 0, en 1, li 0, li 1, bs 0, bs 1, steps, ()) (by decide) fun h1 e1 o1 => ?_
  have q1 : h.size < h1.size := (o1.lt rfl).2
  let vs7 : List Value := Bs.inj [.int .i64, .int .i64, .int .i64, .int .i64, .sl, .sl, .sl] ((en 0, en 1, li 0, li 1, bs 0, bs 1, steps, ()) : BT)
  have v0 : ∀ i, i < 2 → vs7[0 + i]? = some (B.inj (.int .i64) (en i)) := fun i hi => by
    rcases (by omega : i = 0 ∨ i = 1) with rfl | rfl <;> rfl
  have v2 : ∀ i, i < 2 → vs7[2 + i]? = some (B.inj (.int .i64) (li i)) := fun i hi => by
    rcases (by omega : i = 0 ∨ i = 1) with rfl | rfl <;> rfl
  have v4 : ∀ i, i < 2 → vs7[4 + i]? = some (B.inj .sl (bs i)) := fun i hi => by
    rcases (by omega : i = 0 ∨ i = 1) with rfl | rfl <;> rfl
  let W : Nat → Prop := fun i => i = wb
  refine wp_whileG (G := Nat × Option TX × Option TX × Option RX × Option RX) (fun g (r : Int × Unit) h' => r.1 = g.1 ∧ g.1 ≤ 2 ∧ Chg W h1 h' ∧ Own m 1 h' ⟨some (at0 wb), 8, 8⟩ (wCells g.2.1 g.2.2.1 g.2.2.2.1 g.2.2.2.2 rest) ∧ PairO S h.size h' g.2.1 g.2.2.2.1 ∧ PairO S h.size h' g.2.2.1 g.2.2.2.2 ∧
      (∀ i, pZ g.2.1 g.2.2.2.1 i → ¬ pZ g.2.2.1 g.2.2.2.2 i) ∧ Young g.2.1 g.2.2.2.1 ∧ Young g.2.2.1 g.2.2.2.2 ∧ (g.1 ≤ 1 → g.2.2.1 = none ∧ g.2.2.2.2 = none)) (fun g => 2 - g.1)
    (fun tag vs h' => tag = 2 ∧ vs = [] ∧ Chg W h1 h' ∧ ∃ t0 t1 r0 r1, Own m 1 h' ⟨some (at0 wb), 8, 8⟩ (wCells t0 t1 r0 r1 rest) ∧ PairO S h.size h' t0 r0 ∧ PairO S h.size h' t1 r1 ∧ (∀ i, pZ t0 r0 i → ¬ pZ t1 r1 i) ∧ Young t0 r0 ∧ Young t1 r1)
    (0, none, none, none, none) ⟨rfl, Nat.zero_le _, Chg.refl _ _, o.ext e1, trivial, trivial, fun i _ h => ?_, ⟨fun T h => (by cases h), fun R h => (by cases h)⟩, ⟨fun T h => (by cases h), fun R h => (by cases h)⟩, fun _ => ⟨rfl, rfl⟩⟩ ?_ ?_
  · rcases h with ⟨T, hT, _⟩ | ⟨R, hR, _⟩
    · cases hT
    · cases hR
  · rintro ⟨i, t0, t1, r0, r1⟩ ⟨(r : Int), u⟩ h2 ⟨hr, hi, c2, o2, pa, pb, far, ya, yb, hno⟩
    dsimp only at hr hi c2 o2 pa pb far ya yb hno ⊢
    subst hr
    have q2 := c2.1
    refine wp_ifB (fun hc => ?_) fun hc => s_ret ⟨fun hh => absurd hh (by decide), fun _ => ⟨rfl, rfl, c2, t0, t1, r0, r1, o2, pa, pb, far, ya, yb⟩⟩
    rw [ltI_iff] at hc
    have hi2 : i < 2 := by omega
    obtain ⟨hbi, hbl⟩ := hb i hi2
    have hll := hbi.len
    -- what was handed in is there
    have cin : ∀ {h'}, Chg W h1 h' → Cells h' ⟨h.size, 0, none⟩ vs7 := fun c => (c.own o1 fun y hy f => by cases hy; have f : h.size = wb := f; omega).cells
    have lin : ∀ {h'}, Chg W h1 h' → Lst .u8 h' (bs i) (ls i) := fun c => c.lst0 (hbi.ext e1) fun hne y hy f => (hnb i hi2 y hy).elim (fun h => h f) hne
    refine s_arr (b := .sl) (bs i) (cin c2) (v4 i hi2) hi2 ?_
    have hadd : addI .i64 (natI (bs i).len) 100 = (((ls i).length + 100 : Nat) : Int) := by rw [natI_def, hll, add_ok (by omega) (by omega)]; omega
    rw [hadd]
    refine s_mkB (size := 1) rfl (by omega) (by omega) fun h3 e3 bl3 _ => ?_
    have c3 := c2.ext e3
    rw [Nat.mul_one] at bl3
    have q3 : h2.size < h3.size := bl3.lt
    refine s_arr (b := .sl) (bs i) (cin c3) (v4 i hi2) hi2 ?_
    refine s_fillB (room := 100) bl3 (lin c3) (by omega) fun h4 rg4 sc4 z4 => ?_
    have c4 : Chg W h1 h4 := c3.trans sc4.1 fun j hj f => by omega
    generalize hwh : h2.size = wh at *
    have hlen : (ls i ++ marks5 (ls i).length 100).length = (ls i).length + 100 := by rw [List.length_append, marks5_len]
    have lw : ∀ {h' : Heap}, Reg wh h' wh ((ls i ++ marks5 (ls i).length 100).map (.int .u8)) → Lst .u8 h' (slb wh ((ls i).length + 100)) (ls i ++ marks5 (ls i).length 100) := fun {h'} rg => by
      have hr : Reg wh h' wh ((ls i ++ marks5 (ls i).length 100).map (.int .u8) ++ []) := by rw [List.append_nil]; exact rg
      have := hr.lst (c := (ls i).length + 100) (by
        intro y hy
        rcases List.mem_append.1 hy with hy | hy
        · exact hbi.wf y hy
        · unfold marks5 at hy
          obtain ⟨j, hj, rfl⟩ := List.mem_map.1 hy
          exact m5_fits _) (by omega) (by omega)
      rw [hlen] at this; exact this
    have lb : ∀ {h' : Heap}, Reg wh h' wh ((ls i ++ marks5 (ls i).length 100).map (.int .u8)) → Lst .u8 h' ⟨some (at0 wh), subN (ls i).length 0, subN ((ls i).length + 100) 0⟩ (ls i) := fun {h'} rg => by
      have := (lw rg).take (n := (ls i).length) (m := (ls i).length + 100) (by simp) (by omega) (by omega)
      rw [List.take_left' rfl] at this; exact this
    refine s_tag (s_cast0 (wp_grd (leB_ok (by rw [natI_def]; omega) (by rw [natI_def, hll]; show (((ls i).length : Nat) : Int) ≤ (((ls i).length + 100 : Nat) : Int); omega)) ?_))
    refine s_arr (b := .int .i64) (en i) (cin c4) (v0 i hi2) hi2 (s_arr (b := .int .i64) (li i) (cin c4) (v2 i hi2) hi2 ?_)
    rw [cutBase_zero, natI_def, toN_def, Int.toNat_natCast, hll]
    refine wp_call (c_Open M (enc := en i) (limit := li i) (lb rg4)) fun ⟨(p : Option Addr), (er : Int), _⟩ h5 e5 hT => ?_
    have hT : OpenR S h4 h5 (en i) (li i) (ls i) p er := hT
    have c5 := c4.ext e5
    refine s_arr (b := .int .i64) (en i) (cin c5) (v0 i hi2) hi2 (s_arr (b := .sl) (bs i) (cin c5) (v4 i hi2) hi2 (s_arr (b := .int .i64) (li i) (cin c5) (v2 i hi2) hi2 ?_))
    refine wp_call (c_refOpen (enc := en i) (limit := li i) (lin c5) hbl) fun ⟨(p' : Option Addr), (er' : Int), _⟩ h6 e6 hR => ?_
    have hR : ROpenR h5 h6 (en i) (li i) (ls i) p' er' := hR
    have c6 := c5.ext e6
    obtain ⟨hee, t, r, rfl, rfl, pn, zn, yn⟩ := open_join (n := h.size) (by omega) e5 hT hR e6
    subst hee
    have e46 := e5.trans e6
    have rg6 := rg4.ext e46
    refine bind_bool False ?_ fun bb h7 e7 hb7 => wp_ifB (fun hx => (hb7.1 hx).elim) fun _ => ?_
    · refine s_neF rfl ?_
      rw [none_eq pn]
      refine s_ifF (s_arr (b := .sl) (bs i) (cin c6) (v4 i hi2) hi2 (wp_call (c_same5B (lb rg6) (lin c6)) fun ⟨(bb : Bool), _⟩ h7 e7 hb7 => s_ret ⟨rfl, e7, _, rfl, ?_⟩))
      have hb7 : bb = decide (ls i = ls i) := hb7
      rw [hb7, decide_eq_true rfl]
      exact Iff.intro (fun h => by cases h) False.elim
    have c7 := c6.ext e7
    have rg7 := rg6.ext e7
    have q47 := (e46.trans e7).size
    refine wp_while (fun (q : Int × Unit) h' => ∃ c, c ≤ 100 ∧ q.1 = (((ls i).length + c : Nat) : Int) ∧ h' = h7) (fun q _ => ((ls i).length + 100 - q.1).toNat) (fun tag vs h' => tag = 6 ∧ vs = [] ∧ h' = h7) ⟨0, Nat.zero_le _, rfl, rfl⟩ ?_ ?_
    · rintro ⟨(q : Int), u⟩ h8 ⟨c, hc, hq, rfl⟩
      dsimp only at hq ⊢
      subst hq
      refine wp_ifB (fun hx => ?_) fun hx => s_ret ⟨fun hh => absurd hh (by decide), fun _ => ⟨rfl, rfl, rfl⟩⟩
      rw [ltI_iff, natI_def] at hx
      refine s_at (s := slb wh ((ls i).length + 100)) (lw rg7) (by omega) (by rw [hlen]; omega) fun _ => ?_
      have hv : (ls i ++ marks5 (ls i).length 100).getD (((ls i).length + c : Nat) : Int).toNat 0 = xorI .u8 (wrapI .u8 (((ls i).length + c : Nat) : Int)) 165 := by
        rw [Int.toNat_natCast, List.getD_eq_getElem?_getD, List.getElem?_append_right (by omega), Nat.add_sub_cancel_left]
        unfold marks5
        rw [List.getElem?_map, List.getElem?_range (by omega)]; rfl
      refine s_neF hv ?_
      rw [add_ok (by omega) (by omega)]
      exact s_ret ⟨fun _ => ⟨((((ls i).length + c : Nat) : Int) + 1, ()), rfl, ⟨c + 1, by omega, by dsimp only; omega, rfl⟩, by dsimp only; omega⟩, fun hh => absurd rfl hh⟩
    rintro tag vs h8 ⟨rfl, rfl, rfl⟩
    refine s_tag (s_cast0 ?_)
    have bl8 : Blk wh h8 wh ((ls i).length + 100) := by have := rg7.blk; rw [List.length_map, hlen] at this; exact this
    refine wp_while (fun (q : Int × Unit) h' => ∃ j : Nat, j ≤ (ls i).length ∧ q.1 = j ∧ SChg (fun k => k = wh) h8 h') (fun q _ => ((ls i).length - q.1).toNat) (fun tag vs h' => tag = 8 ∧ vs = [] ∧ SChg (fun k => k = wh) h8 h') ⟨0, Nat.zero_le _, rfl, SChg.refl _ _⟩ ?_ ?_
    · rintro ⟨(q : Int), u⟩ h9 ⟨j, hj, hq, sc⟩
      dsimp only at hq ⊢
      subst hq
      refine wp_ifB (fun hx => ?_) fun hx => s_ret ⟨fun hh => absurd hh (by decide), fun _ => ⟨rfl, rfl, sc⟩⟩
      have hx : (j : Int) < ((ls i).length : Nat) := by rw [ltI_iff, natI_def] at hx; exact hx
      refine wp_grd (andB_iff.2 ⟨rfl, inB_is.2 ⟨by omega, hx⟩⟩) ?_
      rw [shiftTo_some, mulN_def, toN_def, Int.toNat_natCast, Nat.mul_one, add_mk, Nat.zero_add]
      refine s_putB [_] (bl8.schg sc) (by simp; omega) (by intro v hv; rw [List.mem_singleton.1 hv]; rfl) fun h10 _ _ _ sc10 _ => ?_
      rw [add_ok (by omega) (by omega)]
      exact s_ret ⟨fun _ => ⟨((j : Int) + 1, ()), rfl, ⟨j + 1, by omega, by dsimp only; omega, sc.trans sc10 fun k _ f => f⟩, by dsimp only; omega⟩, fun hh => absurd rfl hh⟩
    rintro tag vs h9 ⟨rfl, rfl, sc9⟩
    have c9 : Chg W h1 h9 := c7.trans sc9.1 fun j hj f => by omega
    have q89 := sc9.1.1
    -- what was there since the step began
    have c29 : Chg (fun k => k = wh) h2 h9 := ((((Chg.of_ext e3).trans sc4.1 fun k _ f => f).ext (e46.trans e7)).trans sc9.1 fun k _ f => f)
    have o9 : Own m 1 h9 ⟨some (at0 wb), 8, 8⟩ (wCells t0 t1 r0 r1 rest) := c29.own o2 fun y hy f => by cases hy; have f : wb = wh := f; have := (o2.lt rfl).2; dsimp only at this; omega
    have pa9 := pa.chg c29 fun k hk f => by have f : k = wh := f; have := (pa.in hk).2; omega
    have pb9 := pb.chg c29 fun k hk f => by have f : k = wh := f; have := (pb.in hk).2; omega
    have pn9 := (pn.ext e7).chg sc9.1 fun k hk f => by have f : k = wh := f; have := zn k hk; omega
    have hl8 : (wCells t0 t1 r0 r1 rest).length = 8 := by simp [hrest]
    refine s_tag (s_cast0 (wp_grd rfl (wp_grd rfl (s_setArr (.pointer (tP t)) o9 (by omega) hi2 rfl fun h10 o10 u10 => wp_grd rfl (wp_grd rfl (s_setArr (.pointer (rP r)) o10 (by rw [List.length_set]; omega) hi2 rfl fun h11 o11 u11 => ?_))))))
    have c911 : Chg W h9 h11 := (upd_chg u10).trans (upd_chg u11) fun _ _ f => f
    have c11 := c9.trans c911 fun _ _ f => f
    have pa11 := pa9.chg c911 fun k hk f => by have f : k = wb := f; have := (pa.in hk).1; omega
    have pb11 := pb9.chg c911 fun k hk f => by have f : k = wb := f; have := (pb.in hk).1; omega
    have pn11 := pn9.chg c911 fun k hk f => by have f : k = wb := f; have := (pn.in hk).1; omega
    rw [add_ok (by omega) (by omega)]
    have znew : ∀ k, pZ t r k → h2.size ≤ k := fun k hk => by have := zn k hk; omega
    rcases (by omega : i = 0 ∨ i = 1) with rfl | rfl
    · obtain ⟨h1n, h2n⟩ := hno (by omega)
      subst h1n; subst h2n
      refine s_ret ⟨fun _ => ⟨(1, t, none, r, none), (((0 : Nat) : Int) + 1, ()), rfl, ⟨by dsimp only; omega, by dsimp only; omega, c11, o11, pn11, trivial, fun k _ hk => ?_, yn, yb, fun _ => ⟨rfl, rfl⟩⟩, by dsimp only; omega⟩, fun hh => absurd rfl hh⟩
      rcases hk with ⟨T, hT, _⟩ | ⟨R, hR, _⟩
      · cases hT
      · cases hR
    · refine s_ret ⟨fun _ => ⟨(2, t0, t, r0, r), (((1 : Nat) : Int) + 1, ()), rfl, ⟨by dsimp only; omega, by dsimp only; omega, c11, o11, pa11, pn11, fun k hk hk2 => ?_, ya, yn, fun h => (by dsimp only at h; omega)⟩, by dsimp only; omega⟩, fun hh => absurd rfl hh⟩
      have := (pa.in hk).2; have := znew k hk2; omega
  · rintro tag vs h2 ⟨rfl, rfl, c2, t0, t1, r0, r1, o2, pa, pb, far, ya, yb⟩
    exact s_tag (s_cast0 (s_ret ⟨rfl, rfl, Chg.pre e1 c2, t0, t1, r0, r1, o2, pa, pb, far, ya, yb⟩))
end Go.Sw.Piece

set_option linter.unusedVariables false
set_option linter.unusedSimpArgs false
set_option maxRecDepth 100000
namespace Go.Sw.Piece
open Go.Sw.Any Go.Sw.Codec
open Go.Sw.Tree (iv s_putAll s_newP s_getP s_getT s_putP eqI_self Placed cell_own cell_upd1 wp_whileG minI_eq)
variable {P : Program} {S : Ids} {h : Heap} {Q : Nat → List Value → Heap → Prop}

theorem PairR.few {n : Nat} {T : TX} {R : RX} (pr : PairR S n h T R) : R.E.length ≤ 65536 := by
  have h1 := (toksL_le (enc := T.enc) pr.t.cur.bytes).1
  have h2 := pr.sm; have h3 := pr.t.lim.2
  rw [pr.E, els_len]; omega
theorem c_look (M : Meth0 P S) (C : Cl P S) {n m wb i : Nat} {T : TX} {R : RX} {vs : List Value} (pr : PairR S n h T R) (o : Own m 1 h ⟨some (at0 wb), 8, 8⟩ vs) (hi : i < 2) (hp : vs[0 + i]? = some (.pointer (some T.p))) (hr : vs[2 + i]? = some (.pointer (some (at0 R.b)))) :
    Gives P (F_world_look S (some (at0 wb)) (i : Int)) [.one .bool] h fun (y : Bool × Unit) _ => y.1 = true := by
  unfold F_world_look Gives
  have few := pr.few
  have lla := pr.r.cur.1.len
  rw [List.length_map] at lla
  dsimp only at lla
  refine wp_grd rfl (wp_grd rfl (s_arr (b := .ptr) (some T.p) o.cells hp hi (wp_grd rfl (wp_grd rfl (s_arr (b := .ptr) (some (at0 R.b)) o.cells hr hi (wp_grd rfl (wp_grd rfl (s_cell (b := .sl) R.sa rfl pr.r.ob.cells rfl ?_))))))))
  have hEl : (els T.enc T.cur.ps).length = R.E.length := by rw [pr.E]
  refine bind_bool False ?_ fun bb h1 e1 hb1 => wp_ifB (fun hx => (hb1.1 hx).elim) fun _ => ?_
  · refine wp_grd rfl (wp_grd rfl (s_cell (b := .int .i64) R.enc rfl pr.r.ob.cells rfl (wp_call (c_Enc pr.t) fun ⟨(z : Int), _⟩ h1 e1 hz => ?_)))
    have hz : z = T.enc := hz
    subst hz
    have r1 := pr.r.ext e1
    refine s_ckC (cells_iff.1 r1.ob.cells 0 _ rfl) (s_neF pr.enc.symm (wp_call (c_Len (pr.t.ext e1)) fun ⟨(z : Int), _⟩ h2 e2 hz => ?_))
    have hz : z = (els T.enc T.cur.ps).length := hz
    subst hz
    refine s_neF (by rw [natI_def, lla, hEl]) (wp_call (Piece.c_Size ((pr.t.ext e1).ext e2)) fun ⟨(z : Int), _⟩ h3 e3 hz => wp_call (c_refSize ((r1.ext e2).ext e3) (by omega)) fun ⟨(z2 : Int), _⟩ h4 e4 hz2 => s_ret ⟨rfl, ((e1.trans e2).trans e3).trans e4, _, rfl, ?_⟩)
    have hz : z = (bytesL T.cur.ps).length := hz
    have hz2 : z2 = blen R.enc R.E := hz2
    rw [neI_iff, hz, hz2, pr.enc, pr.E, blen_state pr.t.cur pr.t.enc]
    exact Iff.intro (fun h => h rfl) False.elim
  have t1 := pr.t.ext e1
  have r1 := pr.r.ext e1
  have hfit : fitsI .i64 (natI R.sa.len) := by rw [natI_def, lla]; exact fits_i64.2 (by omega)
  have hcut : cutL (els T.enc T.cur.ps) 0 (natI R.sa.len) = els T.enc T.cur.ps := by
    have := cutL_all (els T.enc T.cur.ps)
    rw [natI_def, lla, ← hEl]; exact this
  refine bind_bool True ?_ fun bb h2 e2 hb2 => s_ret ⟨rfl, e1.trans e2, (bb, ()), rfl, hb2.2 trivial⟩
  refine wp_grd rfl (wp_grd rfl (s_cell (b := .sl) R.sa rfl r1.ob.cells rfl (wp_call (c_Atoms M C (from_ := Int.ofNat 0) t1 hfit) fun ⟨(sa : Sl), _⟩ h2 e2 oa => ?_)))
  have oa : OwnL h1.size .i64 h2 sa ((cutL (els T.enc T.cur.ps) 0 (natI R.sa.len)).map (·.1)) := oa
  rw [hcut] at oa
  have t2 := t1.ext e2; have r2 := r1.ext e2
  have ra := r2.cur.1
  dsimp only at ra
  rw [pr.E] at ra
  refine s_ckC (cells_iff.1 r2.ob.cells 2 _ rfl) (wp_call (c_same5I oa.lst ra.lst) fun ⟨(b2 : Bool), _⟩ h3 e3 hb3 => ?_)
  have hb3 : b2 = decide ((els T.enc T.cur.ps).map (fun x : El => x.1) = (els T.enc T.cur.ps).map fun x : El => x.1) := hb3
  rw [decide_eq_true rfl] at hb3
  subst hb3
  have t3 := t2.ext e3; have r3 := r2.ext e3
  refine s_ifT (wp_grd rfl (wp_grd rfl (s_cell (b := .sl) R.st rfl r3.ob.cells rfl (wp_call (c_Tags M C (from_ := Int.ofNat 0) t3 hfit) fun ⟨(st : Sl), _⟩ h4 e4 ot => ?_))))
  have ot : OwnL h3.size .i64 h4 st ((cutL (els T.enc T.cur.ps) 0 (natI R.sa.len)).map (·.2)) := ot
  rw [hcut] at ot
  have t4 := t3.ext e4; have r4 := r3.ext e4
  have rt := r4.cur.2
  dsimp only at rt
  rw [pr.E] at rt
  refine s_ckC (cells_iff.1 r4.ob.cells 3 _ rfl) (wp_call (c_same5I ot.lst rt.lst) fun ⟨(b3 : Bool), _⟩ h5 e5 hb5 => ?_)
  have hb5 : b3 = decide ((els T.enc T.cur.ps).map (fun x : El => x.2) = (els T.enc T.cur.ps).map fun x : El => x.2) := hb5
  rw [decide_eq_true rfl] at hb5
  subst hb5
  have t5 := t4.ext e5; have r5 := r4.ext e5
  refine s_ifT (wp_call (c_Bytes C t5) fun ⟨(sb : Sl), _⟩ h6 e6 ob => wp_call (c_refBytes (r5.ext e6) (by omega)) fun ⟨(sc : Sl), _⟩ h7 e7 oc => ?_)
  have ob : OwnL h5.size .u8 h6 sb (bytesL T.cur.ps) := ob
  have oc : OwnL h6.size .u8 h7 sc ((R.E.map (·.1)).flatMap (putF R.enc)) := oc
  rw [(els_facts t5.cur t5.enc).1] at ob
  rw [pr.E, pr.enc] at oc
  refine wp_call (c_same5B (ob.ext e7).lst oc.lst) fun ⟨(b4 : Bool), _⟩ h8 e8 hb8 => s_ret ⟨rfl, ((((((e2.trans e3).trans e4).trans e5).trans e6).trans e7).trans e8), _, rfl, ?_⟩
  have hb8 : b4 = decide (_ = _) := hb8
  rw [decide_eq_true rfl] at hb8
  rw [hb8]
  exact Iff.intro (fun _ => trivial) fun _ => rfl

theorem c_PieceOpen (M : Meth0 P S) (C : Cl P S) {enc limit : Int} {b : Sl} {l : List Int} (hb : Lst .u8 h b l) (hl : l.length ≤ 1073741824) :
    Gives P (F_law5_PieceOpen S enc b limit) [.one .bool] h fun (y : Bool × Unit) _ => y.1 = true := by
  unfold F_law5_PieceOpen Gives
  refine wp_call (c_able M) fun ⟨(ab : Bool), _⟩ h1 e1 hab => ?_
  have hab : ab = true := hab
  subst hab
  refine s_ifF ?_
  refine s_newO (bs := [.ptr, .ptr, .ptr, .ptr, .sl, .sl, .sl, .ptr]) (none, none, none, none, ⟨none, 0, 0⟩, ⟨none, 0, 0⟩, ⟨none, 0, 0⟩, none, ()) (by decide) fun h2 e2 o2 => ?_
  have o2 : Own h1.size 1 h2 ⟨some (at0 h1.size), 8, 8⟩ (wCells none none none none [.slice none 0 0, .slice none 0 0, .slice none 0 0, .pointer none]) := o2
  have q1 := e1.size
  have hlt : ∀ a, b.base = some a → a.block ≠ h1.size ∨ l = [] := fun a ha => by
    cases l with
    | nil => exact .inr rfl
    | cons y l' =>
      obtain ⟨b', eb, cb⟩ := hb.rd.at (i := 0) (by simp)
      rw [ha] at eb; cases eb
      have := cell_lt cb
      rw [add_block] at this
      exact .inl (by omega)
  refine wp_callW (c_begin M (en := fun i => if i = 0 then enc else 1) (li := fun i => if i = 0 then limit else 0) (bs := fun i => if i = 0 then b else ⟨none, 0, 0⟩) (ls := fun i => if i = 0 then l else []) (steps := ⟨none, 0, 0⟩) o2 rfl (fun i hi => ?_) fun i hi a ha => ?_) fun tag vs h3 ⟨ht, hv, c3, t0, t1, r0, r1, o3, pa, pb, far, ya, yb⟩ => ⟨ht, (true, ()), hv, ?_⟩
  · split
    · exact ⟨hb.ext (e1.trans e2), hl⟩
    · exact ⟨Lst.nil (by decide), by simp⟩
  · split at ha
    · rename_i h0; rw [if_pos h0]; exact hlt a ha
    · cases ha
  · have k3 : Ext h h3 := Keep.trans (e1.trans e2) (c3.keep (e1.trans e2).size fun i hi f => by omega)
    refine s_ifF (bind_bool True ?_ fun bb h4 e4 hb4 => s_ret ⟨rfl, k3.trans e4, (bb, ()), rfl, hb4.2 trivial⟩)
    refine wp_grd rfl ?_
    rw [shiftTo_some, shiftTo_some, add_add]
    refine wp_load1 (b := .ptr) _ (tP t0) rfl (cells_iff.1 o3.cells 0 _ rfl) ?_
    cases t0 with
    | none => exact s_ifT (s_ret ⟨rfl, Ext.refl _, true, rfl, Iff.intro (fun _ => trivial) fun _ => rfl⟩)
    | some T => cases r0 with
      | none => exact pa.elim
      | some R =>
        refine s_ifF (wp_call (c_look M C (i := 0) pa o3 (by decide) rfl rfl) fun ⟨(bb : Bool), _⟩ h4 e4 hb4 => s_ret ⟨rfl, e4, _, rfl, ?_⟩)
        have hb4 : bb = true := hb4
        rw [hb4]
        exact Iff.intro (fun _ => trivial) fun _ => rfl
end Go.Sw.Piece
