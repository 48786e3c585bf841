/-
  The document's text: Open, Size, Bytes.
-/
import Derived.Test.YtjhnjehmbgaciaaGreatSwG1
import Derived.Test.YtjhnjehmbgaciaaGreatSwCD
set_option linter.unusedVariables false
set_option linter.unusedSimpArgs false
set_option maxRecDepth 100000
namespace Go.Sw.Piece
open Go.Sw.Any Go.Sw.Codec
open Go.Sw.Tree (iv s_putAll s_newP s_getP s_getT s_putP eqI_self Placed cell_own wp_whileG minI_eq)
variable {P : Program} {S : Ids} {h : Heap} {Q : Nat → List Value → Heap → Prop}
structure RI (h0 : Heap) (n a : Nat) (enc limit : Int) (h : Heap) (sA sT : Sl) (LA LT : List Int) : Prop where
 k : Ext h0 h
 o : Own h0.size 1 h ⟨some (at0 a), 5, 5⟩ [i64v enc, i64v limit, slv sA, slv sT, .slice none 0 0]
 la : OwnL n .i64 h sA LA
 lt : OwnL n .i64 h sT LT
 ne : ∀ a b, sA.base = some a → sT.base = some b → a.block ≠ b.block
 an : a < n
 nh : n ≤ h.size
variable {h0 : Heap} {n a : Nat} {enc limit : Int} {sA sT : Sl} {LA LT : List Int}
theorem RI.ext {h' : Heap} (g : RI h0 n a enc limit h sA sT LA LT) (e : Ext h h') : RI h0 n a enc limit h' sA sT LA LT :=
 ⟨g.k.trans e, g.o.ext e, g.la.ext e, g.lt.ext e, g.ne, g.an, Nat.le_trans g.nh e.size⟩
theorem s_rA {x : Sl} {m : List Int} {K : Prog} (g : RI h0 n a enc limit h sA sT LA LT) (hx : Lst .i64 h x m) (hl : LA.length + m.length ≤ 1099511627776)
  (hk : ∀ h' s', RI h0 n a enc limit h' s' sT (LA ++ m) LT → wp P K h' Q) : wp P (.append 1 8 [.int .i64 0] sA x fun r => .store (shiftTo (some (at0 a)) 2) [slv r] K) h Q := by
 have bA := fun b (ha : sA.base = some b) => g.la.own.lt ha
 have bT := fun b (ha : sT.base = some b) => g.lt.own.lt ha
 have an := g.an; have nh := g.nh
 have a0 : h0.size ≤ a := (g.o.lt rfl).1
 refine s_appendE g.la g.nh hx (by omega) (by omega) fun r h1 k1 o1 u1 b1 _ => ?_
 have o3 := g.o.keep fun b hb => by cases hb; exact k1.2.1 _ an
 refine s_setC' (slv r) o3 (by simp) rfl fun h2 o2 u2 => ?_
 have r1 : ∀ b, r.base = some b → n ≤ b.block ∧ ((∃ c, sA.base = some c ∧ c.block = b.block) ∨ h.size ≤ b.block) := fun b hb => ⟨(o1.own.lt hb).1, (b1 b hb).imp (fun h => ⟨b, h, rfl⟩) id⟩
 have c12 : Chg (fun i => i = a ∨ ∃ b, sA.base = some b ∧ b.block = i) h h2 := ((Chg.of_upd (F := fun i => ∃ b, sA.base = some b ∧ b.block = i) u1 fun y hy _ => ⟨y, hy, rfl⟩).mono fun i _ x => .inr x).trans ((upd_chg u2).mono fun i _ (x : i = a) => .inl x) fun i _ x => x
 refine hk h2 r ⟨Keep.trans g.k (c12.keep g.k.size fun i hi f => ?_), o2, o1.upd u2 fun b c hb hc => by cases hc; have := (r1 b hb).1; show a ≠ _; omega, c12.ownL g.lt fun b hb f => ?_, fun b c hb hc => ?_, an, Nat.le_trans nh c12.1⟩
 ·rcases f with f | ⟨b, hb, f⟩
  ·omega
  ·have := (bA b hb).1; omega
 ·rcases f with f | ⟨c, hc, f⟩
  ·have := (bT b hb).1; omega
  ·exact g.ne c b hc hb f
 ·rcases (r1 b hb).2 with ⟨d, hd, e2⟩ | hh
  ·rw [← e2]; exact g.ne d c hd hc
  ·have := (bT c hc).2; omega
theorem s_rT {x : Sl} {m : List Int} {K : Prog} (g : RI h0 n a enc limit h sA sT LA LT) (hx : Lst .i64 h x m) (hl : LT.length + m.length ≤ 1099511627776)
  (hk : ∀ h' s', RI h0 n a enc limit h' sA s' LA (LT ++ m) → wp P K h' Q) : wp P (.append 1 8 [.int .i64 0] sT x fun r => .store (shiftTo (some (at0 a)) 3) [slv r] K) h Q := by
 have bA := fun b (ha : sA.base = some b) => g.la.own.lt ha
 have bT := fun b (ha : sT.base = some b) => g.lt.own.lt ha
 have an := g.an; have nh := g.nh
 have a0 : h0.size ≤ a := (g.o.lt rfl).1
 refine s_appendE g.lt g.nh hx (by omega) (by omega) fun r h1 k1 o1 u1 b1 _ => ?_
 have o3 := g.o.keep fun b hb => by cases hb; exact k1.2.1 _ an
 refine s_setC' (slv r) o3 (by simp) rfl fun h2 o2 u2 => ?_
 have r1 : ∀ b, r.base = some b → n ≤ b.block ∧ ((∃ c, sT.base = some c ∧ c.block = b.block) ∨ h.size ≤ b.block) := fun b hb => ⟨(o1.own.lt hb).1, (b1 b hb).imp (fun h => ⟨b, h, rfl⟩) id⟩
 have c12 : Chg (fun i => i = a ∨ ∃ b, sT.base = some b ∧ b.block = i) h h2 := ((Chg.of_upd (F := fun i => ∃ b, sT.base = some b ∧ b.block = i) u1 fun y hy _ => ⟨y, hy, rfl⟩).mono fun i _ x => .inr x).trans ((upd_chg u2).mono fun i _ (x : i = a) => .inl x) fun i _ x => x
 refine hk h2 r ⟨Keep.trans g.k (c12.keep g.k.size fun i hi f => ?_), o2, c12.ownL g.la fun b hb f => ?_, o1.upd u2 fun b c hb hc => by cases hc; have := (r1 b hb).1; show a ≠ _; omega, fun b c hb hc => ?_, an, Nat.le_trans nh c12.1⟩
 ·rcases f with f | ⟨b, hb, f⟩
  ·omega
  ·have := (bT b hb).1; omega
 ·rcases f with f | ⟨c, hc, f⟩
  ·have := (bA b hb).1; omega
  ·exact g.ne b c hb hc f.symm
 ·rcases (r1 c hc).2 with ⟨d, hd, e2⟩ | hh
  ·rw [← e2]; exact g.ne b d hb hd
  ·have := (bA b hb).2; omega
structure RX where
 b : Nat
 enc : Int
 limit : Int
 sa : Sl
 st : Sl
 sk : Sl
 E : List El
 K : List (Sl × Sl × List El)
 Z : Nat → Prop
def Shows (n : Nat) (h : Heap) (k : Sl × Sl × List El) : Prop := OwnL n .i64 h k.1 (k.2.2.map (·.1)) ∧ OwnL n .i64 h k.2.1 (k.2.2.map (·.2))
def inK (k : Sl × Sl × List El) (i : Nat) : Prop := (∃ a, k.1.base = some a ∧ a.block = i) ∨ ∃ a, k.2.1.base = some a ∧ a.block = i
structure RefT (n : Nat) (h : Heap) (R : RX) : Prop where
 enc : known R.enc
 lim : 0 ≤ R.limit ∧ R.limit ≤ 65536
 ob : Own n 1 h ⟨some (at0 R.b), 5, 5⟩ [i64v R.enc, i64v R.limit, slv R.sa, slv R.st, slv R.sk]
 cur : Shows n h (R.sa, R.st, R.E)
 sk : Own n 2 h R.sk (R.K.flatMap fun k => [slv k.1, slv k.2.1])
 kept : ∀ k, k ∈ R.K → Shows n h k
 zb : R.Z R.b
 zc : ∀ i, inK (R.sa, R.st, R.E) i → R.Z i ∧ i ≠ R.b ∧ ∀ a, R.sk.base = some a → a.block ≠ i
 zk : ∀ k, k ∈ R.K → ∀ i, inK k i → R.Z i ∧ i ≠ R.b ∧ ∀ a, R.sk.base = some a → a.block ≠ i
 zs : ∀ a, R.sk.base = some a → R.Z a.block ∧ a.block ≠ R.b
 lo : ∀ i, R.Z i → n ≤ i ∧ i < h.size
 fit : ∀ a, a ∈ R.E.map (·.1) → 0 < sizeF R.enc a
theorem Shows.chg {F : Nat → Prop} {h' : Heap} {k : Sl × Sl × List El} (s : Shows n h k) (c : Chg F h h') (hF : ∀ i, inK k i → ¬ F i) : Shows n h' k :=
 ⟨c.ownL s.1 fun y hy => hF _ (.inl ⟨y, hy, rfl⟩), c.ownL s.2 fun y hy => hF _ (.inr ⟨y, hy, rfl⟩)⟩
theorem RefT.chg {F : Nat → Prop} {h' : Heap} {R : RX} (r : RefT n h R) (c : Chg F h h') (hF : ∀ i, R.Z i → ¬ F i) : RefT n h' R where
 enc := r.enc
 lim := r.lim
 ob := c.own r.ob fun y hy => by cases hy; exact hF _ r.zb
 cur := r.cur.chg c fun i hi => hF _ (r.zc i hi).1
 sk := c.own r.sk fun y hy => hF _ (r.zs y hy).1
 kept := fun k hk => (r.kept k hk).chg c fun i hi => hF _ (r.zk k hk i hi).1
 zb := r.zb
 zc := r.zc
 zk := r.zk
 zs := r.zs
 lo := fun i hi => ⟨(r.lo i hi).1, Nat.lt_of_lt_of_le (r.lo i hi).2 c.1⟩
 fit := r.fit
theorem RefT.ext {h' : Heap} {R : RX} (r : RefT n h R) (e : Ext h h') : RefT n h' R := r.chg (Chg.of_ext (F := fun _ => False) e) fun _ _ x => x
theorem RefT.mono {m : Nat} {R : RX} (r : RefT n h R) (hm : m ≤ n) : RefT m h R :=
 ⟨r.enc, r.lim, r.ob.mono hm, ⟨r.cur.1.mono hm, r.cur.2.mono hm⟩, r.sk.mono hm, fun k hk => ⟨(r.kept k hk).1.mono hm, (r.kept k hk).2.mono hm⟩, r.zb, r.zc, r.zk, r.zs, fun i hi => ⟨Nat.le_trans hm (r.lo i hi).1, (r.lo i hi).2⟩, r.fit⟩
inductive ROpenR (h0 h : Heap) (enc limit : Int) (l : List Int) : Option Addr → Int → Prop where
 | enc : ¬ known enc → ROpenR h0 h enc limit l none 10
 | arg : known enc → ¬ (0 ≤ limit ∧ limit ≤ 65536) → ROpenR h0 h enc limit l none 1
 | full : known enc → 0 ≤ limit ∧ limit ≤ 65536 → limit < l.length → ROpenR h0 h enc limit l none 50
 | ok (R : RX) : known enc → 0 ≤ limit ∧ limit ≤ 65536 → l.length ≤ limit → RefT h0.size h R → R.enc = enc → R.limit = limit → R.K = [] → R.E = elsF 0 0 (toks enc l) → (∀ i, R.Z i → h0.size ≤ i) → ROpenR h0 h enc limit l (some (at0 R.b)) 0
theorem elsF_succ {ts : List (Int × Int)} {k : Nat} {t : Int × Int} (ht : ts[k]? = some t) : (elsF 0 0 ts).take (k + 1) = (elsF 0 0 ts).take k ++ [(t.1, (offs (ts.take k) : Int))] := by
 have h1 := elsF_drop 0 ts 0 k
 have hlt := (List.getElem?_eq_some_iff.1 ht).1
 have h2 : ts.drop k = t :: ts.drop (k + 1) := by
  have := (List.getElem?_eq_some_iff.1 ht).2
  rw [List.drop_eq_getElem_cons hlt, this]
 rw [h2] at h1
 have h3 : (elsF 0 0 ts)[k]? = some (t.1, (offs (ts.take k) : Int)) := by
  have h4 : ((elsF 0 0 ts).drop k)[0]? = (elsF 0 0 ts)[k]? := by rw [List.getElem?_drop]; rfl
  rw [← h4, h1]
  simp [elsF]
 rw [List.take_add_one, h3]; rfl
theorem c_refOpen {enc limit : Int} {b : Sl} {l : List Int} (hb : Lst .u8 h b l) (hl : l.length ≤ 1073741824) :
  Gives P (F_ref5_Open S enc b limit) [.one .ptr, .one (.int .i64)] h fun (y : Option Addr × Int × Unit) h' => ROpenR h h' enc limit l y.1 y.2.1 := by
 unfold F_ref5_Open Gives
 have hlb := hb.len
 have hby : isBytes l := hb.wf
 refine bind_bool (¬ known enc) ?_ fun bb h1 e1 hb1 => wp_ifB (fun hx => s_ret ⟨rfl, e1, (none, 10, ()), rfl, .enc (hb1.1 hx)⟩) fun hx => ?_
 ·unfold known
  refine wp_ifB (fun hc => s_ret ⟨rfl, Ext.refl _, true, rfl, Iff.intro (fun _ => by rw [ltI_iff] at hc; omega) fun _ => rfl⟩) fun hc => s_ret ⟨rfl, Ext.refl _, _, rfl, ?_⟩
  rw [ltI_not] at hc; rw [gtI_iff]; omega
 have he : known enc := by
  by_cases h : known enc
  ·exact h
  ·rw [hb1.2 h] at hx; cases hx
 refine bind_bool (¬ (0 ≤ limit ∧ limit ≤ 65536)) ?_ fun bb h2 e2 hb2 => wp_ifB (fun hx => s_ret ⟨rfl, e1.trans e2, (none, 1, ()), rfl, .arg he (hb2.1 hx)⟩) fun hx2 => ?_
 ·refine wp_ifB (fun hc => s_ret ⟨rfl, Ext.refl _, true, rfl, Iff.intro (fun _ => by rw [ltI_iff] at hc; omega) fun _ => rfl⟩) fun hc => s_ret ⟨rfl, Ext.refl _, _, rfl, ?_⟩
  rw [ltI_not] at hc; rw [gtI_iff]; omega
 have hli : 0 ≤ limit ∧ limit ≤ 65536 := by
  by_cases h : 0 ≤ limit ∧ limit ≤ 65536
  ·exact h
  ·rw [hb2.2 h] at hx2; cases hx2
 have e02 := e1.trans e2
 refine wp_ifB (fun hx => s_ret ⟨rfl, e02, (none, 50, ()), rfl, .full he hli (by rw [gtI_iff, natI_def, hlb] at hx; exact hx)⟩) fun hx => ?_
 rw [gtI_not, natI_def, hlb] at hx
 refine s_newO (bs := [.int .i64, .int .i64, .sl, .sl, .sl]) (enc, limit, ⟨none, 0, 0⟩, ⟨none, 0, 0⟩, ⟨none, 0, 0⟩, ()) (by decide) fun h3 e3 o3 => ?_
 have o3 : Own h2.size 1 h3 ⟨some (at0 h2.size), 5, 5⟩ [i64v enc, i64v limit, .slice none 0 0, .slice none 0 0, .slice none 0 0] := o3
 have q3 : h2.size < h3.size := (o3.lt rfl).2
 have tl := toks_len (enc := enc) hby
 have hof := toks_offs (enc := enc) hby
 have G0 : RI h2 h3.size h2.size enc limit h3 ⟨none, 0, 0⟩ ⟨none, 0, 0⟩ (((elsF 0 0 (toks enc l)).take 0).map (·.1)) (((elsF 0 0 (toks enc l)).take 0).map (·.2)) := ⟨e3, o3, OwnL.nil _ _ _, OwnL.nil _ _ _, fun _ _ h => (by cases h), q3, Nat.le_refl _⟩
 refine wp_whileG (G := Nat × Sl × Sl) (fun g (r : Int × Unit) h' => g.1 ≤ (toks enc l).length ∧ r.1 = offs ((toks enc l).take g.1) ∧ RI h2 h3.size h2.size enc limit h' g.2.1 g.2.2 (((elsF 0 0 (toks enc l)).take g.1).map (·.1)) (((elsF 0 0 (toks enc l)).take g.1).map (·.2))) (fun g => (toks enc l).length - g.1)
  (fun tag vs h' => tag = 2 ∧ vs = [] ∧ ∃ sA sT, RI h2 h3.size h2.size enc limit h' sA sT ((elsF 0 0 (toks enc l)).map (·.1)) ((elsF 0 0 (toks enc l)).map (·.2))) (0, ⟨none, 0, 0⟩, ⟨none, 0, 0⟩) ⟨Nat.zero_le _, rfl, G0⟩ ?_ ?_
 ·rintro ⟨k, sA, sT⟩ ⟨(at_ : Int), u⟩ h4 ⟨hk, hat, g⟩
  dsimp only at hk hat g ⊢
  subst hat
  have hsp : offs (toks enc l) = offs ((toks enc l).take k) + offs ((toks enc l).drop k) := by rw [← offs_append, List.take_append_drop]
  refine wp_ifB (fun hc => ?_) fun hc => ?_
  ·rw [ltI_iff, natI_def, hlb] at hc
   have hkl : k < (toks enc l).length := by
    by_cases h : k < (toks enc l).length
    ·exact h
    ·rw [List.drop_eq_nil_of_le (by omega), offs_nil] at hsp; omega
   obtain ⟨t, ht⟩ : ∃ t, (toks enc l)[k]? = some t := ⟨(toks enc l)[k]'hkl, List.getElem?_eq_getElem hkl⟩
   have htm := List.mem_of_getElem? ht
   have hto := toks_at (enc := enc) hby k hk
   have hdl : 0 < (l.drop (offs ((toks enc l).take k))).length := by rw [List.length_drop]; omega
   have hft : firstF enc (l.drop (offs ((toks enc l).take k))) = t := by
    have h1 := toks_cons (enc := enc) (hby.drop (offs ((toks enc l).take k))) hdl
    rw [hto.2, List.drop_eq_getElem_cons hkl, (List.getElem?_eq_some_iff.1 ht).2] at h1
    exact (List.cons.inj h1).1.symm
   have hts := toks_size (enc := enc) hby t htm
   have htf := toks_fits (enc := enc) hby t htm
   have e24 := g.k
   refine wp_call (c_ref_Next (hb.ext (e02.trans e24)) (by omega)) fun ⟨(y1 : Int), (y2 : Int), _⟩ h5 e5 hy => ?_
   have hy : y1 = t.1 ∧ y2 = t.2 := by
    rcases hy with ⟨hn, _, _⟩ | ⟨_, _, _, hy⟩
    ·rcases hn with h | h | h
     ·exact absurd he h
     ·omega
     ·omega
    ·rw [Int.toNat_natCast, hft] at hy
     exact ⟨congrArg Prod.fst hy, congrArg Prod.snd hy⟩
   obtain ⟨rfl, rfl⟩ := hy
   dsimp only
   refine wp_ifB (fun hz => by rw [ltI_iff] at hz; omega) fun _ => ?_
   have g5 := g.ext e5
   have hlen : ((elsF 0 0 (toks enc l)).take k).length = k := by rw [List.length_take, elsF_len]; omega
   refine s_cell (b := .sl) sA rfl g5.o.cells rfl (s_allocL (k := .i64) [t.1] (by intro z hz; rw [List.mem_singleton.1 hz]; exact htf) (by simp) fun h6 e6 o6 => s_rA (g5.ext e6) o6.lst (by rw [List.length_map, hlen, List.length_singleton]; omega) fun h7 sA7 g7 => ?_)
   refine s_cell (b := .sl) sT rfl g7.o.cells rfl (s_allocL (k := .i64) [((offs ((toks enc l).take k) : Nat) : Int)] (by intro z hz; rw [List.mem_singleton.1 hz]; exact fits_i64.2 (by omega)) (by simp) fun h8 e8 o8 => s_rT (g7.ext e8) o8.lst (by rw [List.length_map, hlen, List.length_singleton]; omega) fun h9 sT9 g9 => ?_)
   have h1 : ((elsF 0 0 (toks enc l)).take k).map (fun y : El => y.1) ++ [t.1] = ((elsF 0 0 (toks enc l)).take (k + 1)).map fun y : El => y.1 := by rw [elsF_succ ht]; simp
   have h2 : ((elsF 0 0 (toks enc l)).take k).map (fun y : El => y.2) ++ [((offs ((toks enc l).take k) : Nat) : Int)] = ((elsF 0 0 (toks enc l)).take (k + 1)).map fun y : El => y.2 := by rw [elsF_succ ht]; simp
   rw [h1, h2] at g9
   have hoff : offs ((toks enc l).take (k + 1)) = offs ((toks enc l).take k) + t.2.toNat := by rw [List.take_add_one, ht, offs_append]; simp [offs]
   rw [add_ok (by omega) (by omega)]
   exact s_ret ⟨fun _ => ⟨(k + 1, sA7, sT9), (((offs ((toks enc l).take k) : Nat) : Int) + t.2, ()), rfl, ⟨hkl, by dsimp only; omega, g9⟩, by dsimp only; omega⟩, fun hh => absurd rfl hh⟩
  ·rw [ltI_not, natI_def, hlb] at hc
   have hkl : k = (toks enc l).length := by
    by_cases h : k < (toks enc l).length
    ·obtain ⟨t, ht⟩ : ∃ t, (toks enc l)[k]? = some t := ⟨(toks enc l)[k]'h, List.getElem?_eq_getElem h⟩
     have hts := toks_size (enc := enc) hby t (List.mem_of_getElem? ht)
     rw [List.drop_eq_getElem_cons h, (List.getElem?_eq_some_iff.1 ht).2, offs_cons] at hsp
     omega
    ·omega
   subst hkl
   rw [List.take_of_length_le (by rw [elsF_len]; exact Nat.le_refl _)] at g
   exact s_ret ⟨fun hh => absurd hh (by decide), fun _ => ⟨rfl, rfl, sA, sT, g⟩⟩
 ·rintro tag vs h4 ⟨rfl, rfl, sA, sT, g⟩
  refine s_tag (s_cast0 (s_ret ⟨rfl, e02.trans g.k, (some (at0 h2.size), 0, ()), rfl, ?_⟩))
  have q02 := e02.size
  refine ROpenR.ok ⟨h2.size, enc, limit, sA, sT, ⟨none, 0, 0⟩, elsF 0 0 (toks enc l), [], fun i => h2.size ≤ i ∧ i < h4.size⟩ he hli (by omega) ⟨he, hli, g.o.mono q02, ⟨g.la.mono (by omega), g.lt.mono (by omega)⟩, Own.nil _ _ _, fun k hk => (by cases hk), ⟨Nat.le_refl _, (g.o.lt rfl).2⟩, fun i hi => ?_, fun k hk => (by cases hk), fun a ha => (by cases ha), fun i hi => ⟨by have := hi.1; omega, hi.2⟩, ?_⟩ rfl rfl rfl rfl fun i hi => by have := hi.1; omega
  ·rcases hi with ⟨y, hy, rfl⟩ | ⟨y, hy, rfl⟩
   ·have := g.la.own.lt hy; exact ⟨⟨by omega, this.2⟩, by dsimp only; omega, fun a ha => (by cases ha)⟩
   ·have := g.lt.own.lt hy; exact ⟨⟨by omega, this.2⟩, by dsimp only; omega, fun a ha => (by cases ha)⟩
  ·intro a ha
   dsimp only at ha ⊢
   have h1 : (elsF 0 0 (toks enc l)).map (fun y : El => y.1) = (toks enc l).map (·.1) := elsF_fst ..
   rw [h1] at ha
   obtain ⟨t, ht, rfl⟩ := List.mem_map.1 ha
   exact ((toks_is he hby).1 t ht).1
theorem s_appendI {n bytes : Nat} {k : IntKind} {s x : Sl} {l m : List Int} {K : Sl → Prog} (ho : OwnL n k h s l) (hn : n ≤ h.size) (hx : Ints k h x m) (hw : ∀ y, y ∈ m → fitsI k y) (hroom : (l.length + m.length) * bytes ≤ 140737488355328) (hlen : l.length + m.length < 2 ^ 63)
  (hk : ∀ r h', Keep n h h' → OwnL n k h' r (l ++ m) → wp P (K r) h' Q) : wp P (.append 1 bytes [.int k 0] s x K) h Q := by
 have hl := ho.len
 have hm := hx.len
 refine wp_append ho.own hn hx (by intro y hy; obtain ⟨z, _, rfl⟩ := List.mem_map.1 hy; rfl) rfl (by rw [hl, hm]; exact hroom) (by rw [hl, hm]; exact hlen) fun r h' a b c d => ?_
 refine hk r h' (Upd.keep ho.own hn c) ⟨by simpa using a, fun y hy => ?_⟩
 rcases List.mem_append.1 hy with hy | hy
 ·exact ho.wf y hy
 ·exact hw y hy
theorem c_refSize {R : RX} (r : RefT n h R) (hl : R.E.length ≤ 1073741824) : Gives P (F_ref_Text_Size S (some (at0 R.b))) [.one (.int .i64)] h fun (y : Int × Unit) _ => y.1 = blen R.enc R.E := by
 unfold F_ref_Text_Size Gives
 have lla := r.cur.1.len
 rw [List.length_map] at lla
 dsimp only at lla
 have hfit := r.fit
 refine wp_while (fun (q : Int × Int × Unit) h' => ∃ i : Nat, i ≤ R.E.length ∧ q.2.1 = i ∧ q.1 = blen R.enc (R.E.take i) ∧ Ext h h') (fun q _ => (R.E.length - q.2.1).toNat) (fun tag vs h' => tag = 2 ∧ vs = [i64v (blen R.enc R.E)] ∧ Ext h h') ⟨0, Nat.zero_le _, rfl, rfl, Ext.refl _⟩ ?_ ?_
 ·rintro ⟨(s : Int), (i' : Int), u⟩ h1 ⟨i, hi, hi', hs, e1⟩
  dsimp only at hi' hs ⊢
  subst hi'; subst hs
  have r1 := r.ext e1
  refine wp_grd rfl (wp_grd rfl (s_cell (b := .sl) R.sa rfl r1.ob.cells rfl (wp_ifB (fun hc => ?_) fun hc => ?_)))
  ·rw [ltI_iff, natI_def, lla] at hc
   obtain ⟨⟨a, g⟩, hx⟩ : ∃ x, R.E[i]? = some x := ⟨R.E[i]'(by omega), List.getElem?_eq_getElem (by omega)⟩
   have hfa := hfit a (List.mem_map.2 ⟨_, List.mem_of_getElem? hx, rfl⟩)
   have hlen := putF_len hfa
   have hs4 := sizeF_le R.enc a
   have hga : (R.E.map (fun x : El => x.1)).getD ((i : Int)).toNat 0 = a := by rw [Int.toNat_natCast, List.getD_eq_getElem?_getD, List.getElem?_map, hx]; rfl
   have hb1 : blen R.enc (R.E.take (i + 1)) = blen R.enc (R.E.take i) + (putF R.enc a).length := by rw [List.take_add_one, hx, blen_append]; simp [blen]
   have hb2 : blen R.enc (R.E.take i) ≤ 4 * i := by
    have := (put_le (enc := R.enc) (l := (R.E.take i).map (·.1)) fun b hb => hfit b (by obtain ⟨y, hy, rfl⟩ := List.mem_map.1 hb; exact List.mem_map.2 ⟨y, List.mem_of_mem_take hy, rfl⟩)).2
    rw [List.length_map, List.length_take] at this
    have h2 : blen R.enc (R.E.take i) ≤ 4 * min i R.E.length := this
    omega
   refine wp_grd rfl (wp_grd rfl (s_cell (b := .int .i64) R.enc rfl r1.ob.cells rfl (wp_grd rfl (wp_grd rfl (s_cell (b := .sl) R.sa rfl r1.ob.cells rfl (s_at r1.cur.1.lst (by omega) (by rw [List.length_map]; dsimp only; omega) fun _ => ?_))))))
   rw [hga]
   refine wp_call (c_ref_Size R.enc a) fun ⟨(z : Int), _⟩ h2 e2 hz => ?_
   have hz : z = sizeF R.enc a := hz
   subst hz
   dsimp only
   rw [add_ok (by omega) (by omega), add_ok (by omega) (by omega)]
   exact s_ret ⟨fun _ => ⟨((blen R.enc (R.E.take i) : Int) + sizeF R.enc a, (i : Int) + 1, ()), rfl, ⟨i + 1, by omega, by dsimp only; omega, by dsimp only; omega, e1.trans e2⟩, by dsimp only; omega⟩, fun hh => absurd rfl hh⟩
  ·rw [ltI_not, natI_def, lla] at hc
   have : i = R.E.length := by omega
   subst this
   rw [List.take_length]
   exact s_ret ⟨fun hh => absurd hh (by decide), fun _ => ⟨rfl, rfl, e1⟩⟩
 ·rintro tag vs h1 ⟨rfl, rfl, e1⟩
  exact s_tag (s_castI (s_ret ⟨rfl, e1, (_, ()), rfl, rfl⟩))
theorem c_refBytes {R : RX} (r : RefT n h R) (hl : R.E.length ≤ 1073741824) : Gives P (F_ref_Text_Bytes S (some (at0 R.b))) [.one .sl] h fun (y : Sl × Unit) h' => OwnL h.size .u8 h' y.1 ((R.E.map (·.1)).flatMap (putF R.enc)) := by
 unfold F_ref_Text_Bytes Gives
 have lla := r.cur.1.len
 rw [List.length_map] at lla
 dsimp only at lla
 have hfit := r.fit
 refine wp_while (fun (q : Sl × Int × Unit) h' => ∃ i : Nat, i ≤ R.E.length ∧ q.2.1 = i ∧ OwnL h.size .u8 h' q.1 (((R.E.take i).map (·.1)).flatMap (putF R.enc)) ∧ Ext h h') (fun q _ => (R.E.length - q.2.1).toNat) (fun tag vs h' => tag = 2 ∧ ∃ s : Sl, vs = [slv s] ∧ OwnL h.size .u8 h' s ((R.E.map (·.1)).flatMap (putF R.enc)) ∧ Ext h h') ⟨0, Nat.zero_le _, rfl, OwnL.nil _ _ _, Ext.refl _⟩ ?_ ?_
 ·rintro ⟨(s : Sl), (i' : Int), u⟩ h1 ⟨i, hi, hi', hs, e1⟩
  dsimp only at hi' hs ⊢
  subst hi'
  have r1 := r.ext e1
  refine wp_grd rfl (wp_grd rfl (s_cell (b := .sl) R.sa rfl r1.ob.cells rfl (wp_ifB (fun hc => ?_) fun hc => ?_)))
  ·rw [ltI_iff, natI_def, lla] at hc
   obtain ⟨⟨a, g⟩, hx⟩ : ∃ x, R.E[i]? = some x := ⟨R.E[i]'(by omega), List.getElem?_eq_getElem (by omega)⟩
   have hfa := hfit a (List.mem_map.2 ⟨_, List.mem_of_getElem? hx, rfl⟩)
   have hlen := putF_len hfa
   have hs4 := sizeF_le R.enc a
   have hga : (R.E.map (fun x : El => x.1)).getD ((i : Int)).toNat 0 = a := by rw [Int.toNat_natCast, List.getD_eq_getElem?_getD, List.getElem?_map, hx]; rfl
   have hb1 : ((R.E.take (i + 1)).map (fun x : El => x.1)).flatMap (putF R.enc) = ((R.E.take i).map (fun x : El => x.1)).flatMap (putF R.enc) ++ putF R.enc a := by rw [List.take_add_one, hx]; simp
   have hb2 : (((R.E.take i).map (fun x : El => x.1)).flatMap (putF R.enc)).length ≤ 4 * i := by
    have := (put_le (enc := R.enc) (l := (R.E.take i).map (·.1)) fun b hb => hfit b (by obtain ⟨y, hy, rfl⟩ := List.mem_map.1 hb; exact List.mem_map.2 ⟨y, List.mem_of_mem_take hy, rfl⟩)).2
    rw [List.length_map, List.length_take] at this
    omega
   refine wp_grd rfl (wp_grd rfl (s_cell (b := .int .i64) R.enc rfl r1.ob.cells rfl (wp_grd rfl (wp_grd rfl (s_cell (b := .sl) R.sa rfl r1.ob.cells rfl (s_at r1.cur.1.lst (by omega) (by rw [List.length_map]; dsimp only; omega) fun _ => ?_))))))
   rw [hga]
   refine wp_call (c_ref_Put hfa) fun ⟨(z : Sl), _⟩ h2 e2 ⟨hz, _⟩ => ?_
   have hz : Ints .u8 h2 z (putF R.enc a) := hz
   dsimp only
   refine s_appendI (hs.ext e2) (by have := (e1.trans e2).size; omega) hz (bytes_put hfa) (by omega) (by omega) fun r' h3 k3 o3 => ?_
   rw [← hb1] at o3
   rw [add_ok (by omega) (by omega)]
   exact s_ret ⟨fun _ => ⟨(r', (i : Int) + 1, ()), rfl, ⟨i + 1, by omega, by dsimp only; omega, o3, Keep.trans (e1.trans e2) k3⟩, by dsimp only; omega⟩, fun hh => absurd rfl hh⟩
  ·rw [ltI_not, natI_def, lla] at hc
   have : i = R.E.length := by omega
   subst this
   rw [List.take_length] at hs
   exact s_ret ⟨fun hh => absurd hh (by decide), fun _ => ⟨rfl, s, rfl, hs, e1⟩⟩
 ·rintro tag vs h1 ⟨rfl, s, rfl, o, e1⟩
  exact s_tag (wp_cast (tys := [.one .sl]) (s, ()) rfl (s_ret ⟨rfl, e1, (s, ()), rfl, o⟩))
end Go.Sw.Piece

set_option linter.unusedVariables false
set_option linter.unusedSimpArgs false
set_option maxRecDepth 100000
namespace Go.Sw.Piece
open Go.Sw.Any Go.Sw.Codec
open Go.Sw.Tree (iv s_putAll s_newP s_getP s_getT s_putP eqI_self Placed cell_own wp_whileG minI_eq)
variable {P : Program} {S : Ids} {h : Heap} {Q : Nat → List Value → Heap → Prop}
theorem s_arr {a : Addr} {vs : List Value} {off i m : Nat} {b : B} (z : b.den) {K : b.den → Prog} (hc : Cells h a vs) (hv : vs[off + i]? = some (b.inj z)) (hi : i < m) (hk : wp P (K z) h Q) :
  wp P (grd (andB (someB (shiftTo (some a) off)) (inB (i : Int) m)) <| .load (.one b) (shiftTo (shiftTo (some a) off) (mulN (toN (i : Int)) 1)) K) h Q := by
 refine wp_grd (andB_iff.2 ⟨rfl, inB_is.2 ⟨by omega, by omega⟩⟩) ?_
 rw [shiftTo_some, shiftTo_some, mulN_def, toN_def, Int.toNat_natCast, Nat.mul_one, add_add]
 exact wp_load1 (a.add (off + i)) z rfl (cells_iff.1 hc _ _ hv) hk
theorem s_setArr {n c d : Nat} {a : Addr} {vs : List Value} {off i m : Nat} (v : Value) {K : Prog} (o : Own n 1 h ⟨some a, c, d⟩ vs) (hv : off + i < vs.length) (hi : i < m) (hf : flat v = true)
  (hk : ∀ h', Own n 1 h' ⟨some a, c, d⟩ (vs.set (off + i) v) → Upd ⟨some a, c, d⟩ h h' → wp P K h' Q) :
  wp P (grd (andB (someB (shiftTo (some a) off)) (inB (i : Int) m)) <| .store (shiftTo (shiftTo (some a) off) (mulN (toN (i : Int)) 1)) [v] K) h Q := by
 refine wp_grd (andB_iff.2 ⟨rfl, inB_is.2 ⟨by omega, by omega⟩⟩) ?_
 rw [shiftTo_some, shiftTo_some, mulN_def, toN_def, Int.toNat_natCast, Nat.mul_one, add_add, ← shiftTo_some]
 exact s_setC' v o hv hf hk
def m5 (k : Nat) : Int := xorI .u8 (wrapI .u8 (k : Int)) 165
def marks5 (m room : Nat) : List Int := (List.range room).map fun j => m5 (m + j)
theorem m5_fits (k : Nat) : fitsI .u8 (m5 k) := by unfold m5 xorI; exact range_u8 _
theorem marks5_len (m k : Nat) : (marks5 m k).length = k := by simp [marks5]
theorem marks5_succ (m k : Nat) : marks5 m (k + 1) = marks5 m k ++ [m5 (m + k)] := by simp [marks5, List.range_succ]
theorem s_fillB {n b room : Nat} {s : Sl} {l : List Int} {K : Nat → List Value → Prog} (hb : Blk n h b (l.length + room)) (hs : Lst .u8 h s l) (hl : l.length + room ≤ 1099511627776)
  (hk : ∀ h', Reg n h' b ((l ++ marks5 l.length room).map (.int .u8)) → SChg (fun i => i = b) h h' → h'.size = h.size → wp P (K 4 []) h' Q) :
  wp P (.copy 1 (slb b (l.length + room)) s fun _ => .bind (.loop [.one (.int .i64)] (natI s.len, ()) fun (r : Int × Unit) =>
   ifB (ltI r.1 (natI (l.length + room))) (grd (andB (someB (some (at0 b))) (inB r.1 (l.length + room))) <| .store (shiftTo (some (at0 b)) (mulN (toN r.1) 1)) [.int .u8 (xorI .u8 (wrapI .u8 r.1) 165)] <| .ret 0 [.int .i64 (addI .i64 r.1 1)]) <| .ret 4 []) K) h Q := by
 have hsl := hs.len
 obtain ⟨vs, hvl, rv⟩ := hb.reg
 have hv2 : vs = vs.take l.length ++ vs.drop l.length := (List.take_append_drop ..).symm
 rw [hv2] at rv
 refine s_copyR rv hs (by rw [List.length_take]; omega) (by omega) fun h1 r1 c1 z1 => ?_
 refine wp_while (fun (r : Int × Unit) h' => ∃ c, c ≤ room ∧ r.1 = ((l.length + c : Nat) : Int) ∧ ∃ rest : List Value, rest.length = room - c ∧ Reg n h' b ((l ++ marks5 l.length c).map (.int .u8) ++ rest) ∧ SChg (fun i => i = b) h h' ∧ h'.size = h.size) (fun r _ => (l.length + room - r.1).toNat)
  (fun tg vs h' => tg = 4 ∧ vs = [] ∧ Reg n h' b ((l ++ marks5 l.length room).map (.int .u8)) ∧ SChg (fun i => i = b) h h' ∧ h'.size = h.size) ⟨0, Nat.zero_le _, by rw [natI_def, hsl]; rfl, vs.drop l.length, by rw [List.length_drop]; omega, by simpa [marks5] using r1, c1, z1⟩ ?_ ?_
 ·rintro ⟨(r : Int), u⟩ h2 ⟨c, hc, hr, rest, hrl, rg, cg, zg⟩
  dsimp only at hr ⊢
  subst hr
  refine wp_ifB (fun hx => ?_) fun hx => ?_
  ·rw [ltI_iff, natI_def] at hx
   obtain ⟨v0, rest', rfl⟩ : ∃ v0 rest', rest = v0 :: rest' := by
    cases rest with
    | nil => simp at hrl; omega
    | cons v r => exact ⟨v, r, rfl⟩
   refine wp_grd (andB_iff.2 ⟨rfl, inB_is.2 ⟨by omega, by omega⟩⟩) ?_
   rw [shiftTo_some, mulN_def, toN_def, Nat.mul_one, add_mk, Nat.zero_add, Int.toNat_natCast]
   have rg' : Reg n h2 b ((l ++ marks5 l.length c).map (.int .u8) ++ [v0] ++ rest') := by simpa using rg
   refine s_putR [.int .u8 (m5 (l.length + c))] rg' (by simp [marks5_len]) rfl (by intro v hv; rw [List.mem_singleton.1 hv]; rfl) fun h3 r3 c3 z3 => ?_
   rw [add_ok (by omega) (by omega)]
   refine s_ret ⟨fun _ => ⟨(_, ()), rfl, ⟨c + 1, by omega, by dsimp only; omega, rest', by simp at hrl; omega, ?_, cg.trans c3 fun _ _ x => x, by omega⟩, by dsimp only; omega⟩, fun hh => absurd rfl hh⟩
   rw [marks5_succ, ← List.append_assoc, List.map_append]
   exact r3
  ·rw [ltI_not, natI_def] at hx
   have : c = room := by omega
   subst this
   exact s_ret ⟨fun hh => absurd hh (by decide), fun _ => ⟨rfl, rfl, rg.pre, cg, zg⟩⟩
 ·rintro tg vs h2 ⟨rfl, rfl, r2, c2, z2⟩
  exact hk h2 r2 c2 z2
structure PairR (S : Ids) (n : Nat) (h : Heap) (T : TX) (R : RX) : Prop where
 t : TextR S n h T
 r : RefT n h R
 enc : R.enc = T.enc
 limit : R.limit = T.limit
 E : R.E = els T.enc T.cur.ps
 sm : (bytesL T.cur.ps).length ≤ T.limit
 far : ∀ i, T.Z i → ¬ R.Z i
def PairO (S : Ids) (n : Nat) (h : Heap) : Option TX → Option RX → Prop
 | none, none => True
 | some T, some R => PairR S n h T R
 | _, _ => False
def tP (t : Option TX) : Option Addr := t.map (·.p)
def rP (r : Option RX) : Option Addr := r.map fun r => at0 r.b
def pZ (t : Option TX) (r : Option RX) (i : Nat) : Prop := (∃ T, t = some T ∧ T.Z i) ∨ ∃ R, r = some R ∧ R.Z i
def Young (t : Option TX) (r : Option RX) : Prop := (∀ T, t = some T → T.kept = [] ∧ T.A = []) ∧ ∀ R, r = some R → R.K = []
theorem PairO.chg {n : Nat} {F : Nat → Prop} {h' : Heap} {t : Option TX} {r : Option RX} (o : PairO S n h t r) (c : Chg F h h') (hF : ∀ i, pZ t r i → ¬ F i) : PairO S n h' t r := by
 cases t with
 | none => cases r with
  | none => trivial
  | some R => exact o
 | some T => cases r with
  | none => exact o
  | some R => exact ⟨o.t.chg c fun i hi => hF i (.inl ⟨T, rfl, hi⟩), o.r.chg c fun i hi => hF i (.inr ⟨R, rfl, hi⟩), o.enc, o.limit, o.E, o.sm, o.far⟩
theorem PairO.ext {n : Nat} {h' : Heap} {t : Option TX} {r : Option RX} (o : PairO S n h t r) (e : Ext h h') : PairO S n h' t r := o.chg (Chg.of_ext (F := fun _ => False) e) fun _ _ f => f
theorem PairO.in {n i : Nat} {t : Option TX} {r : Option RX} (o : PairO S n h t r) (hi : pZ t r i) : n ≤ i ∧ i < h.size := by
 cases t with
 | none => cases r with
  | none =>
   rcases hi with ⟨T, hT, _⟩ | ⟨R, hR, _⟩
   ·cases hT
   ·cases hR
  | some R => exact o.elim
 | some T => cases r with
  | none => exact o.elim
  | some R =>
   rcases hi with ⟨T', hT, hz⟩ | ⟨R', hR, hz⟩
   ·cases hT; exact o.t.lo i hz
   ·cases hR; exact o.r.lo i hz
theorem TextR.mono {m n : Nat} {T : TX} (t : TextR S n h T) (hm : m ≤ n) : TextR S m h T :=
 ⟨t.enc, t.lim, t.ob.mono hm, t.ad.mono hm, t.adp, t.adk, t.cur, t.kept, t.zp, t.za, fun i hi => ⟨Nat.le_trans hm (t.lo i hi).1, (t.lo i hi).2⟩⟩
theorem open_join {n : Nat} {ha hb hc : Heap} {enc limit er er' : Int} {l : List Int} {p p' : Option Addr} (hn : n ≤ ha.size) (ea : Ext ha hb) (hT : OpenR S ha hb enc limit l p er) (hR : ROpenR hb hc enc limit l p' er') (e : Ext hb hc) :
  er = er' ∧ ∃ t r, p = tP t ∧ p' = rP r ∧ PairO S n hc t r ∧ (∀ i, pZ t r i → ha.size ≤ i) ∧ Young t r := by
 have yn : Young none none := ⟨fun T h => (by cases h), fun R h => (by cases h)⟩
 have zn : ∀ i, pZ none none i → ha.size ≤ i := fun i hi => by
  rcases hi with ⟨T, hT, _⟩ | ⟨R, hR, _⟩
  ·cases hT
  ·cases hR
 cases hT with
 | enc h => cases hR with
  | enc _ => exact ⟨rfl, none, none, rfl, rfl, trivial, zn, yn⟩
  | arg h2 => exact absurd h2 h
  | full h2 => exact absurd h2 h
  | ok R h2 => exact absurd h2 h
 | arg h h1 => cases hR with
  | enc h2 => exact absurd h h2
  | arg _ _ => exact ⟨rfl, none, none, rfl, rfl, trivial, zn, yn⟩
  | full _ h2 => exact absurd h2 h1
  | ok R _ h2 => exact absurd h2 h1
 | full h h1 h3 => cases hR with
  | enc h2 => exact absurd h h2
  | arg _ h2 => exact absurd h1 h2
  | full _ _ _ => exact ⟨rfl, none, none, rfl, rfl, trivial, zn, yn⟩
  | ok R _ _ h2 => omega
 | ok T h h1 h3 t he hl hk hA hE hby hz => cases hR with
  | enc h2 => exact absurd h h2
  | arg _ h2 => exact absurd h1 h2
  | full _ _ h2 => omega
  | ok R _ _ _ r he' hl' hk' hE' hz' =>
   refine ⟨rfl, some T, some R, rfl, rfl, ⟨(t.ext e).mono hn, r.mono (by have := ea.size; omega), by rw [he', he], by rw [hl', hl], ?_, by rw [hby, hl]; omega, fun i h1 h2 => ?_⟩, fun i hi => ?_, ⟨fun T' h => by cases h; exact ⟨hk, hA⟩, fun R' h => by cases h; exact hk'⟩⟩
   ·rw [hE', he]; exact hE.symm
   ·have := (t.lo i h1).2; have := hz' i h2; omega
   ·rcases hi with ⟨T', hT, hz2⟩ | ⟨R', hR, hz2⟩
    ·cases hT; exact hz i hz2
    ·cases hR; have := hz' i hz2; have := ea.size; omega
theorem none_eq {n : Nat} {t : Option TX} {r : Option RX} (o : PairO S n h t r) : eqB (noneB (tP t)) (noneB (rP r)) = true := by
 cases t with
 | none => cases r with
  | none => rfl
  | some R => exact o.elim
 | some T => cases r with
  | none => exact o.elim
  | some R => rfl
abbrev BT := Int × Int × Int × Int × Sl × Sl × Sl × Unit
abbrev wCells (t0 t1 : Option TX) (r0 r1 : Option RX) (rest : List Value) : List Value := [.pointer (tP t0), .pointer (tP t1), .pointer (rP r0), .pointer (rP r1)] ++ rest
theorem c_begin (M : Meth0 P S) {en li : Nat → Int} {bs : Nat → Sl} {ls : Nat → List Int} {steps : Sl} {m wb : Nat} {rest : List Value} (o : Own m 1 h ⟨some (at0 wb), 8, 8⟩ (wCells none none none none rest)) (hrest : rest.length = 4)
  (hb : ∀ i, i < 2 → Lst .u8 h (bs i) (ls i) ∧ (ls i).length ≤ 1073741824) (hnb : ∀ i, i < 2 → ∀ a, (bs i).base = some a → a.block ≠ wb ∨ ls i = []) :
  wp P (F_world_begin S (some (at0 wb)) (en 0, en 1, li 0, li 1, bs 0, bs 1, steps, ())) h fun tag vs h' => tag = 0 ∧ vs = [.bool true] ∧ Chg (fun i => i = wb) h h' ∧ ∃ t0 t1 r0 r1, Own m 1 h' ⟨some (at0 wb), 8, 8⟩ (wCells t0 t1 r0 r1 rest) ∧
   PairO S h.size h' t0 r0 ∧ PairO S h.size h' t1 r1 ∧ (∀ i, pZ t0 r0 i → ¬ pZ t1 r1 i) ∧ Young t0 r0 ∧ Young t1 r1 := by
 unfold F_world_begin
 have wlt : wb < h.size := (o.lt rfl).2
 refine s_newO (bs := [.int .i64, .int .i64, .int .i64, .int .i64, .sl, .sl, .sl]) (en 0, en 1, li 0, li 1, bs 0, bs 1, steps, ()) (by decide) fun h1 e1 o1 => ?_
 have q1 : h.size < h1.size := (o1.lt rfl).2
 let vs7 : List Value := Bs.inj [.int .i64, .int .i64, .int .i64, .int .i64, .sl, .sl, .sl] ((en 0, en 1, li 0, li 1, bs 0, bs 1, steps, ()) : BT)
 have v0 : ∀ i, i < 2 → vs7[0 + i]? = some (B.inj (.int .i64) (en i)) := fun i hi => by
  rcases (by omega : i = 0 ∨ i = 1) with rfl | rfl <;> rfl
 have v2 : ∀ i, i < 2 → vs7[2 + i]? = some (B.inj (.int .i64) (li i)) := fun i hi => by
  rcases (by omega : i = 0 ∨ i = 1) with rfl | rfl <;> rfl
 have v4 : ∀ i, i < 2 → vs7[4 + i]? = some (B.inj .sl (bs i)) := fun i hi => by
  rcases (by omega : i = 0 ∨ i = 1) with rfl | rfl <;> rfl
 let W : Nat → Prop := fun i => i = wb
 refine wp_whileG (G := Nat × Option TX × Option TX × Option RX × Option RX) (fun g (r : Int × Unit) h' => r.1 = g.1 ∧ g.1 ≤ 2 ∧ Chg W h1 h' ∧ Own m 1 h' ⟨some (at0 wb), 8, 8⟩ (wCells g.2.1 g.2.2.1 g.2.2.2.1 g.2.2.2.2 rest) ∧ PairO S h.size h' g.2.1 g.2.2.2.1 ∧ PairO S h.size h' g.2.2.1 g.2.2.2.2 ∧
   (∀ i, pZ g.2.1 g.2.2.2.1 i → ¬ pZ g.2.2.1 g.2.2.2.2 i) ∧ Young g.2.1 g.2.2.2.1 ∧ Young g.2.2.1 g.2.2.2.2 ∧ (g.1 ≤ 1 → g.2.2.1 = none ∧ g.2.2.2.2 = none)) (fun g => 2 - g.1)
  (fun tag vs h' => tag = 2 ∧ vs = [] ∧ Chg W h1 h' ∧ ∃ t0 t1 r0 r1, Own m 1 h' ⟨some (at0 wb), 8, 8⟩ (wCells t0 t1 r0 r1 rest) ∧ PairO S h.size h' t0 r0 ∧ PairO S h.size h' t1 r1 ∧ (∀ i, pZ t0 r0 i → ¬ pZ t1 r1 i) ∧ Young t0 r0 ∧ Young t1 r1)
  (0, none, none, none, none) ⟨rfl, Nat.zero_le _, Chg.refl _ _, o.ext e1, trivial, trivial, fun i _ h => ?_, ⟨fun T h => (by cases h), fun R h => (by cases h)⟩, ⟨fun T h => (by cases h), fun R h => (by cases h)⟩, fun _ => ⟨rfl, rfl⟩⟩ ?_ ?_
 ·rcases h with ⟨T, hT, _⟩ | ⟨R, hR, _⟩
  ·cases hT
  ·cases hR
 ·rintro ⟨i, t0, t1, r0, r1⟩ ⟨(r : Int), u⟩ h2 ⟨hr, hi, c2, o2, pa, pb, far, ya, yb, hno⟩
  dsimp only at hr hi c2 o2 pa pb far ya yb hno ⊢
  subst hr
  have q2 := c2.1
  refine wp_ifB (fun hc => ?_) fun hc => s_ret ⟨fun hh => absurd hh (by decide), fun _ => ⟨rfl, rfl, c2, t0, t1, r0, r1, o2, pa, pb, far, ya, yb⟩⟩
  rw [ltI_iff] at hc
  have hi2 : i < 2 := by omega
  obtain ⟨hbi, hbl⟩ := hb i hi2
  have hll := hbi.len
  have cin : ∀ {h'}, Chg W h1 h' → Cells h' ⟨h.size, 0, none⟩ vs7 := fun c => (c.own o1 fun y hy f => by cases hy; have f : h.size = wb := f; omega).cells
  have lin : ∀ {h'}, Chg W h1 h' → Lst .u8 h' (bs i) (ls i) := fun c => c.lst0 (hbi.ext e1) fun hne y hy f => (hnb i hi2 y hy).elim (fun h => h f) hne
  refine s_arr (b := .sl) (bs i) (cin c2) (v4 i hi2) hi2 ?_
  have hadd : addI .i64 (natI (bs i).len) 100 = (((ls i).length + 100 : Nat) : Int) := by rw [natI_def, hll, add_ok (by omega) (by omega)]; omega
  rw [hadd]
  refine s_mkB (size := 1) rfl (by omega) (by omega) fun h3 e3 bl3 _ => ?_
  have c3 := c2.ext e3
  rw [Nat.mul_one] at bl3
  have q3 : h2.size < h3.size := bl3.lt
  refine s_arr (b := .sl) (bs i) (cin c3) (v4 i hi2) hi2 ?_
  refine s_fillB (room := 100) bl3 (lin c3) (by omega) fun h4 rg4 sc4 z4 => ?_
  have c4 : Chg W h1 h4 := c3.trans sc4.1 fun j hj f => by omega
  generalize hwh : h2.size = wh at *
  have hlen : (ls i ++ marks5 (ls i).length 100).length = (ls i).length + 100 := by rw [List.length_append, marks5_len]
  have lw : ∀ {h' : Heap}, Reg wh h' wh ((ls i ++ marks5 (ls i).length 100).map (.int .u8)) → Lst .u8 h' (slb wh ((ls i).length + 100)) (ls i ++ marks5 (ls i).length 100) := fun {h'} rg => by
   have hr : Reg wh h' wh ((ls i ++ marks5 (ls i).length 100).map (.int .u8) ++ []) := by rw [List.append_nil]; exact rg
   have := hr.lst (c := (ls i).length + 100) (by
    intro y hy
    rcases List.mem_append.1 hy with hy | hy
    ·exact hbi.wf y hy
    ·unfold marks5 at hy
     obtain ⟨j, hj, rfl⟩ := List.mem_map.1 hy
     exact m5_fits _) (by omega) (by omega)
   rw [hlen] at this; exact this
  have lb : ∀ {h' : Heap}, Reg wh h' wh ((ls i ++ marks5 (ls i).length 100).map (.int .u8)) → Lst .u8 h' ⟨some (at0 wh), subN (ls i).length 0, subN ((ls i).length + 100) 0⟩ (ls i) := fun {h'} rg => by
   have := (lw rg).take (n := (ls i).length) (m := (ls i).length + 100) (by simp) (by omega) (by omega)
   rw [List.take_left' rfl] at this; exact this
  refine s_tag (s_cast0 (wp_grd (leB_ok (by rw [natI_def]; omega) (by rw [natI_def, hll]; show (((ls i).length : Nat) : Int) ≤ (((ls i).length + 100 : Nat) : Int); omega)) ?_))
  refine s_arr (b := .int .i64) (en i) (cin c4) (v0 i hi2) hi2 (s_arr (b := .int .i64) (li i) (cin c4) (v2 i hi2) hi2 ?_)
  rw [cutBase_zero, natI_def, toN_def, Int.toNat_natCast, hll]
  refine wp_call (c_Open M (enc := en i) (limit := li i) (lb rg4)) fun ⟨(p : Option Addr), (er : Int), _⟩ h5 e5 hT => ?_
  have hT : OpenR S h4 h5 (en i) (li i) (ls i) p er := hT
  have c5 := c4.ext e5
  refine s_arr (b := .int .i64) (en i) (cin c5) (v0 i hi2) hi2 (s_arr (b := .sl) (bs i) (cin c5) (v4 i hi2) hi2 (s_arr (b := .int .i64) (li i) (cin c5) (v2 i hi2) hi2 ?_))
  refine wp_call (c_refOpen (enc := en i) (limit := li i) (lin c5) hbl) fun ⟨(p' : Option Addr), (er' : Int), _⟩ h6 e6 hR => ?_
  have hR : ROpenR h5 h6 (en i) (li i) (ls i) p' er' := hR
  have c6 := c5.ext e6
  obtain ⟨hee, t, r, rfl, rfl, pn, zn, yn⟩ := open_join (n := h.size) (by omega) e5 hT hR e6
  subst hee
  have e46 := e5.trans e6
  have rg6 := rg4.ext e46
  refine bind_bool False ?_ fun bb h7 e7 hb7 => wp_ifB (fun hx => (hb7.1 hx).elim) fun _ => ?_
  ·refine s_neF rfl ?_
   rw [none_eq pn]
   refine s_ifF (s_arr (b := .sl) (bs i) (cin c6) (v4 i hi2) hi2 (wp_call (c_same5B (lb rg6) (lin c6)) fun ⟨(bb : Bool), _⟩ h7 e7 hb7 => s_ret ⟨rfl, e7, _, rfl, ?_⟩))
   have hb7 : bb = decide (ls i = ls i) := hb7
   rw [hb7, decide_eq_true rfl]
   exact Iff.intro (fun h => by cases h) False.elim
  have c7 := c6.ext e7
  have rg7 := rg6.ext e7
  have q47 := (e46.trans e7).size
  refine wp_while (fun (q : Int × Unit) h' => ∃ c, c ≤ 100 ∧ q.1 = (((ls i).length + c : Nat) : Int) ∧ h' = h7) (fun q _ => ((ls i).length + 100 - q.1).toNat) (fun tag vs h' => tag = 6 ∧ vs = [] ∧ h' = h7) ⟨0, Nat.zero_le _, rfl, rfl⟩ ?_ ?_
  ·rintro ⟨(q : Int), u⟩ h8 ⟨c, hc, hq, rfl⟩
   dsimp only at hq ⊢
   subst hq
   refine wp_ifB (fun hx => ?_) fun hx => s_ret ⟨fun hh => absurd hh (by decide), fun _ => ⟨rfl, rfl, rfl⟩⟩
   rw [ltI_iff, natI_def] at hx
   refine s_at (s := slb wh ((ls i).length + 100)) (lw rg7) (by omega) (by rw [hlen]; omega) fun _ => ?_
   have hv : (ls i ++ marks5 (ls i).length 100).getD (((ls i).length + c : Nat) : Int).toNat 0 = xorI .u8 (wrapI .u8 (((ls i).length + c : Nat) : Int)) 165 := by
    rw [Int.toNat_natCast, List.getD_eq_getElem?_getD, List.getElem?_append_right (by omega), Nat.add_sub_cancel_left]
    unfold marks5
    rw [List.getElem?_map, List.getElem?_range (by omega)]; rfl
   refine s_neF hv ?_
   rw [add_ok (by omega) (by omega)]
   exact s_ret ⟨fun _ => ⟨((((ls i).length + c : Nat) : Int) + 1, ()), rfl, ⟨c + 1, by omega, by dsimp only; omega, rfl⟩, by dsimp only; omega⟩, fun hh => absurd rfl hh⟩
  rintro tag vs h8 ⟨rfl, rfl, rfl⟩
  refine s_tag (s_cast0 ?_)
  have bl8 : Blk wh h8 wh ((ls i).length + 100) := by have := rg7.blk; rw [List.length_map, hlen] at this; exact this
  refine wp_while (fun (q : Int × Unit) h' => ∃ j : Nat, j ≤ (ls i).length ∧ q.1 = j ∧ SChg (fun k => k = wh) h8 h') (fun q _ => ((ls i).length - q.1).toNat) (fun tag vs h' => tag = 8 ∧ vs = [] ∧ SChg (fun k => k = wh) h8 h') ⟨0, Nat.zero_le _, rfl, SChg.refl _ _⟩ ?_ ?_
  ·rintro ⟨(q : Int), u⟩ h9 ⟨j, hj, hq, sc⟩
   dsimp only at hq ⊢
   subst hq
   refine wp_ifB (fun hx => ?_) fun hx => s_ret ⟨fun hh => absurd hh (by decide), fun _ => ⟨rfl, rfl, sc⟩⟩
   have hx : (j : Int) < ((ls i).length : Nat) := by rw [ltI_iff, natI_def] at hx; exact hx
   refine wp_grd (andB_iff.2 ⟨rfl, inB_is.2 ⟨by omega, hx⟩⟩) ?_
   rw [shiftTo_some, mulN_def, toN_def, Int.toNat_natCast, Nat.mul_one, add_mk, Nat.zero_add]
   refine s_putB [_] (bl8.schg sc) (by simp; omega) (by intro v hv; rw [List.mem_singleton.1 hv]; rfl) fun h10 _ _ _ sc10 _ => ?_
   rw [add_ok (by omega) (by omega)]
   exact s_ret ⟨fun _ => ⟨((j : Int) + 1, ()), rfl, ⟨j + 1, by omega, by dsimp only; omega, sc.trans sc10 fun k _ f => f⟩, by dsimp only; omega⟩, fun hh => absurd rfl hh⟩
  rintro tag vs h9 ⟨rfl, rfl, sc9⟩
  have c9 : Chg W h1 h9 := c7.trans sc9.1 fun j hj f => by omega
  have q89 := sc9.1.1
  have c29 : Chg (fun k => k = wh) h2 h9 := ((((Chg.of_ext e3).trans sc4.1 fun k _ f => f).ext (e46.trans e7)).trans sc9.1 fun k _ f => f)
  have o9 : Own m 1 h9 ⟨some (at0 wb), 8, 8⟩ (wCells t0 t1 r0 r1 rest) := c29.own o2 fun y hy f => by cases hy; have f : wb = wh := f; have := (o2.lt rfl).2; dsimp only at this; omega
  have pa9 := pa.chg c29 fun k hk f => by have f : k = wh := f; have := (pa.in hk).2; omega
  have pb9 := pb.chg c29 fun k hk f => by have f : k = wh := f; have := (pb.in hk).2; omega
  have pn9 := (pn.ext e7).chg sc9.1 fun k hk f => by have f : k = wh := f; have := zn k hk; omega
  have hl8 : (wCells t0 t1 r0 r1 rest).length = 8 := by simp [hrest]
  refine s_tag (s_cast0 (wp_grd rfl (wp_grd rfl (s_setArr (.pointer (tP t)) o9 (by omega) hi2 rfl fun h10 o10 u10 => wp_grd rfl (wp_grd rfl (s_setArr (.pointer (rP r)) o10 (by rw [List.length_set]; omega) hi2 rfl fun h11 o11 u11 => ?_))))))
  have c911 : Chg W h9 h11 := (upd_chg u10).trans (upd_chg u11) fun _ _ f => f
  have c11 := c9.trans c911 fun _ _ f => f
  have pa11 := pa9.chg c911 fun k hk f => by have f : k = wb := f; have := (pa.in hk).1; omega
  have pb11 := pb9.chg c911 fun k hk f => by have f : k = wb := f; have := (pb.in hk).1; omega
  have pn11 := pn9.chg c911 fun k hk f => by have f : k = wb := f; have := (pn.in hk).1; omega
  rw [add_ok (by omega) (by omega)]
  have znew : ∀ k, pZ t r k → h2.size ≤ k := fun k hk => by have := zn k hk; omega
  rcases (by omega : i = 0 ∨ i = 1) with rfl | rfl
  ·obtain ⟨h1n, h2n⟩ := hno (by omega)
   subst h1n; subst h2n
   refine s_ret ⟨fun _ => ⟨(1, t, none, r, none), (((0 : Nat) : Int) + 1, ()), rfl, ⟨by dsimp only; omega, by dsimp only; omega, c11, o11, pn11, trivial, fun k _ hk => ?_, yn, yb, fun _ => ⟨rfl, rfl⟩⟩, by dsimp only; omega⟩, fun hh => absurd rfl hh⟩
   rcases hk with ⟨T, hT, _⟩ | ⟨R, hR, _⟩
   ·cases hT
   ·cases hR
  ·refine s_ret ⟨fun _ => ⟨(2, t0, t, r0, r), (((1 : Nat) : Int) + 1, ()), rfl, ⟨by dsimp only; omega, by dsimp only; omega, c11, o11, pa11, pn11, fun k hk hk2 => ?_, ya, yn, fun h => (by dsimp only at h; omega)⟩, by dsimp only; omega⟩, fun hh => absurd rfl hh⟩
   have := (pa.in hk).2; have := znew k hk2; omega
 ·rintro tag vs h2 ⟨rfl, rfl, c2, t0, t1, r0, r1, o2, pa, pb, far, ya, yb⟩
  exact s_tag (s_cast0 (s_ret ⟨rfl, rfl, Chg.pre e1 c2, t0, t1, r0, r1, o2, pa, pb, far, ya, yb⟩))
end Go.Sw.Piece

set_option linter.unusedVariables false
set_option linter.unusedSimpArgs false
set_option maxRecDepth 100000
namespace Go.Sw.Piece
open Go.Sw.Any Go.Sw.Codec
open Go.Sw.Tree (iv s_putAll s_newP s_getP s_getT s_putP eqI_self Placed cell_own wp_whileG minI_eq)
variable {P : Program} {S : Ids} {h : Heap} {Q : Nat → List Value → Heap → Prop}
theorem PairR.few {n : Nat} {T : TX} {R : RX} (pr : PairR S n h T R) : R.E.length ≤ 65536 := by
 have h1 := (toksL_le (enc := T.enc) pr.t.cur.bytes).1
 have h2 := pr.sm; have h3 := pr.t.lim.2
 rw [pr.E, els_len]; omega
theorem c_look (M : Meth0 P S) (C : Cl P S) {n m wb i : Nat} {T : TX} {R : RX} {vs : List Value} (pr : PairR S n h T R) (o : Own m 1 h ⟨some (at0 wb), 8, 8⟩ vs) (hi : i < 2) (hp : vs[0 + i]? = some (.pointer (some T.p))) (hr : vs[2 + i]? = some (.pointer (some (at0 R.b)))) :
  Gives P (F_world_look S (some (at0 wb)) (i : Int)) [.one .bool] h fun (y : Bool × Unit) _ => y.1 = true := by
 unfold F_world_look Gives
 have few := pr.few
 have lla := pr.r.cur.1.len
 rw [List.length_map] at lla
 dsimp only at lla
 refine wp_grd rfl (wp_grd rfl (s_arr (b := .ptr) (some T.p) o.cells hp hi (wp_grd rfl (wp_grd rfl (s_arr (b := .ptr) (some (at0 R.b)) o.cells hr hi (wp_grd rfl (wp_grd rfl (s_cell (b := .sl) R.sa rfl pr.r.ob.cells rfl ?_))))))))
 have hEl : (els T.enc T.cur.ps).length = R.E.length := by rw [pr.E]
 refine bind_bool False ?_ fun bb h1 e1 hb1 => wp_ifB (fun hx => (hb1.1 hx).elim) fun _ => ?_
 ·refine wp_grd rfl (wp_grd rfl (s_cell (b := .int .i64) R.enc rfl pr.r.ob.cells rfl (wp_call (c_Enc pr.t) fun ⟨(z : Int), _⟩ h1 e1 hz => ?_)))
  have hz : z = T.enc := hz
  subst hz
  have r1 := pr.r.ext e1
  refine s_ckC (cells_iff.1 r1.ob.cells 0 _ rfl) (s_neF pr.enc.symm (wp_call (c_Len (pr.t.ext e1)) fun ⟨(z : Int), _⟩ h2 e2 hz => ?_))
  have hz : z = (els T.enc T.cur.ps).length := hz
  subst hz
  refine s_neF (by rw [natI_def, lla, hEl]) (wp_call (Piece.c_Size ((pr.t.ext e1).ext e2)) fun ⟨(z : Int), _⟩ h3 e3 hz => wp_call (c_refSize ((r1.ext e2).ext e3) (by omega)) fun ⟨(z2 : Int), _⟩ h4 e4 hz2 => s_ret ⟨rfl, ((e1.trans e2).trans e3).trans e4, _, rfl, ?_⟩)
  have hz : z = (bytesL T.cur.ps).length := hz
  have hz2 : z2 = blen R.enc R.E := hz2
  rw [neI_iff, hz, hz2, pr.enc, pr.E, blen_state pr.t.cur pr.t.enc]
  exact Iff.intro (fun h => h rfl) False.elim
 have t1 := pr.t.ext e1
 have r1 := pr.r.ext e1
 have hfit : fitsI .i64 (natI R.sa.len) := by rw [natI_def, lla]; exact fits_i64.2 (by omega)
 have hcut : cutL (els T.enc T.cur.ps) 0 (natI R.sa.len) = els T.enc T.cur.ps := by
  have := cutL_all (els T.enc T.cur.ps)
  rw [natI_def, lla, ← hEl]; exact this
 refine bind_bool True ?_ fun bb h2 e2 hb2 => s_ret ⟨rfl, e1.trans e2, (bb, ()), rfl, hb2.2 trivial⟩
 refine wp_grd rfl (wp_grd rfl (s_cell (b := .sl) R.sa rfl r1.ob.cells rfl (wp_call (c_Atoms M C (from_ := Int.ofNat 0) t1 hfit) fun ⟨(sa : Sl), _⟩ h2 e2 oa => ?_)))
 have oa : OwnL h1.size .i64 h2 sa ((cutL (els T.enc T.cur.ps) 0 (natI R.sa.len)).map (·.1)) := oa
 rw [hcut] at oa
 have t2 := t1.ext e2; have r2 := r1.ext e2
 have ra := r2.cur.1
 dsimp only at ra
 rw [pr.E] at ra
 refine s_ckC (cells_iff.1 r2.ob.cells 2 _ rfl) (wp_call (c_same5I oa.lst ra.lst) fun ⟨(b2 : Bool), _⟩ h3 e3 hb3 => ?_)
 have hb3 : b2 = decide ((els T.enc T.cur.ps).map (fun x : El => x.1) = (els T.enc T.cur.ps).map fun x : El => x.1) := hb3
 rw [decide_eq_true rfl] at hb3
 subst hb3
 have t3 := t2.ext e3; have r3 := r2.ext e3
 refine s_ifT (wp_grd rfl (wp_grd rfl (s_cell (b := .sl) R.st rfl r3.ob.cells rfl (wp_call (c_Tags M C (from_ := Int.ofNat 0) t3 hfit) fun ⟨(st : Sl), _⟩ h4 e4 ot => ?_))))
 have ot : OwnL h3.size .i64 h4 st ((cutL (els T.enc T.cur.ps) 0 (natI R.sa.len)).map (·.2)) := ot
 rw [hcut] at ot
 have t4 := t3.ext e4; have r4 := r3.ext e4
 have rt := r4.cur.2
 dsimp only at rt
 rw [pr.E] at rt
 refine s_ckC (cells_iff.1 r4.ob.cells 3 _ rfl) (wp_call (c_same5I ot.lst rt.lst) fun ⟨(b3 : Bool), _⟩ h5 e5 hb5 => ?_)
 have hb5 : b3 = decide ((els T.enc T.cur.ps).map (fun x : El => x.2) = (els T.enc T.cur.ps).map fun x : El => x.2) := hb5
 rw [decide_eq_true rfl] at hb5
 subst hb5
 have t5 := t4.ext e5; have r5 := r4.ext e5
 refine s_ifT (wp_call (c_Bytes C t5) fun ⟨(sb : Sl), _⟩ h6 e6 ob => wp_call (c_refBytes (r5.ext e6) (by omega)) fun ⟨(sc : Sl), _⟩ h7 e7 oc => ?_)
 have ob : OwnL h5.size .u8 h6 sb (bytesL T.cur.ps) := ob
 have oc : OwnL h6.size .u8 h7 sc ((R.E.map (·.1)).flatMap (putF R.enc)) := oc
 rw [(els_facts t5.cur t5.enc).1] at ob
 rw [pr.E, pr.enc] at oc
 refine wp_call (c_same5B (ob.ext e7).lst oc.lst) fun ⟨(b4 : Bool), _⟩ h8 e8 hb8 => s_ret ⟨rfl, ((((((e2.trans e3).trans e4).trans e5).trans e6).trans e7).trans e8), _, rfl, ?_⟩
 have hb8 : b4 = decide (_ = _) := hb8
 rw [decide_eq_true rfl] at hb8
 rw [hb8]
 exact Iff.intro (fun _ => trivial) fun _ => rfl
end Go.Sw.Piece

set_option linter.unusedVariables false
set_option linter.unusedSimpArgs false
set_option maxRecDepth 100000
namespace Go.Sw.Piece
open Go.Sw.Any Go.Sw.Codec
open Go.Sw.Tree (iv s_putAll s_newP s_getP s_getT s_putP eqI_self Placed cell_own wp_whileG minI_eq)
variable {P : Program} {S : Ids} {h : Heap} {Q : Nat → List Value → Heap → Prop}
def isE (A : List Int) (i : Nat) : Bool := decide (A.getD i 0 = 10 ∨ (A.getD i 0 = 13 ∧ A.getD (i + 1) 0 ≠ 10))
def cntE (A : List Int) : Nat → Nat
 | 0 => 0
 | n + 1 => cntE A n + if isE A n = true then 1 else 0
theorem cntE_succ (A : List Int) (n : Nat) : cntE A (n + 1) = cntE A n + if isE A n = true then 1 else 0 := rfl
def seam (A : List Int) (n : Nat) : Nat := if 1 ≤ n ∧ A.getD (n - 1) 0 = 13 ∧ A.getD n 0 = 10 then 1 else 0
theorem cntE_mono (A : List Int) {m n : Nat} (h : m ≤ n) : cntE A m ≤ cntE A n := by
 induction n with
 | zero => rw [show m = 0 by omega]; exact Nat.le_refl _
 | succ n ih =>
  by_cases e : m = n + 1
  ·rw [e]; exact Nat.le_refl _
  ·have := ih (by omega); rw [cntE_succ]; omega
theorem getD_end {A : List Int} {i : Nat} (h : A.length ≤ i) : A.getD i 0 = 0 := by rw [List.getD_eq_getElem?_getD, List.getElem?_eq_none h]; rfl
theorem cntE_le (A : List Int) (n : Nat) : cntE A n ≤ n := by
 induction n with
 | zero => exact Nat.le_refl _
 | succ n ih => rw [cntE_succ]; split <;> omega
theorem seam_end (A : List Int) : seam A A.length = 0 := by unfold seam; rw [getD_end (Nat.le_refl _), if_neg (by omega)]
abbrev rawE (A : List Int) (n : Nat) : Nat := cntE A n + seam A n
theorem rawE_succ (A : List Int) (n : Nat) : rawE A (n + 1) = cntE A n + if A.getD n 0 = 10 ∨ A.getD n 0 = 13 then 1 else 0 := by
 unfold rawE seam
 rw [cntE_succ, Nat.add_sub_cancel]
 unfold isE
 generalize A.getD n 0 = a
 generalize A.getD (n + 1) 0 = b
 by_cases h1 : a = 10
 ·subst h1; simp
 ·by_cases h2 : a = 13
  ·subst h2
   by_cases h3 : b = 10 <;> simp [h3]
  ·simp [h1, h2]
theorem raw_is {ts : List (Int × Int)} : ∀ n, n ≤ ts.length → (sumT (ts.take n)).2.2.1 = rawE (ts.map (·.1)) n ∧ (sumT (ts.take n)).2.2.2.2.1 = decide (1 ≤ n ∧ (ts.map (·.1)).getD (n - 1) 0 = 13) ∧ (sumT (ts.take n)).1 = n
 | 0, _ => ⟨rfl, by simp; rfl, rfl⟩
 | n + 1, hn => by
  obtain ⟨i1, i2, i3⟩ := raw_is (ts := ts) n (by omega)
  obtain ⟨t, ht⟩ : ∃ t, ts[n]? = some t := ⟨ts[n]'(by omega), List.getElem?_eq_getElem (by omega)⟩
  have htk : ts.take (n + 1) = ts.take n ++ [t] := by rw [List.take_add_one, ht]; rfl
  have ha : (ts.map (·.1)).getD n 0 = t.1 := by rw [List.getD_eq_getElem?_getD, List.getElem?_map, ht]; rfl
  rw [htk, sumT_snoc, rawE_succ, ha]
  generalize sumT (ts.take n) = s at i1 i2 i3
  unfold addS
  by_cases h0 : n = 0
  ·subst h0
   have i3 : s.1 = 0 := i3
   rw [if_pos i3]
   refine ⟨?_, ?_, rfl⟩
   ·show (if t.1 = 10 ∨ t.1 = 13 then (1 : Int) else 0) = _
    by_cases h : t.1 = 10 ∨ t.1 = 13
    ·rw [if_pos h, if_pos h]; rfl
    ·rw [if_neg h, if_neg h]; rfl
   ·show decide (t.1 = 13) = _
    rw [Nat.add_sub_cancel, ha]; simp
  ·rw [if_neg (by omega), if_neg (show (oneS t).1 ≠ 0 by show (1 : Int) ≠ 0; decide)]
   refine ⟨?_, ?_, by show s.1 + 1 = _; omega⟩
   ·show s.2.2.1 + (if t.1 = 10 ∨ t.1 = 13 then (1 : Int) else 0) - brk s (oneS t) = _
    have hbr : brk s (oneS t) = (seam (ts.map (·.1)) n : Int) := by
     unfold brk seam
     rw [i2, ha]
     show (if decide (1 ≤ n ∧ (ts.map (·.1)).getD (n - 1) 0 = 13) = true ∧ decide (t.1 = 10) = true then (1 : Int) else 0) = _
     by_cases h : 1 ≤ n ∧ (ts.map (·.1)).getD (n - 1) 0 = 13 ∧ t.1 = 10
     ·rw [if_pos h, if_pos ⟨decide_eq_true ⟨h.1, h.2.1⟩, decide_eq_true h.2.2⟩]; rfl
     ·rw [if_neg h, if_neg (fun k => h ⟨(of_decide_eq_true k.1).1, (of_decide_eq_true k.1).2, of_decide_eq_true k.2⟩)]; rfl
    rw [hbr, i1]
    unfold rawE
    by_cases h : t.1 = 10 ∨ t.1 = 13
    ·rw [if_pos h, if_pos h]; omega
    ·rw [if_neg h, if_neg h]; omega
   ·show decide (t.1 = 13) = _
    rw [Nat.add_sub_cancel, ha]; simp
def SeekP (A : List Int) (k : Int) (y : Int) : Prop := ∃ m : Nat, y = m ∧ 1 ≤ m ∧ m ≤ A.length ∧ (cntE A m : Int) = k ∧ (cntE A (m - 1) : Int) + 1 = k
theorem SeekP.fn {A : List Int} {k y y' : Int} (h : SeekP A k y) (h' : SeekP A k y') : y = y' := by
 obtain ⟨m, rfl, a, b, c, d⟩ := h
 obtain ⟨m', rfl, a', b', c', d'⟩ := h'
 by_cases h1 : m < m'
 ·have := cntE_mono A (m := m) (n := m' - 1) (by omega); omega
 ·by_cases h2 : m' < m
  ·have := cntE_mono A (m := m') (n := m - 1) (by omega); omega
  ·omega
theorem seek_fin {A : List Int} {k : Int} {n : Nat} (h1 : 1 ≤ n) (hn : n ≤ A.length) (hk : k ≤ rawE A n) (hlt : (rawE A (n - 1) : Int) < k) : SeekP A k (if A.getD (n - 1) 0 = 13 ∧ A.getD n 0 = 10 then (n : Int) + 1 else n) := by
 obtain ⟨q, rfl⟩ : ∃ q, n = q + 1 := ⟨n - 1, by omega⟩
 rw [rawE_succ] at hk
 rw [Nat.add_sub_cancel] at hlt ⊢
 unfold rawE at hlt
 have hin : A.getD q 0 = 10 ∨ A.getD q 0 = 13 := by
  by_cases h : A.getD q 0 = 10 ∨ A.getD q 0 = 13
  ·exact h
  ·rw [if_neg h] at hk; omega
 rw [if_pos hin] at hk
 have hq : (cntE A q : Int) + 1 = k := by omega
 by_cases hs : A.getD q 0 = 13 ∧ A.getD (q + 1) 0 = 10
 ·rw [if_pos hs]
  have he : isE A q = false := decide_eq_false fun h => by rcases h with h | h <;> omega
  have he2 : isE A (q + 1) = true := decide_eq_true (.inl hs.2)
  have c1 : cntE A (q + 1) = cntE A q := by rw [cntE_succ, he]; simp
  have c2 : cntE A (q + 2) = cntE A (q + 1) + 1 := by rw [cntE_succ, he2]; simp
  have hl : q + 2 ≤ A.length := by
   by_cases h : q + 1 < A.length
   ·omega
   ·have := hs.2; rw [getD_end (by omega)] at this; omega
  exact ⟨q + 2, by omega, by omega, hl, by omega, by show (cntE A (q + 1) : Int) + 1 = k; omega⟩
 ·rw [if_neg hs]
  have he : isE A q = true := by
   unfold isE
   rw [decide_eq_true_iff]
   rcases hin with h | h
   ·exact .inl h
   ·exact .inr ⟨h, fun h2 => hs ⟨h, h2⟩⟩
  have c1 : cntE A (q + 1) = cntE A q + 1 := by rw [cntE_succ, he]; simp
  exact ⟨q + 1, by omega, by omega, hn, by omega, by rw [Nat.add_sub_cancel]; exact hq⟩
theorem cut_one (E : List El) (n : Nat) (hE : E.length ≤ 1099511627776) : (cutL E (n : Int) ((n : Int) + 1)).map (fun x : El => x.1) = ((E.map (·.1)).drop n).take 1 := by
 unfold cutL
 rw [show (max (n : Int) 0).toNat = n by omega]
 by_cases h : n < E.length
 ·rw [show (min ((n : Int) + 1) (E.length : Int)).toNat = n + 1 by omega, List.drop_take, Nat.add_sub_cancel_left, List.map_take, List.map_drop]
 ·rw [List.drop_eq_nil_of_le (by rw [List.length_take]; omega), List.drop_eq_nil_of_le (by rw [List.length_map]; omega)]; rfl
theorem els_atoms (enc : Int) (ps : List Pc) : (els enc ps).map (fun x : El => x.1) = (toksL enc ps).map (·.1) := els_fst enc ps
theorem c_Breaks (M : Meth0 P S) (C : Cl P S) {n : Nat} {T : TX} {at_ : Int} (t : TextR S n h T) (hat : fitsI .i64 at_) :
  Gives P (F_Text_Breaks S (some T.p) at_) [.one (.int .i64)] h fun (y : Int × Unit) _ => y.1 = cntE ((els T.enc T.cur.ps).map (·.1)) (min (max at_ 0) (els T.enc T.cur.ps).length).toNat := by
 unfold F_Text_Breaks Gives
 have hf := t.cur.few t.lim.2
 have hEl := els_len T.enc T.cur.ps
 have hat := fits_i64.1 hat
 rw [els_atoms]
 have ri := fun n (hn : n ≤ (toksL T.enc T.cur.ps).length) => raw_is (ts := toksL T.enc T.cur.ps) n hn
 generalize hA : (toksL T.enc T.cur.ps).map (fun x : Int × Int => x.1) = A at ri ⊢
 have hAl : A.length = (els T.enc T.cur.ps).length := by rw [← hA, List.length_map, hEl]
 refine wp_ifB (fun hc => ?_) fun hc => ?_
 ·rw [leI_iff] at hc
  refine s_ret ⟨rfl, Ext.refl _, (0, ()), rfl, ?_⟩
  show (0 : Int) = _
  rw [show (min (max at_ 0) (els T.enc T.cur.ps).length).toNat = 0 by omega]; rfl
 rw [leI_not] at hc
 refine wp_call (c_Len t) fun ⟨(L : Int), _⟩ h1 e1 hL => ?_
 have hL : L = (els T.enc T.cur.ps).length := hL
 subst hL
 have t1 := t.ext e1
 refine wp_ifB (fun hd => ?_) fun hd => ?_
 ·rw [geI_iff] at hd
  dsimp only at hd
  refine s_root t1 (wp_call (c_TSum t1) fun x h2 e2 hx => s_ret ⟨rfl, e1.trans e2, (_, ()), rfl, ?_⟩)
  have hx : x.1 = _ := hx
  show x.1.2.2.1 = _
  rw [hx, show (min (max at_ 0) (els T.enc T.cur.ps).length).toNat = A.length by omega]
  have := (ri (toksL T.enc T.cur.ps).length (Nat.le_refl _)).1
  rw [List.take_length, ← hEl, ← hAl] at this
  rw [this]
  unfold rawE
  rw [seam_end]; rfl
 rw [geI_not] at hd
 dsimp only at hd
 refine wp_call (c_ahead M t1 (by omega) (by rw [← hEl]; omega)) fun ⟨(s : Sums), _⟩ h2 e2 hs => ?_
 have hs : s = sumT ((toksL T.enc T.cur.ps).take at_.toNat) := hs
 obtain ⟨r1, r2, r3⟩ := ri at_.toNat (by omega)
 rw [← hs] at r1 r2 r3
 refine s_putO (bs := SB) (z := zS) s (by decide) (flatS _) fun h3 e3 o3 => ?_
 have t3 := (t1.ext e2).ext e3
 refine bind_bool (A.getD (at_.toNat - 1) 0 = 13 ∧ A.getD at_.toNat 0 = 10) ?_ fun bb h4 e4 hb4 => ?_
 ·refine wp_load1 (b := .bool) _ s.2.2.2.2.1 rfl (cells_iff.1 o3.cells 4 _ rfl) (wp_ifB (fun hx => ?_) fun hx => ?_)
  ·rw [r2] at hx
   have hx := of_decide_eq_true hx
   have hadd : addI .i64 at_ 1 = at_ + 1 := add_ok (by omega) (by omega)
   rw [hadd]
   refine wp_call (c_Atoms M C (from_ := at_) t3 (fits_i64.2 (by omega))) fun ⟨(sa : Sl), _⟩ h4 e4 oa => ?_
   have oa : OwnL h3.size .i64 h4 sa ((cutL (els T.enc T.cur.ps) at_ (at_ + 1)).map (·.1)) := oa
   have hcut := cut_one (els T.enc T.cur.ps) at_.toNat (by omega)
   rw [show ((at_.toNat : Nat) : Int) = at_ by omega, els_atoms, hA] at hcut
   rw [hcut] at oa
   have hlt : at_.toNat < A.length := by omega
   have hone : (A.drop at_.toNat).take 1 = [A.getD at_.toNat 0] := by
    rw [List.drop_eq_getElem_cons hlt, List.getD_eq_getElem?_getD, List.getElem?_eq_getElem hlt]; rfl
   rw [hone] at oa
   dsimp only
   refine s_at0 oa.lst (n := 0) (by simp) fun _ => s_ret ⟨rfl, e4, _, rfl, ?_⟩
   show eqI (A.getD at_.toNat 0) 10 = true ↔ _
   rw [eqI_iff]
   exact ⟨fun h => ⟨hx.2, h⟩, fun h => h.2⟩
  ·rw [r2] at hx
   have hx := of_decide_eq_false hx
   exact s_ret ⟨rfl, Ext.refl _, false, rfl, Iff.intro (fun h => by cases h) fun h => absurd ⟨by omega, h.1⟩ hx⟩
 have o4 := o3.ext e4
 have e04 := ((e1.trans e2).trans e3).trans e4
 have hmin : (min (max at_ 0) (els T.enc T.cur.ps).length).toNat = at_.toNat := by omega
 rw [hmin]
 have hcl := cntE_le A at_.toNat
 refine wp_ifB (fun hx => ?_) fun hx => ?_
 ·have hx := hb4.1 hx
  have hs1 : seam A at_.toNat = 1 := by unfold seam; rw [if_pos ⟨by omega, hx⟩]
  refine wp_load1 (b := .int .i64) _ s.2.2.1 rfl (cells_iff.1 o4.cells 2 _ rfl) ?_
  rw [r1]
  unfold rawE
  rw [hs1, sub_ok (by omega) (by omega)]
  exact s_ret ⟨rfl, e04, (_, ()), rfl, by show (((cntE A at_.toNat + 1 : Nat) : Int) - 1) = _; omega⟩
 ·have hx : ¬ (A.getD (at_.toNat - 1) 0 = 13 ∧ A.getD at_.toNat 0 = 10) := fun h => by rw [hb4.2 h] at hx; cases hx
  have hs1 : seam A at_.toNat = 0 := by unfold seam; rw [if_neg fun h => hx h.2]
  refine wp_load1 (b := .int .i64) _ s.2.2.1 rfl (cells_iff.1 o4.cells 2 _ rfl) (s_ret ⟨rfl, e04, (_, ()), rfl, ?_⟩)
  show s.2.2.1 = _
  rw [r1]; unfold rawE; rw [hs1]; rfl
theorem c_Seek (M : Meth0 P S) (C : Cl P S) {n : Nat} {T : TX} {k : Int} (t : TextR S n h T) :
  Gives P (F_Text_Seek S (some T.p) k) [.one (.int .i64)] h fun (y : Int × Unit) _ => (k = 0 → y.1 = 0) ∧ ((k < 0 ∨ (cntE ((els T.enc T.cur.ps).map (·.1)) (els T.enc T.cur.ps).length : Int) < k) → y.1 = -1) ∧ (0 < k → k ≤ cntE ((els T.enc T.cur.ps).map (·.1)) (els T.enc T.cur.ps).length → SeekP ((els T.enc T.cur.ps).map (·.1)) k y.1) := by
 unfold F_Text_Seek Gives
 have hf := t.cur.few t.lim.2
 have hEl := els_len T.enc T.cur.ps
 rw [els_atoms]
 have ri := fun n (hn : n ≤ (toksL T.enc T.cur.ps).length) => raw_is (ts := toksL T.enc T.cur.ps) n hn
 have okt : okT (toksL T.enc T.cur.ps) := okT_toksL t.cur.bytes
 generalize hA : (toksL T.enc T.cur.ps).map (fun x : Int × Int => x.1) = A at ri ⊢
 have hAl : A.length = (toksL T.enc T.cur.ps).length := by rw [← hA, List.length_map]
 have hAE : (els T.enc T.cur.ps).length = A.length := by rw [hEl, hAl]
 rw [hAE]
 have hcnt := cntE_le A A.length
 refine wp_ifB (fun hc => ?_) fun hc => ?_
 ·rw [eqI_iff] at hc
  exact s_ret ⟨rfl, Ext.refl _, (0, ()), rfl, fun _ => rfl, fun h => by omega, fun h => by omega⟩
 rw [eqI_not] at hc
 have O := part_ok S T.Z (P := P)
 have hrl : ((sumT (toksL T.enc T.cur.ps)).2.2.1 : Int) = cntE A A.length := by
  have := (ri (toksL T.enc T.cur.ps).length (Nat.le_refl _)).1
  rw [List.take_length, ← hAl] at this
  rw [this]; unfold rawE; rw [seam_end]; rfl
 refine bind_bool (k < 0 ∨ (cntE A A.length : Int) < k) ?_ fun bb h1 e1 hb1 => wp_ifB (fun hx => ?_) fun hx => ?_
 ·refine wp_ifB (fun hd => s_ret ⟨rfl, Ext.refl _, true, rfl, Iff.intro (fun _ => .inl (ltI_iff.1 hd)) fun _ => rfl⟩) fun hd => s_root t (wp_call (c_TSum t) fun x h1 e1 hx => s_ret ⟨rfl, e1, _, rfl, ?_⟩)
  rw [ltI_not] at hd
  have hx : x.1 = _ := hx
  rw [gtI_iff, hx, hrl]
  omega
 ·have := hb1.1 hx
  exact s_ret ⟨rfl, e1, (-1, ()), rfl, fun h => absurd h hc, fun _ => rfl, fun h h2 => by omega⟩
 have hk : 0 < k ∧ k ≤ (cntE A A.length : Int) := by
  have : ¬ (k < 0 ∨ (cntE A A.length : Int) < k) := fun h => by rw [hb1.2 h] at hx; cases hx
  omega
 have t1 := t.ext e1
 refine s_root t1 (wp_call (R := fun (x : Int × Unit) _ => Any.Found (part S T.Z) T.cur.t.list (Int.ofNat 1) k x.1) (c_Find O t1.cur.nd t1.cur.wf (t1.cur.room t1.lim.2)) fun ⟨(f : Int), _⟩ h2 e2 hx => ?_)
 have t2 := t1.ext e2
 have hlenP : T.cur.t.list.length = T.cur.ps.length := by rw [t.cur.ls, List.length_map]
 have key : ∀ i, keyS (sumPs (T.cur.t.list.take i)) (Int.ofNat 1) = rawE A (toksL T.enc (T.cur.ps.take i)).length := fun i => by
  rw [t.cur.ls, ← List.map_take, sum_ps fun q hq => t.cur.pcs q (List.mem_of_mem_take hq)]
  have hpre : toksL T.enc (T.cur.ps.take i) = (toksL T.enc T.cur.ps).take (toksL T.enc (T.cur.ps.take i)).length := by
   have : toksL T.enc T.cur.ps = toksL T.enc (T.cur.ps.take i) ++ toksL T.enc (T.cur.ps.drop i) := by unfold toksL; rw [← List.flatMap_append, List.take_append_drop]
   rw [this, List.take_left' rfl]
  have h1 := (ri _ (toksL_take_le T.cur.ps i)).1
  rw [← hpre] at h1
  exact h1
 have hx : (f = 0 ∧ k ≤ 0) ∨ (1 ≤ f ∧ f ≤ T.cur.t.list.length ∧ k ≤ keyS (sumPs (T.cur.t.list.take f.toNat)) (Int.ofNat 1) ∧ keyS (sumPs (T.cur.t.list.take (f.toNat - 1))) (Int.ofNat 1) < k) ∨ (f = T.cur.t.list.length + 1 ∧ keyS (sumPs T.cur.t.list) (Int.ofNat 1) < k) := hx
 have kall : keyS (sumPs T.cur.t.list) (Int.ofNat 1) = cntE A A.length := by
  have := key T.cur.ps.length
  rw [List.take_of_length_le (by omega), List.take_of_length_le (Nat.le_refl _), ← hAl] at this
  rw [this]; unfold rawE; rw [seam_end]; rfl
 rw [key, key, kall, hlenP] at hx
 obtain ⟨f1, f2, f3, f4⟩ : 1 ≤ f ∧ f ≤ T.cur.ps.length ∧ k ≤ rawE A (toksL T.enc (T.cur.ps.take f.toNat)).length ∧ (rawE A (toksL T.enc (T.cur.ps.take (f.toNat - 1))).length : Int) < k := by
  rcases hx with h | h | h
  ·omega
  ·exact h
  ·omega
 obtain ⟨i, rfl⟩ : ∃ i : Nat, f = (i : Int) + 1 := ⟨f.toNat - 1, by omega⟩
 rw [show ((i : Int) + 1).toNat = i + 1 by omega] at f3 f4
 rw [Nat.add_sub_cancel] at f4
 have hil : i < T.cur.ps.length := by omega
 obtain ⟨q, hq⟩ : ∃ q, T.cur.ps[i]? = some q := ⟨T.cur.ps[i]'hil, List.getElem?_eq_getElem hil⟩
 have hqm := List.mem_of_getElem? hq
 have hpsl : T.cur.ps.length ≤ 1099511627776 := by
  have h1 := W_len O T.cur.t.list; have h2 := Nat.le_trans h1 hf.2; rw [← hlenP]; exact h2
 have hsub : subI .i64 ((i : Int) + 1) 1 = (i : Int) := by rw [sub_ok (by omega) (by omega)]; omega
 dsimp only
 rw [hsub]
 refine s_root t2 (wp_call (R := fun (x : Sums × Unit) _ => x.1 = sumPs (T.cur.t.list.take ((i : Int)).toNat)) (c_Upto' O t2.cur.nd t2.cur.wf (t2.cur.room t2.lim.2)) fun ⟨(s : Sums), _⟩ h3 e3 hs => ?_)
 have hs : s = sumT (toksL T.enc (T.cur.ps.take i)) := by
  have hs : s = _ := hs
  rw [hs, Int.toNat_natCast, t.cur.ls, ← List.map_take, sum_ps fun q hq => t.cur.pcs q (List.mem_of_mem_take hq)]
 subst hs
 dsimp only
 refine s_putO (bs := SB) (z := zS) (sumT (toksL T.enc (T.cur.ps.take i))) (by decide) (flatS _) fun h4 e4 o4 => ?_
 have t4 := (t2.ext e3).ext e4
 have hx4 : T.cur.t.list[((i : Int)).toNat]? = some q.1 := by rw [Int.toNat_natCast, t.cur.ls, List.getElem?_map, hq]; rfl
 refine s_root t4 (wp_call (R := fun (y : Part × Bool × Unit) _ => y.1 = q.1 ∧ y.2.1 = true) (c_At O t4.cur.nd t4.cur.wf (Nat.le_of_lt (t4.cur.room t4.lim.2)) (by omega) hx4) fun ⟨(y : Part), (ok : Bool), _⟩ h5 e5 ⟨hy, hok⟩ => ?_)
 have hy : y = q.1 := hy
 subst hy
 dsimp only
 refine s_newO (bs := PB) zP (by decide) fun h6 e6 o6 => s_stoO (bs := PB) q.1 o6 (flatP _) fun h7 o7 u7 => ?_
 have e57 : Ext h4 h7 := Upd.extN (e5.trans e6) u7 (by intro x hx; cases hx; have := e5.size; dsimp only; omega)
 have t7 := t4.ext e57
 have q34 : h3.size < h4.size := (o4.lt rfl).2
 have o47 : Own h3.size 1 h7 ⟨some ⟨h3.size, 0, none⟩, 5, 5⟩ (Bs.inj SB (sumT (toksL T.enc (T.cur.ps.take i)))) := o4.ext e57
 have e07 := (((e1.trans e2).trans e3).trans e4).trans e57
 have pc := t7.cur.pcs q hqm
 generalize hn0 : (toksL T.enc (T.cur.ps.take i)).length = n0 at f4
 have hsucc := toksL_succ (enc := T.enc) hq
 have hn1 : (toksL T.enc (T.cur.ps.take (i + 1))).length = n0 + (toks T.enc q.2).length := by rw [hsucc, List.length_append, hn0]
 rw [hn1] at f3
 have hall : toksL T.enc T.cur.ps = toksL T.enc (T.cur.ps.take i) ++ (toks T.enc q.2 ++ toksL T.enc (T.cur.ps.drop (i + 1))) := by
  rw [← List.append_assoc, ← hsucc]
  unfold toksL; rw [← List.flatMap_append, List.take_append_drop]
 have hle1 : n0 + (toks T.enc q.2).length ≤ (toksL T.enc T.cur.ps).length := by rw [hall, List.length_append, List.length_append, hn0]; omega
 have htk : ∀ j, j ≤ (toks T.enc q.2).length → (toksL T.enc T.cur.ps).take (n0 + j) = toksL T.enc (T.cur.ps.take i) ++ (toks T.enc q.2).take j := fun j hj => by
  rw [hall, List.take_append, List.take_of_length_le (by omega), hn0, Nat.add_sub_cancel_left, List.take_append_of_le_length hj]
 have hby : isBytes q.2 := pc.bytes
 have tl := toks_len (enc := T.enc) hby
 have hof := toks_offs (enc := T.enc) hby
 have hqlen := pc.lst.len
 have hqle := pc.len
 refine wp_whileG (G := Nat) (fun j (r : Int × Unit) h' => j ≤ (toks T.enc q.2).length ∧ r.1 = offs ((toks T.enc q.2).take j) ∧ (1 ≤ j → (rawE A (n0 + j - 1) : Int) < k) ∧ Ext h3 h' ∧ Ext h h' ∧ TextR S n h' T ∧ Own h3.size 1 h' ⟨some ⟨h3.size, 0, none⟩, 5, 5⟩ (Bs.inj SB (sumT ((toksL T.enc T.cur.ps).take (n0 + j)))) ∧ Own h5.size 1 h' ⟨some ⟨h5.size, 0, none⟩, 7, 7⟩ (Bs.inj PB q.1)) (fun j => (toks T.enc q.2).length - j)
  (fun tag vs h' => tag = 3 ∧ vs = [] ∧ ∃ N : Nat, 1 ≤ N ∧ N ≤ (toksL T.enc T.cur.ps).length ∧ k ≤ rawE A N ∧ (rawE A (N - 1) : Int) < k ∧ Ext h h' ∧ TextR S n h' T ∧ Own h3.size 1 h' ⟨some ⟨h3.size, 0, none⟩, 5, 5⟩ (Bs.inj SB (sumT ((toksL T.enc T.cur.ps).take N))))
  0 ⟨Nat.zero_le _, rfl, fun h => by omega, e4.trans e57, e07, t7, by rw [htk 0 (Nat.zero_le _), List.take_zero, List.append_nil]; exact o47, o7⟩ ?_ ?_
 ·rintro j ⟨(r : Int), u⟩ h8 ⟨hj, hr, hprev, e8, e08, t8, o8, p8⟩
  dsimp only at hr ⊢
  subst hr
  obtain ⟨rj1, rj2, rj3⟩ := ri (n0 + j) (by omega)
  have hto := toks_at (enc := T.enc) hby j hj
  have hsp : offs (toks T.enc q.2) = offs ((toks T.enc q.2).take j) + offs ((toks T.enc q.2).drop j) := by rw [← offs_append, List.take_append_drop]
  refine bind_bool (offs ((toks T.enc q.2).take j) < q.2.length ∧ (rawE A (n0 + j) : Int) < k) ?_ fun bb h9 e9 hb9 => wp_ifB (fun hx => ?_) fun hx => ?_
  ·refine wp_load1 (b := .sl) _ q.1.1 rfl (cells_iff.1 p8.cells 0 _ rfl) (wp_ifB (fun hd => ?_) fun hd => s_ret ⟨rfl, Ext.refl _, false, rfl, Iff.intro (fun h => by cases h) fun h => ?_⟩)
   ·rw [ltI_iff, natI_def, hqlen] at hd
    refine wp_load1 (b := .int .i64) _ _ rfl (cells_iff.1 o8.cells 2 _ rfl) (s_ret ⟨rfl, Ext.refl _, _, rfl, ?_⟩)
    rw [ltI_iff, rj1]
    exact ⟨fun h => ⟨by omega, h⟩, fun h => h.2⟩
   ·rw [ltI_not, natI_def, hqlen] at hd
    omega
  ·obtain ⟨c1, c2⟩ := hb9.1 hx
   have t9 := t8.ext e9
   have o9 := o8.ext e9; have p9 := p8.ext e9
   have hjl : j < (toks T.enc q.2).length := by
    by_cases h : j < (toks T.enc q.2).length
    ·exact h
    ·rw [List.drop_eq_nil_of_le (by omega), offs_nil] at hsp; omega
   obtain ⟨tt, htt⟩ : ∃ tt, (toks T.enc q.2)[j]? = some tt := ⟨(toks T.enc q.2)[j]'hjl, List.getElem?_eq_getElem hjl⟩
   have hdl : 0 < (q.2.drop (offs ((toks T.enc q.2).take j))).length := by rw [List.length_drop]; omega
   have hft : firstF T.enc (q.2.drop (offs ((toks T.enc q.2).take j))) = tt := by
    have h1 := toks_cons (enc := T.enc) (hby.drop (offs ((toks T.enc q.2).take j))) hdl
    rw [hto.2, List.drop_eq_getElem_cons hjl, (List.getElem?_eq_some_iff.1 htt).2] at h1
    exact (List.cons.inj h1).1.symm
   have hts := toks_size (enc := T.enc) hby tt (List.mem_of_getElem? htt)
   have hoff : offs ((toks T.enc q.2).take (j + 1)) = offs ((toks T.enc q.2).take j) + tt.2.toNat := by rw [List.take_add_one, htt, offs_append]; simp [offs]
   have hsn : (toksL T.enc T.cur.ps).take (n0 + (j + 1)) = (toksL T.enc T.cur.ps).take (n0 + j) ++ [tt] := by
    rw [htk (j + 1) hjl, htk j hj, List.append_assoc]; congr 1
    rw [List.take_add_one, htt]; rfl
   refine s_enc t9 (wp_load1 (b := .sl) _ q.1.1 rfl (cells_iff.1 p9.cells 0 _ rfl) (wp_call (c_Next M (t9.cur.pcs q hqm).lst) fun ⟨(y1 : Int), (y2 : Int), _⟩ h10 e10 hy => ?_))
   have hy : y1 = tt.1 ∧ y2 = tt.2 := by
    rcases hy with ⟨hn, _, _⟩ | ⟨_, _, _, hy⟩
    ·rcases hn with h | h | h
     ·exact absurd t.enc h
     ·omega
     ·omega
    ·rw [Int.toNat_natCast, hft] at hy
     exact ⟨congrArg Prod.fst hy, congrArg Prod.snd hy⟩
   obtain ⟨rfl, rfl⟩ := hy
   dsimp only
   refine s_getO (bs := SB) (o9.ext e10) (wp_call c_single fun ⟨(o : Sums), _⟩ h11 e11 ho => ?_)
   have ho : o = oneS (tt.1, tt.2) := ho
   subst ho
   dsimp only
   refine s_ckO (bs := SB) ((o9.ext e10).ext e11) (wp_call (c_Add (VS.sumT (okt.take (n0 + j))) (VS.one hts) (by rw [List.length_take]; omega)) fun ⟨(o : Sums), _⟩ h12 e12 ho => ?_)
   have ho : o = _ := ho
   subst ho
   have e812 := ((e9.trans e10).trans e11).trans e12
   refine s_stoO (bs := SB) (addS (sumT ((toksL T.enc T.cur.ps).take (n0 + j))) (oneS (tt.1, tt.2))) (o8.ext e812) (flatS _) fun h13 o13 u13 => ?_
   have c13 : Chg (fun i => i = h3.size) h12 h13 := upd_chg u13
   have e813 : Ext h3 h13 := Upd.extN (e8.trans e812) u13 (by intro z hz; cases hz; exact Nat.le_refl _)
   have q03 : h.size ≤ h3.size := ((e1.trans e2).trans e3).size
   have e013 : Ext h h13 := Upd.extN (e08.trans e812) u13 (by intro z hz; cases hz; exact q03)
   have nz : ∀ i, T.Z i → i < h3.size := fun i hi => by have := (t.lo i hi).2; omega
   have t13 := (t8.ext e812).chg c13 fun i hi (f : i = h3.size) => by have := nz i hi; omega
   have p13 := ob_upd (p8.ext e812) u13 (by have : h3.size < h4.size := q34; have := e5.size; show h3.size ≠ h5.size; omega)
   rw [← sumT_snoc, ← hsn] at o13
   rw [add_ok (by omega) (by omega)]
   exact s_ret ⟨fun _ => ⟨j + 1, (((offs ((toks T.enc q.2).take j) : Nat) : Int) + tt.2, ()), rfl, ⟨hjl, by dsimp only; omega, fun _ => by rw [show n0 + (j + 1) - 1 = n0 + j by omega]; exact c2, e813, e013, t13, o13, p13⟩, by omega⟩, fun hh => absurd rfl hh⟩
  ·have hno : ¬ (offs ((toks T.enc q.2).take j) < q.2.length ∧ (rawE A (n0 + j) : Int) < k) := fun h => by rw [hb9.2 h] at hx; cases hx
   have hge : k ≤ rawE A (n0 + j) := by
    by_cases h : (rawE A (n0 + j) : Int) < k
    ·have h2 : ¬ offs ((toks T.enc q.2).take j) < q.2.length := fun h3 => hno ⟨h3, h⟩
     have hjl : j = (toks T.enc q.2).length := by
      by_cases h4 : j < (toks T.enc q.2).length
      ·obtain ⟨tt, htt⟩ : ∃ tt, (toks T.enc q.2)[j]? = some tt := ⟨(toks T.enc q.2)[j]'h4, List.getElem?_eq_getElem h4⟩
       have hts := toks_size (enc := T.enc) hby tt (List.mem_of_getElem? htt)
       rw [List.drop_eq_getElem_cons h4, (List.getElem?_eq_some_iff.1 htt).2, offs_cons] at hsp
       omega
      ·omega
     subst hjl; omega
    ·omega
   have hj1 : 1 ≤ j := by
    by_cases h : 1 ≤ j
    ·exact h
    ·rw [show j = 0 by omega, Nat.add_zero] at hge; omega
   exact s_ret ⟨fun hh => absurd hh (by decide), fun _ => ⟨rfl, rfl, n0 + j, by omega, by omega, hge, hprev hj1, e08.trans e9, t8.ext e9, o8.ext e9⟩⟩
 ·rintro tag vs h8 ⟨rfl, rfl, N, hN1, hN2, hN3, hN4, e08, t8, o8⟩
  obtain ⟨r1, r2, r3⟩ := ri N hN2
  have hfin := seek_fin hN1 (by omega) hN3 hN4
  refine s_tag (s_cast0 (wp_load1 (b := .int .i64) _ _ rfl (cells_iff.1 o8.cells 0 _ rfl) (wp_load1 (b := .int .i64) _ _ rfl (cells_iff.1 o8.cells 0 _ rfl) ?_)))
  rw [r3, add_ok (by omega) (by omega)]
  refine wp_call (c_Atoms M C (from_ := (N : Int)) t8 (fits_i64.2 (by omega))) fun ⟨(sa : Sl), _⟩ h9 e9 oa => ?_
  have oa : OwnL h8.size .i64 h9 sa ((cutL (els T.enc T.cur.ps) N ((N : Int) + 1)).map (·.1)) := oa
  have hcut := cut_one (els T.enc T.cur.ps) N (by omega)
  rw [els_atoms, hA] at hcut
  rw [hcut] at oa
  have hsl := oa.len
  rw [List.length_take, List.length_drop] at hsl
  have o9 := o8.ext e9
  refine bind_bool (A.getD (N - 1) 0 = 13 ∧ A.getD N 0 = 10) ?_ fun bb h10 e10 hb10 => ?_
  ·refine wp_load1 (b := .bool) _ _ rfl (cells_iff.1 o9.cells 4 _ rfl) (wp_ifB (fun hx => ?_) fun hx => ?_)
   ·rw [r2] at hx
    have hx := of_decide_eq_true hx
    refine wp_ifB (fun hy => ?_) fun hy => s_ret ⟨rfl, Ext.refl _, false, rfl, Iff.intro (fun h => by cases h) fun h => ?_⟩
    ·rw [eqI_iff, natI_def] at hy
     dsimp only at hy
     have hlt : N < A.length := by omega
     have hone : (A.drop N).take 1 = [A.getD N 0] := by
      rw [List.drop_eq_getElem_cons hlt, List.getD_eq_getElem?_getD, List.getElem?_eq_getElem hlt]; rfl
     rw [hone] at oa
     refine s_at0 oa.lst (n := 0) (by simp) fun _ => s_ret ⟨rfl, Ext.refl _, _, rfl, ?_⟩
     show eqI (A.getD N 0) 10 = true ↔ _
     rw [eqI_iff]
     exact ⟨fun h => ⟨hx.2, h⟩, fun h => h.2⟩
    ·rw [eqI_not, natI_def] at hy
     dsimp only at hy
     have := h.2
     rw [getD_end (by omega)] at this
     omega
   ·rw [r2] at hx
    have hx := of_decide_eq_false hx
    exact s_ret ⟨rfl, Ext.refl _, false, rfl, Iff.intro (fun h => by cases h) fun h => absurd ⟨by omega, h.1⟩ hx⟩
  have o10 := o9.ext e10
  refine wp_ifB (fun hx => ?_) fun hx => ?_
  ·rw [if_pos (hb10.1 hx)] at hfin
   refine wp_load1 (b := .int .i64) _ _ rfl (cells_iff.1 o10.cells 0 _ rfl) ?_
   rw [r3, add_ok (by omega) (by omega)]
   exact s_ret ⟨rfl, (e08.trans e9).trans e10, ((N : Int) + 1, ()), rfl, fun h => absurd h hc, fun h => by omega, fun _ _ => hfin⟩
  ·rw [if_neg (fun h => by rw [hb10.2 h] at hx; cases hx)] at hfin
   refine wp_load1 (b := .int .i64) _ _ rfl (cells_iff.1 o10.cells 0 _ rfl) ?_
   rw [r3]
   exact s_ret ⟨rfl, (e08.trans e9).trans e10, ((N : Int), ()), rfl, fun h => absurd h hc, fun h => by omega, fun _ _ => hfin⟩
end Go.Sw.Piece

set_option linter.unusedVariables false
set_option linter.unusedSimpArgs false
set_option maxRecDepth 100000
namespace Go.Sw.Piece
open Go.Sw.Any Go.Sw.Codec
open Go.Sw.Tree (iv s_putAll s_newP s_getP s_getT s_putP eqI_self Placed cell_own wp_whileG minI_eq)
variable {P : Program} {S : Ids} {h : Heap} {Q : Nat → List Value → Heap → Prop}
def endsUp (A : List Int) : Nat → List Int
 | 0 => []
 | n + 1 => endsUp A n ++ if isE A n = true then [((n + 1 : Nat) : Int)] else []
theorem ends_succ (A : List Int) (n : Nat) : endsUp A (n + 1) = endsUp A n ++ if isE A n = true then [((n + 1 : Nat) : Int)] else [] := rfl
theorem ends_len (A : List Int) (n : Nat) : (endsUp A n).length = cntE A n := by
 induction n with
 | zero => rfl
 | succ n ih => rw [ends_succ, cntE_succ, List.length_append, ih]; split <;> rfl
theorem ends_at {A : List Int} : ∀ {n j : Nat}, j < cntE A n → ∃ p : Nat, (endsUp A n)[j]? = some (p : Int) ∧ 1 ≤ p ∧ p ≤ n ∧ cntE A p = j + 1 ∧ cntE A (p - 1) = j
 | 0, j, hj => by simp [cntE] at hj
 | n + 1, j, hj => by
  rw [ends_succ]
  by_cases h : j < cntE A n
  ·obtain ⟨p, h1, h2, h3, h4, h5⟩ := ends_at (A := A) h
   exact ⟨p, by rw [List.getElem?_append_left (List.getElem?_eq_some_iff.1 h1).1]; exact h1, h2, by omega, h4, h5⟩
  ·rw [cntE_succ] at hj
   by_cases he : isE A n = true
   ·rw [if_pos he] at hj
    have hjn : j = cntE A n := by omega
    refine ⟨n + 1, ?_, by omega, Nat.le_refl _, by rw [cntE_succ, if_pos he]; omega, by rw [Nat.add_sub_cancel]; omega⟩
    rw [if_pos he, List.getElem?_append_right (by rw [ends_len]; omega), ends_len, hjn, Nat.sub_self]; rfl
   ·rw [if_neg he] at hj; omega
end Go.Sw.Piece

set_option linter.unusedVariables false
set_option linter.unusedSimpArgs false
set_option maxRecDepth 100000
namespace Go.Sw.Piece
open Go.Sw.Any Go.Sw.Codec
open Go.Sw.Tree (iv s_putAll s_newP s_getP s_getT s_putP eqI_self Placed cell_own wp_whileG minI_eq)
variable {P : Program} {S : Ids} {h : Heap} {Q : Nat → List Value → Heap → Prop}
def nch (L sz : Nat) : Nat := (L + sz - 1) / sz
theorem lt_nch {L sz c : Nat} (hs : 1 ≤ sz) : c < nch L sz ↔ c * sz < L := by
 unfold nch
 rw [← Nat.succ_le_iff, Nat.le_div_iff_mul_le (by omega), Nat.succ_mul]
 omega
def IterC (P : Program) (it : Value) (N : Nat) (ch : Nat → List Int) (Z : Nat → Prop) (m : Nat) (h0 : Heap) : Prop :=
 ∀ (h : Heap) (y : Value) (J : Nat → Heap → Prop) (F : Heap → Prop), h0.size ≤ h.size → Held Z h0 h → flat y = true →
  (∀ k a b, J k a → Chg (own h.size m) a b → J k b) → (∀ a b, F a → Chg (own h.size m) a b → F b) →
  (∀ k hp h1 s, k < N → J k hp → h.size + m ≤ hp.size → Chg (own h.size m) hp h1 → Held Z h0 h1 → OwnL hp.size .u8 h1 s (ch k) →
   DynV P y [slv s] h1 fun vs h2 => ∃ b, vs = [.bool b] ∧ Held (fun i => own h.size m i ∨ (Z i ∧ i < h0.size)) h1 h2 ∧ (b = true → J (k + 1) h2) ∧ (b = false → F h2)) →
  J 0 h → DynE P it [y] h fun vs h' => vs = [] ∧ h.size ≤ h'.size ∧ Held Z h0 h' ∧ (J N h' ∨ F h')
structure ChR (S : Ids) (Z : Nat → Prop) (h : Heap) (root : Option Addr) (t : Bt Part) (ps : List Pc) : Prop where
 nd : Nd (part S Z) h root t
 ls : t.list = ps.map (·.1)
 room : (part S Z).W t.list ≤ 4398046511104
 lst : ∀ q, q ∈ ps → Lst .u8 h q.1.1 q.2 ∧ ∀ a, q.1.1.base = some a → Z a.block ∧ a.block < h.size
 small : (bytesL ps).length ≤ 1099511627776
end Go.Sw.Piece
namespace Go.Sw
open Go.Sw.Piece
open Go.Sw.Any Go.Sw.Codec
open Go.Sw.Tree (iv s_putAll s_newP s_getP s_getT s_putP eqI_self Placed cell_own wp_whileG minI_eq)
variable {P : Program} {S : Ids} {h : Heap} {Q : Nat → List Value → Heap → Prop}
theorem OwnL.raise {n m : Nat} {k : IntKind} {h : Heap} {s : Sl} {l : List Int} (o : OwnL n k h s l) (hb : ∀ a, s.base = some a → m ≤ a.block) : OwnL m k h s l := by
 obtain ⟨⟨o1, o2, o3, o4⟩, w⟩ := o
 refine ⟨⟨o1, o2, o3, ?_⟩, w⟩
 cases hs : s.base with
 | none => rw [hs] at o4; exact o4
 | some a => rw [hs] at o4; exact ⟨o4.1, o4.2.1, hb a hs, o4.2.2.2⟩
end Go.Sw
namespace Go.Sw.Piece
open Go.Sw.Any Go.Sw.Codec
open Go.Sw.Tree (iv s_putAll s_newP s_getP s_getT s_putP eqI_self Placed cell_own wp_whileG minI_eq)
variable {P : Program} {S : Ids} {h : Heap} {Q : Nat → List Value → Heap → Prop}
structure CS (J : Nat → Heap → Prop) (Z : Nat → Prop) (h0 h : Heap) (B : List Int) (sz : Nat) (y : Value) (n c : Nat) (s : Sl) (hp h' : Heap) : Prop where
 j : J c hp
 hp1 : h.size + 8 ≤ hp.size ∨ s.base = none
 hp0 : h.size ≤ hp.size
 chg : Chg (own h.size 8) hp h'
 held : Held Z h0 h'
 cy : Cel h.size h' ⟨h.size, 0, none⟩ y
 ca : Cel (h.size + 1) h' ⟨h.size + 1, 0, none⟩ (slv s)
 lo : c * sz ≤ n
 hi : n < c * sz + sz
 o : OwnL hp.size .u8 h' s ((B.drop (c * sz)).take (n - c * sz))
variable {J : Nat → Heap → Prop} {Z : Nat → Prop} {h0 hs hp h' : Heap} {B : List Int} {sz n c : Nat} {y : Value} {s : Sl}
theorem CS.own4 {b : Heap} (g : CS J Z h0 hs B sz y n c s hp h) (h08 : h0.size ≤ hs.size) (e : Chg (own (hs.size + 4) 4) h b) : CS J Z h0 hs B sz y n c s hp b where
 j := g.j
 hp1 := g.hp1
 hp0 := g.hp0
 chg := g.chg.trans e fun i _ f => ⟨by have := f.1; omega, by have := f.2; omega⟩
 held := g.held.chg e fun i hi _ f => by have := f.1; omega
 cy := e.own g.cy fun x hx f => by cases hx; have := f.1; dsimp only at this; omega
 ca := e.own g.ca fun x hx f => by cases hx; have := f.1; dsimp only at this; omega
 lo := g.lo
 hi := g.hi
 o := by
  rcases g.hp1 with h | h
  ·exact e.ownL g.o fun x hx f => by have := (g.o.own.lt hx).1; have := f.2; omega
  ·exact e.ownL g.o fun x hx f => by rw [h] at hx; cases hx
theorem CS.rebase (g : CS J Z h0 hs B sz y n c s hp h) (sJ : ∀ k a b, J k a → Chg (own hs.size 8) a b → J k b) (hz : hs.size + 8 ≤ h.size) : ∃ hp', hs.size + 8 ≤ hp'.size ∧ CS J Z h0 hs B sz y n c s hp' h := by
 rcases g.hp1 with h1 | h1
 ·exact ⟨hp, h1, g⟩
 ·exact ⟨h, hz, sJ _ _ _ g.j g.chg, .inl hz, by omega, Chg.refl _ _, g.held, g.cy, g.ca, g.lo, g.hi, g.o.raise fun a ha => by rw [h1] at ha; cases ha⟩
theorem c_ItemsX {p : Option Addr} {i : Int} : wp P (F_Tree_part_Items S (p, ()) i) h fun tag vs h' => tag = 0 ∧ vs = [.func (.func S.f_Tree_part_Items_1) #[] #[.pointer (some ⟨h.size, 0, none⟩), .pointer (some ⟨h.size + 1, 0, none⟩)]] ∧ Ext h h' ∧ h'.size = h.size + 2 ∧ ItR h' p i ⟨h.size, 0, none⟩ ⟨h.size + 1, 0, none⟩ := by
 unfold F_Tree_part_Items
 refine s_new1 _ fun h1 e1 o1 z1 => s_new1 _ fun h2 e2 o2 z2 => ?_
 rw [z1] at o2 ⊢
 exact s_ret ⟨rfl, rfl, e1.trans e2, by omega, cell_own (o1.ext e2), cell_own o2⟩
theorem iter_chunks (C : Cl P S) {root : Option Addr} {t : Bt Part} {ps : List Pc} {a1 a3 : Addr} (cr : ChR S Z h0 root t ps) (hsz : 1 ≤ sz) (hmax : sz < 2 ^ 63) (c1 : Sw.cell h0 a1 = some (i64v sz)) (c3 : Sw.cell h0 a3 = some (.pointer root)) (z1 : Z a1.block) (z3 : Z a3.block) :
  IterC P (.func (.func S.f_Text_Chunks_1) #[] #[.pointer (some a1), .pointer (some a3)]) (nch (bytesL ps).length sz) (fun k => ((bytesL ps).drop (k * sz)).take sz) Z 8 h0 := by
 intro h y J F hs hz fy sJ sF hY j0
 generalize hB : bytesL ps = B at hY ⊢
 have hBl : B.length ≤ 1099511627776 := by rw [← hB]; exact cr.small
 refine C.chunks y (some a1) (some a3) h _ ?_
 unfold F_Text_Chunks_1
 refine wp_grd fy (s_new1 y fun g1 e1 o1 s1 => ?_)
 have hcell : ∀ {h' : Heap} {a : Addr} {v : Value}, Held Z h0 h' → Sw.cell h0 a = some v → Z a.block → Sw.cell h' a = some v := fun u hc z => u.cell hc z
 have hz1 : Held Z h0 g1 := hz.trans (Held.of_ext e1)
 refine wp_load1 (b := .int .i64) a1 (sz : Int) rfl (hcell hz1 c1 z1) (wp_ifB (fun hc => by rw [ltI_iff] at hc; omega) fun _ => ?_)
 refine s_new1 _ fun g2 e2 o2 s2 => ?_
 rw [s1] at o2 ⊢
 have hz2 : Held Z h0 g2 := hz1.trans (Held.of_ext e2)
 refine ⟨a3, rfl, (root, ()), cells_iff.2 fun j v hj => ?_, ?_⟩
 ·match j, hj with
  | 0, hj => simp [Ty.cells, Bs.inj] at hj; subst hj; rw [add_zero']; exact hcell hz2 c3 z3
  | j + 1, hj => simp [Ty.cells, Bs.inj] at hj
 refine wp_callW c_ItemsX fun tag vs g3 ⟨ht, hv, e3, s3, itr⟩ => ⟨ht, (_, ()), hv, ?_⟩
 dsimp only
 have sR : g3.size = h.size + 4 := by omega
 have hz3 : Held Z h0 g3 := hz2.trans (Held.of_ext e3)
 let Z' : Nat → Prop := fun i => (Z i ∧ i < h0.size) ∨ i = g2.size ∨ i = g2.size + 1
 have nd : Nd (part S Z') g3 root t := by
  have n1 : Nd (part S fun i => Z i ∧ i < h0.size) h0 root t := part_mono cr.nd fun i hi hz => ⟨hz, hi⟩
  have n2 := Nd.chg (I := part S fun i => Z i ∧ i < h0.size) (hz3.to_chg (F := fun i => ¬ (Z i ∧ i < h0.size)) fun i hi hf => Classical.byContradiction fun k => hf fun k2 => k k2.1) (fun i _ hz hf => hf hz) n1
  exact part_mono n2 fun i _ hz => .inl hz
 have itg : IterG P (.func (.func S.f_Tree_part_Items_1) #[] #[.pointer (some ⟨g2.size, 0, none⟩), .pointer (some ⟨g2.size + 1, 0, none⟩)]) t.list.length (AL (part S Z') t.list) Z' 2 g3 := iter_items (part_ok S Z' (P := P)) (C.clos Z') (i := Int.ofNat 0) nd cr.room (fits_i64.2 (by decide)) itr.ca itr.cb (.inr (.inl rfl)) (.inr (.inr rfl))
 have hlen : t.list.length = ps.length := by rw [cr.ls, List.length_map]
 let CJ : Nat → Heap → Prop := fun k h' => ∃ c s hp, CS J Z h0 h B sz y (bytesL (ps.take k)).length c s hp h'
 let W : Nat → Prop := fun i => (own h.size 8 i ∧ i ≠ h.size + 1) ∨ (Z i ∧ i < h0.size)
 refine wp_range (A := AL (part S Z') t.list) (N := t.list.length) (Z := Z') (m := 2) (h0 := g3) itg (Held.refl _ _) CJ (fun tag h' => tag = 1 ∧ F h' ∧ Held Z h0 h' ∧ h.size ≤ h'.size) ?_ ?_ (fun k hp h1 args ⟨r, _, e⟩ => ⟨(r, ()), e⟩) ?_ ?_ ?_
 ·rintro k a b ⟨c, s, hp, g⟩ e
  rw [sR] at e
  exact ⟨c, s, hp, g.own4 hs e⟩
 ·rintro k a b ⟨ht, f, hh, hsz'⟩ e
  rw [sR] at e
  exact ⟨ht, sF _ _ f (e.mono fun i _ f => ⟨by have := f.1; omega, by have := f.2; omega⟩), hh.chg e fun i hi _ f => by have := f.1; omega, Nat.le_trans hsz' e.1⟩
 ·rintro k hp h1 ⟨x, u⟩ hkN ⟨c, s, hpp, g⟩ hps cc hs1 hzz ⟨r, hrr, hre⟩
  have hx : Bs.inj PB x = Bs.inj PB r := by
   have h1 := congrArg (fun l => l.head?) hre
   simp only [Ts.inj, List.head?_cons, Option.some.injEq] at h1
   have h2 : (Value.agg (Bs.inj PB x).toArray) = Value.agg (Bs.inj PB r).toArray := h1
   injection h2 with h2
   exact List.toArray_inj h2
  change wp P (.alloc (Bs.inj PB zP) fun (c : Addr) => .store (some c) (Bs.inj PB x) <| .ret 0 [.pointer (some c)]) h1 _
  rw [hx]
  obtain ⟨q, hq, rfl⟩ : ∃ q, ps[k]? = some q ∧ r = q.1 := by
   have h1 : t.list[k]? = some r := hrr
   rw [cr.ls, List.getElem?_map] at h1
   cases hq : ps[k]? with
   | none => rw [hq] at h1; cases h1
   | some q => rw [hq] at h1; exact ⟨q, rfl, (Option.some.inj h1).symm⟩
  have hqm := List.mem_of_getElem? hq
  rw [sR] at cc hs1
  have g1' := g.own4 hs cc
  refine s_newO (bs := PB) zP (by decide) fun h2 e2' o2' => s_stoO (bs := PB) q.1 o2' (flatP _) fun h3 o3 u3 => s_ret ⟨rfl, (some ⟨h1.size, 0, none⟩, ()), rfl, ?_, fun h3' c3' hs3 => ?_⟩
  ·exact Held.of_ext (Upd.extN e2' u3 (by intro z hz; cases hz; exact Nat.le_refl _))
  have e13 : Ext h1 h3 := Upd.extN e2' u3 (by intro z hz; cases hz; exact Nat.le_refl _)
  rw [sR] at c3'
  have g3' : CS J Z h0 h B sz y (bytesL (ps.take k)).length c s hpp h3' := (g1'.own4 hs (Chg.of_ext e13)).own4 hs c3'
  have oc : Own h1.size 1 h3' ⟨some ⟨h1.size, 0, none⟩, 7, 7⟩ (Bs.inj PB q.1) := c3'.own o3 fun z hz f => by cases hz; have := f.2; dsimp only at this; omega
  have q3 : h.size + 8 ≤ h3'.size := by have := e13.size; omega
  refine wp_grd rfl (wp_load1 (b := .sl) _ q.1.1 rfl (cells_iff.1 oc.cells 0 _ rfl) ?_)
  have hsplit : B = bytesL (ps.take k) ++ (q.2 ++ bytesL (ps.drop (k + 1))) := by
   have hlt := (List.getElem?_eq_some_iff.1 hq).1
   have h1 : ps = ps.take k ++ (q :: ps.drop (k + 1)) := by
    have := (List.getElem?_eq_some_iff.1 hq).2
    rw [← this, ← List.drop_eq_getElem_cons hlt, List.take_append_drop]
   rw [← hB]
   conv => lhs; rw [h1]
   simp [bytesL]
  have hsucc : (bytesL (ps.take (k + 1))).length = (bytesL (ps.take k)).length + q.2.length := by rw [List.take_add_one, hq]; simp [bytesL]
  generalize hn0 : (bytesL (ps.take k)).length = n0 at g3' hsucc
  have hBlen : n0 + q.2.length ≤ B.length := by rw [hsplit, List.length_append, List.length_append, hn0]; omega
  have hpart : ∀ o m, o + m ≤ q.2.length → (q.2.drop o).take m = (B.drop (n0 + o)).take m := fun o m hm => by
   rw [hsplit, ← List.drop_drop, List.drop_left' hn0, List.drop_append_of_le_length (by omega), List.take_append_of_le_length (by rw [List.length_drop]; omega)]
  obtain ⟨lq0, zq⟩ := cr.lst q hqm
  have lq : ∀ {h' : Heap}, Held Z h0 h' → Lst .u8 h' q.1.1 q.2 := fun u => lq0.blocks fun a ha hl => u.2.1 _ hl (zq a ha).1
  refine wp_whileG (G := Nat × Nat × Sl × Heap) (fun gg (r : Sl × Unit) h' => gg.1 ≤ q.2.length ∧ (∀ {h''}, Held Z h0 h'' → Lst .u8 h'' r.1 (q.2.drop gg.1)) ∧ CS J Z h0 h B sz y (n0 + gg.1) gg.2.1 gg.2.2.1 gg.2.2.2 h' ∧ Held W h3' h' ∧ h.size + 8 ≤ h'.size) (fun gg => q.2.length - gg.1)
   (fun tag vs h' => vs = [] ∧ Held W h3' h' ∧ ((tag = 4 ∧ ∃ c s hp, CS J Z h0 h B sz y (n0 + q.2.length) c s hp h') ∨ (tag = 1 ∧ F h' ∧ Held Z h0 h' ∧ h.size ≤ h'.size))) (0, c, s, hpp)
   ⟨Nat.zero_le _, fun u => by rw [List.drop_zero]; exact lq u, g3', Held.refl _ _, q3⟩ ?_ ?_
  ·rintro ⟨o, c, s, hp⟩ ⟨(rs : Sl), uu⟩ h4 ⟨ho, hrs, g4, w4, q4⟩
   dsimp only at ho hrs g4 ⊢
   have lr := hrs g4.held
   have lrl := lr.len
   rw [List.length_drop] at lrl
   refine wp_ifB (fun hc => ?_) fun hc => ?_
   ·rw [gtI_iff, natI_def, lrl] at hc
    have hol : o < q.2.length := by omega
    obtain ⟨hp, hpz, g4⟩ := g4.rebase sJ q4
    have hsl := g4.o.len
    have hcs := g4.lo; have hch := g4.hi
    have g4o := g4.o
    rw [List.length_take, List.length_drop] at hsl
    have hsl : s.len = n0 + o - c * sz := by rw [hsl]; omega
    generalize hw : c * sz = w at *
    refine wp_load1 (b := .int .i64) a1 (sz : Int) rfl (hcell g4.held c1 z1) (s_cel (b := .sl) (x := s) g4.ca (s_cel (b := .sl) (x := s) g4.ca ?_))
    have hsub : subI .i64 (sz : Int) (natI s.len) = ((sz - s.len : Nat) : Int) := by rw [natI_def, sub_ok (by omega) (by omega)]; omega
    rw [hsub, minI_eq]
    have hmin : min ((sz - s.len : Nat) : Int) (natI rs.len) = ((min (sz - s.len) (q.2.length - o) : Nat) : Int) := by rw [natI_def, lrl]; omega
    rw [hmin]
    generalize hm : min (sz - s.len) (q.2.length - o) = m at *
    have hm0 : 1 ≤ m := by omega
    have hcap := lr.cap
    have hmx := lr.max
    refine wp_grd (leB_ok (by omega) (by omega)) ?_
    rw [cutBase_zero, toN_def, Int.toNat_natCast, show subN m 0 = m from rfl, show subN rs.cap 0 = rs.cap from rfl]
    have lpart := lr.take (n := m) (m := rs.cap) (by rw [List.length_drop]; omega) (by omega) hmx
    rw [hpart o m (by omega)] at lpart
    have hpl : ((B.drop (n0 + o)).take m).length = m := by rw [List.length_take, List.length_drop]; omega
    have hcl : ((B.drop w).take (n0 + o - w)).length = n0 + o - w := by rw [List.length_take, List.length_drop]; omega
    have hjoin : (B.drop w).take (n0 + o - w) ++ (B.drop (n0 + o)).take m = (B.drop w).take (n0 + o + m - w) := by
     have h1 := List.take_add (l := B.drop w) (i := n0 + o - w) (j := m)
     rw [List.drop_drop, show w + (n0 + o - w) = n0 + o by omega, show n0 + o - w + m = n0 + o + m - w by omega] at h1
     exact h1.symm
    have q4h := g4.chg.1
    refine s_append g4o (by omega) lpart (by rw [hcl, hpl]; omega) (by rw [hcl, hpl]; omega) fun s' h5 k5 o5 u5 b5 => ?_
    rw [hjoin] at o5
    have cu : Chg (fun i => ∃ a, s.base = some a ∧ a.block = i) h4 h5 := Chg.of_upd u5 fun x hx _ => ⟨x, hx, rfl⟩
    have sb : ∀ a, s.base = some a → hp.size ≤ a.block := fun a ha => (g4.o.own.lt ha).1
    have ca5 := cu.own g4.ca fun x hx ⟨z, hz, f⟩ => by cases hx; have := sb z hz; dsimp only at f; omega
    have cy5 := cu.own g4.cy fun x hx ⟨z, hz, f⟩ => by cases hx; have := sb z hz; dsimp only at f; omega
    refine s_celput (slv s') ca5 rfl fun h6 ca6 u6 => wp_grd (leB_ok (by omega) (by omega)) ?_
    have c6 : Chg (fun i => i = h.size + 1) h5 h6 := upd_chg u6
    have c46 : Chg (fun i => i = h.size + 1 ∨ ∃ a, s.base = some a ∧ a.block = i) h4 h6 := (cu.mono fun i _ f => .inr f).trans (c6.mono fun i _ f => .inl f) fun i _ f => f
    have o6 : OwnL hp.size .u8 h6 s' ((B.drop w).take (n0 + o + m - w)) := c6.ownL o5 fun x hx f => by have := (o5.own.lt hx).1; omega
    have cy6 : Cel h.size h6 ⟨h.size, 0, none⟩ y := c6.own cy5 fun x hx f => by cases hx; have f : h.size = h.size + 1 := f; omega
    have held6 : Held Z h0 h6 := g4.held.chg c46 fun i hi hz f => by
     rcases f with f | ⟨a, ha, f⟩
     ·omega
     ·have := sb a ha; omega
    have w46 : Held W h4 h6 := Held.of_chg c46 fun i hi hw f => by
     rcases f with f | ⟨a, ha, f⟩
     ·rcases hw with hw | hw
      ·exact hw.2 f
      ·have := hw.2; omega
     ·have := sb a ha
      rcases hw with hw | hw
      ·have := hw.1.2; omega
      ·have := hw.2; omega
    have chg6 : Chg (own h.size 8) hp h6 := g4.chg.trans c46 fun i hi f => by
     rcases f with f | ⟨a, ha, f⟩
     ·exact ⟨by omega, by omega⟩
     ·have := sb a ha; omega
    have hs'l := o6.len
    rw [List.length_take, List.length_drop] at hs'l
    have hs'l : s'.len = n0 + o + m - w := by rw [hs'l]; omega
    have q46 := c46.1
    have rs2 : ∀ {h''}, Held Z h0 h'' → Lst .u8 h'' ⟨cutBase rs.base rs.cap m 1, subN rs.len m, subN rs.cap m⟩ (q.2.drop (o + m)) := fun u => by
     have := (hrs u).tail (i := m) (by rw [List.length_drop]; omega)
     rw [List.drop_drop] at this; exact this
    refine s_cel (b := .sl) (x := s') ca6 (wp_load1 (b := .int .i64) a1 (sz : Int) rfl (hcell held6 c1 z1) (wp_ifB (fun hd => ?_) fun hd => ?_))
    ·rw [eqI_iff, natI_def, hs'l] at hd
     have hd : n0 + o + m = w + sz := by omega
     have hcN : c < nch B.length sz := (lt_nch hsz).2 (by rw [hw]; omega)
     refine s_cel (b := .any) (x := y) cy6 (s_cel (b := .sl) (x := s') ca6 ?_)
     rw [show n0 + o + m - w = sz by omega, ← hw] at o6
     refine wp_callv ((hY c hp h6 s' hcN g4.j hpz chg6 held6 o6).mono fun vs h7 ⟨b, hv, hh, hJ, hF⟩ => ⟨(b, ()), hv, ?_⟩)
     have w67 : Held W h6 h7 := hh.mono fun i _ hw => hw.elim (fun k => .inl k.1) .inr
     have held7 : Held Z h0 h7 := held6.step hh fun i hi hz => .inr ⟨hz, hi⟩
     have cy7 : Cel h.size h7 ⟨h.size, 0, none⟩ y := hh.own' cy6 fun x hx => by cases hx; exact .inl ⟨Nat.le_refl _, by dsimp only; omega⟩
     have ca7 : Cel (h.size + 1) h7 ⟨h.size + 1, 0, none⟩ (slv s') := hh.own' ca6 fun x hx => by cases hx; exact .inl ⟨by dsimp only; omega, by dsimp only; omega⟩
     have q67 := hh.1
     dsimp only
     cases b with
     | false => exact s_ifT (s_ret ⟨fun h => absurd h (by decide), fun _ => ⟨rfl, (w4.trans w46).trans w67, .inr ⟨rfl, hF rfl, held7, by omega⟩⟩⟩)
     | true =>
      refine s_ifF (s_celput (slv ⟨none, 0, 0⟩) ca7 rfl fun h8 ca8 u8 => ?_)
      have c8 : Chg (fun i => i = h.size + 1) h7 h8 := upd_chg u8
      have q78 := c8.1
      have w78 : Held W h7 h8 := Held.of_chg c8 fun i hi hw f => by
       rcases hw with hw | hw
       ·exact hw.2 f
       ·have := hw.2; have f : i = h.size + 1 := f; omega
      refine s_ret ⟨fun _ => ⟨(o + m, c + 1, ⟨none, 0, 0⟩, h7), (⟨cutBase rs.base rs.cap m 1, subN rs.len m, subN rs.cap m⟩, ()), rfl, ⟨by dsimp only; omega, rs2, ⟨hJ rfl, .inl (by dsimp only; omega), by dsimp only; omega, c8.mono fun i _ (f : i = h.size + 1) => ⟨by omega, by omega⟩, held7.chg c8 fun i hi _ f => by have f : i = h.size + 1 := f; omega, c8.own cy7 fun x hx f => by cases hx; have f : h.size = h.size + 1 := f; omega, ca8, by rw [Nat.succ_mul, hw]; dsimp only; omega, by rw [Nat.succ_mul, hw]; dsimp only; omega, ?_⟩, ((w4.trans w46).trans w67).trans w78, by omega⟩, by dsimp only; omega⟩, fun hh => absurd rfl hh⟩
      have : n0 + (o + m) - (c + 1) * sz = 0 := by rw [Nat.succ_mul, hw]; omega
      dsimp only
      rw [this, List.take_zero]
      exact OwnL.nil _ _ _
    ·rw [eqI_not, natI_def, hs'l] at hd
     have hd : n0 + o + m < w + sz := by omega
     refine s_ret ⟨fun _ => ⟨(o + m, c, s', hp), (⟨cutBase rs.base rs.cap m 1, subN rs.len m, subN rs.cap m⟩, ()), rfl, ⟨by dsimp only; omega, rs2, ⟨g4.j, .inl hpz, g4.hp0, chg6, held6, cy6, ca6, by rw [hw]; dsimp only; omega, by rw [hw]; dsimp only; omega, ?_⟩, w4.trans w46, by omega⟩, by dsimp only; omega⟩, fun hh => absurd rfl hh⟩
     dsimp only
     rw [hw, show n0 + (o + m) - w = n0 + o + m - w by omega]
     exact o6
   ·rw [gtI_not, natI_def, lrl] at hc
    have : o = q.2.length := by omega
    subst this
    exact s_ret ⟨fun hh => absurd hh (by decide), fun _ => ⟨rfl, w4, .inl ⟨rfl, c, s, hp, g4⟩⟩⟩
  ·rintro tag vs h4 ⟨rfl, w4, hx⟩
   have hW : Held (fun i => own g3.size (2 + 2) i ∨ (Z' i ∧ i < g3.size)) h3' h4 := w4.mono fun i _ hi => by
    rcases hi with hi | ⟨hi | hi | hi, hlt⟩
    ·rw [sR] at hi; exact .inl ⟨⟨by have := hi.1; omega, by have := hi.2; omega⟩, by have := hi.1; omega⟩
    ·exact .inr hi
    ·exact .inl ⟨⟨by omega, by omega⟩, by omega⟩
    ·exact .inl ⟨⟨by omega, by omega⟩, by omega⟩
   rcases hx with ⟨rfl, c, s, hp, g⟩ | ⟨rfl, f, hh, hsz'⟩
   ·exact s_tag (s_cast0 (s_ret ⟨hW, fun _ => ⟨c, s, hp, by rw [hsucc]; exact g⟩, fun hh => absurd rfl hh⟩))
   ·exact s_skip (by decide) (s_tag (s_cast0 (s_ret ⟨hW, fun hh => absurd hh (by decide), fun _ => ⟨rfl, f, hh, hsz'⟩⟩)))
 ·have e03 := (e1.trans e2).trans e3
  refine ⟨0, ⟨none, 0, 0⟩, h, j0, .inr rfl, Nat.le_refl _, Chg.of_ext e03, hz3, o1.ext (e2.trans e3), ?_, by omega, by rw [List.take_zero]; simp [bytesL]; omega, ?_⟩
  ·exact o2.ext e3
  ·have e : (bytesL (ps.take 0)).length - 0 * sz = 0 := by simp [bytesL]
   rw [e, List.take_zero]; exact OwnL.nil _ _ _
 ·intro j h5 hs5 hz5 hx
  have hall : ps.take t.list.length = ps := by rw [hlen, List.take_length]
  rcases hx with ⟨rfl, c, s, hp, g⟩ | ⟨_, rfl, f, hh, hsz'⟩
  ·rw [hall, hB] at g
   have q5 : h.size ≤ h5.size := Nat.le_trans g.hp0 g.chg.1
   refine s_skip (by decide) (s_tag (s_cel (b := .sl) (x := s) g.ca ?_))
   have hsl := g.o.len
   have hcs := g.lo; have hch := g.hi
   rw [List.length_take, List.length_drop] at hsl
   have hsl : s.len = B.length - c * sz := by rw [hsl]; omega
   have hcle : c ≤ nch B.length sz := by
    cases c with
    | zero => exact Nat.zero_le _
    | succ d => exact (lt_nch hsz).2 (by rw [Nat.succ_mul] at hcs; omega)
   refine wp_ifB (fun hd => ?_) fun hd => ?_
   ·rw [gtI_iff, natI_def, hsl] at hd
    have hcN : c < nch B.length sz := (lt_nch hsz).2 (by omega)
    have hN : nch B.length sz = c + 1 := by
     by_cases hlt : c + 1 < nch B.length sz
     ·have := (lt_nch hsz).1 hlt; rw [Nat.succ_mul] at this; omega
     ·omega
    obtain ⟨hp, hpz, g⟩ := g.rebase sJ (by
     rcases g.hp1 with h | h
     ·have := g.chg.1; omega
     ·have h3 : s.cap = 0 := by
       have := g.o.own.2.2.2
       rw [h] at this; exact this
      have := g.o.own.2.1
      omega)
    have o5 := g.o
    rw [show (B.drop (c * sz)).take (B.length - c * sz) = (B.drop (c * sz)).take sz by rw [List.take_of_length_le (by rw [List.length_drop]; exact Nat.le_refl _), List.take_of_length_le (by rw [List.length_drop]; omega)]] at o5
    refine s_cel (b := .any) (x := y) g.cy (s_cel (b := .sl) (x := s) g.ca (wp_callv ((hY c hp h5 s hcN g.j hpz g.chg g.held o5).mono fun vs h6 ⟨b, hv, hh, hJ, hF⟩ => ⟨(b, ()), hv, s_ret ⟨hh.mono fun i _ hi => .inl ⟨by have := hi.1; omega, by have := hi.2; omega⟩, fun h7 c7 s7 => ⟨rfl, rfl, by have := hh.1; have := c7.1; omega, ?_, ?_⟩⟩⟩)))
    ·have held6 : Held Z h0 h6 := g.held.step hh fun i hi hz => .inr ⟨hz, hi⟩
     exact held6.chg c7 fun i hi _ f => by have := f.1; omega
    ·have c7' : Chg (own h.size 8) h6 h7 := c7.mono fun i _ f => ⟨by have := f.1; omega, by have := f.2; omega⟩
     cases b with
     | true => rw [hN]; exact .inl (sJ _ _ _ (hJ rfl) c7')
     | false => exact .inr (sF _ _ (hF rfl) c7')
   ·rw [gtI_not, natI_def, hsl] at hd
    have hN : nch B.length sz = c := by
     by_cases hlt : c < nch B.length sz
     ·have := (lt_nch hsz).1 hlt; omega
     ·omega
    refine s_ret ⟨Held.refl _ _, fun h7 c7 s7 => ⟨rfl, rfl, by have := c7.1; omega, g.held.chg c7 fun i hi _ f => by have := f.1; omega, .inl ?_⟩⟩
    rw [hN]
    exact sJ _ _ _ (sJ _ _ _ g.j g.chg) (c7.mono fun i _ f => ⟨by have := f.1; omega, by have := f.2; omega⟩)
  ·refine s_tag (s_ret ⟨Held.refl _ _, fun h7 c7 s7 => ⟨rfl, rfl, by have := c7.1; omega, hh.chg c7 fun i hi _ f => by have := f.1; omega, .inr (sF _ _ f (c7.mono fun i _ f => ⟨by have := f.1; omega, by have := f.2; omega⟩))⟩⟩)
end Go.Sw.Piece

set_option linter.unusedVariables false
set_option linter.unusedSimpArgs false
set_option maxRecDepth 100000
namespace Go.Sw.Piece
open Go.Sw.Any Go.Sw.Codec
open Go.Sw.Tree (iv s_putAll s_newP s_getP s_getT s_putP eqI_self Placed cell_own wp_whileG minI_eq)
variable {P : Program} {S : Ids} {h : Heap} {Q : Nat → List Value → Heap → Prop}
def RefE (enc limit : Int) (E : List El) (es : List EdD) (r : Int) : Prop :=
 (70000 < es.length ∧ r = 3) ∨ (es.length ≤ 70000 ∧ ¬ Plc E.length 0 es ∧ r = 2) ∨ (es.length ≤ 70000 ∧ Plc E.length 0 es ∧ ¬ fitsE enc (putsOf es) ∧ r = 11) ∨
 (es.length ≤ 70000 ∧ Plc E.length 0 es ∧ fitsE enc (putsOf es) ∧ limit < blen enc (allE E es) ∧ r = 50) ∨ (es.length ≤ 70000 ∧ Plc E.length 0 es ∧ fitsE enc (putsOf es) ∧ (blen enc (allE E es) : Int) ≤ limit ∧ r = 0)
theorem RefE.fn {enc limit r r' : Int} {E : List El} {es : List EdD} (h : RefE enc limit E es r) (h' : RefE enc limit E es r') : r = r' := by
 unfold RefE at h h'
 by_cases h1 : es.length ≤ 70000
 ·by_cases h2 : Plc E.length 0 es
  ·by_cases h3 : fitsE enc (putsOf es)
   ·by_cases h4 : (blen enc (allE E es) : Int) ≤ limit
    ·have n1 : ¬ limit < blen enc (allE E es) := by omega
     have n2 : ¬ 70000 < es.length := by omega
     simp only [h1, h2, h3, h4, n1, n2, true_and, false_and, not_true_eq_false, false_or, or_false] at h h'
     rw [h, h']
    ·have n1 : limit < blen enc (allE E es) := by omega
     have n2 : ¬ 70000 < es.length := by omega
     simp only [h1, h2, h3, h4, n1, n2, true_and, false_and, not_true_eq_false, false_or, or_false] at h h'
     rw [h, h']
   ·have n2 : ¬ 70000 < es.length := by omega
    simp only [h1, h2, h3, n2, true_and, false_and, not_true_eq_false, not_false_eq_true, false_or, or_false] at h h'
    rw [h, h']
  ·have n2 : ¬ 70000 < es.length := by omega
   simp only [h1, h2, n2, true_and, false_and, not_true_eq_false, not_false_eq_true, false_or, or_false] at h h'
   rw [h, h']
 ·have n2 : 70000 < es.length := by omega
  simp only [h1, n2, true_and, false_and, or_false] at h h'
  rw [h, h']
theorem ref_refE {enc limit r : Int} (he : known enc) {ps : List Pc} (hb : ∀ q, q ∈ ps → isBytes q.2) {es : List EdD} (h : RefR enc limit (toksL enc ps) es r) : RefE enc limit (els enc ps) es r := by
 have hl : (toksL enc ps).length = (els enc ps).length := (els_len ..).symm
 have ro := ref_okay he hb h
 cases h with
 | many h => exact .inl ⟨h, rfl⟩
 | place a b => rw [hl] at b; exact .inr (.inl ⟨a, b, rfl⟩)
 | fit a b c => rw [hl] at b; exact .inr (.inr (.inl ⟨a, b, c, rfl⟩))
 | full a b c d =>
  rw [hl] at b
  refine .inr (.inr (.inr (.inl ⟨a, b, c, ?_, rfl⟩)))
  by_cases h : (blen enc (allE (els enc ps) es) : Int) ≤ limit
  ·have := ro.2 ⟨a, b, c, h⟩; omega
  ·omega
 | ok a b c d =>
  have := ro.1 rfl
  exact .inr (.inr (.inr (.inr ⟨a, this.2.1, this.2.2.1, this.2.2.2, rfl⟩)))
theorem puts_blen {enc : Int} {E : List El} : ∀ {es : List EdD} {a : Int}, fitsE enc (putsOf es) → sizeL enc (putsOf es) ≤ (blen enc (fwd E a es) : Int)
 | [], a, _ => by simp [putsOf, sizeL]
 | e :: es, a, hf => by
  have hp : putsOf (e :: es) = e.2.2.1.2 ++ putsOf es := by simp [putsOf]
  rw [hp] at hf ⊢
  have ih := puts_blen (E := E) (es := es) (a := e.2.1) fun x hx => hf x (List.mem_append_right _ hx)
  have s1 := size_put (enc := enc) (l := e.2.2.1.2) fun x hx => hf x (List.mem_append_left _ hx)
  rw [sizeL_append]
  simp only [fwd]
  rw [blen_append, blen_append, blen_new]
  omega
theorem c_refuses {n : Nat} {R : RX} {x : Eds} (r : RefT n h R) (ok : (Sh.list EdSh).ok h x) (hE : R.E.length ≤ 65536) (hL : x.2.length ≤ 1073741824) :
  Gives P (F_ref_Text_refuses S (some (at0 R.b)) x.1) [.one (.int .i64)] h fun (y : Int × Unit) _ => (70000 < x.2.length ∧ y.1 = 3) ∨ (x.2.length ≤ 70000 ∧ ¬ Plc R.E.length 0 x.2 ∧ y.1 = 2) ∨ (x.2.length ≤ 70000 ∧ Plc R.E.length 0 x.2 ∧ ¬ fitsE R.enc (putsOf x.2) ∧ y.1 = 11) ∨ (x.2.length ≤ 70000 ∧ Plc R.E.length 0 x.2 ∧ fitsE R.enc (putsOf x.2) ∧ y.1 = 0) := by
 unfold F_ref_Text_refuses Gives
 have xlen := ok.len
 refine wp_ifB (fun hc => ?_) fun hc => ?_
 ·rw [gtI_iff, natI_def, xlen] at hc
  exact s_ret ⟨rfl, Ext.refl _, (3, ()), rfl, .inl ⟨by omega, rfl⟩⟩
 rw [gtI_not, natI_def, xlen] at hc
 have hmany : x.2.length ≤ 70000 := by omega
 refine wp_while (fun (q : Int × Int × Unit) h' => ∃ i : Nat, i ≤ x.2.length ∧ q.2.1 = i ∧ q.1 = lastTo 0 (x.2.take i) ∧ Plc R.E.length 0 (x.2.take i) ∧ Ext h h') (fun q _ => (x.2.length - q.2.1).toNat)
  (fun tag vs h' => Ext h h' ∧ ((tag = 2 ∧ vs = [] ∧ Plc R.E.length 0 x.2) ∨ (tag = 1 ∧ vs = [i64v 2] ∧ ¬ Plc R.E.length 0 x.2))) ⟨0, Nat.zero_le _, rfl, rfl, trivial, Ext.refl _⟩ ?_ ?_
 ·rintro ⟨(at_ : Int), (i' : Int), u⟩ h1 ⟨i, hil, hi', hat, hplc, e1⟩
  dsimp only at hi' hat ⊢
  subst hi'
  refine wp_ifB (fun hd => ?_) fun hd => ?_
  ·rw [ltI_iff, natI_def, xlen] at hd
   obtain ⟨e, hie⟩ : ∃ e, x.2[i]? = some e := ⟨x.2[i]'(by omega), List.getElem?_eq_getElem (by omega)⟩
   have htk : x.2.take (i + 1) = x.2.take i ++ [e] := by rw [List.take_add_one, hie]; rfl
   refine s_edit (ok.ext e1) hie fun a h2 e2 ha o2 => ?_
   have r2 := r.ext (e1.trans e2)
   have lla := r2.cur.1.len
   rw [List.length_map] at lla
   dsimp only at lla
   refine bind_bool (¬ (lastTo 0 (x.2.take i) ≤ e.1 ∧ e.1 ≤ e.2.1 ∧ e.2.1 ≤ R.E.length)) ?_ fun bb h3 e3 hb3 => ?_
   ·subst hat
    refine s_cell (b := .int .i64) e.1 rfl o2.cells rfl (wp_ifB (fun hx => s_ret ⟨rfl, Ext.refl _, true, rfl, Iff.intro (fun _ h => by rw [ltI_iff] at hx; omega) fun _ => rfl⟩) fun hx => s_cell (b := .int .i64) e.2.1 rfl o2.cells rfl (s_cell (b := .int .i64) e.1 rfl o2.cells rfl (wp_ifB (fun hy => s_ret ⟨rfl, Ext.refl _, true, rfl, Iff.intro (fun _ h => by rw [ltI_iff] at hy; omega) fun _ => rfl⟩) fun hy => s_cell (b := .int .i64) e.2.1 rfl o2.cells rfl (wp_grd rfl (wp_grd rfl (s_cell (b := .sl) R.sa rfl r2.ob.cells rfl (s_ret ⟨rfl, Ext.refl _, _, rfl, ?_⟩)))))))
    rw [ltI_not] at hx hy
    rw [gtI_iff, natI_def, lla]
    omega
   have e03 := (e1.trans e2).trans e3
   refine wp_ifB (fun hx => s_ret ⟨fun hh => absurd hh (by decide), fun _ => ⟨e03, .inr ⟨rfl, rfl, fun hp => hb3.1 hx (hp.at hie)⟩⟩⟩) fun hx => ?_
   have hpl : lastTo 0 (x.2.take i) ≤ e.1 ∧ e.1 ≤ e.2.1 ∧ e.2.1 ≤ R.E.length := by
    by_cases hh : lastTo 0 (x.2.take i) ≤ e.1 ∧ e.1 ≤ e.2.1 ∧ e.2.1 ≤ R.E.length
    ·exact hh
    ·rw [hb3.2 hh] at hx; cases hx
   refine s_cell (b := .int .i64) e.2.1 rfl (o2.ext e3).cells rfl ?_
   rw [add_ok (by omega) (by omega)]
   exact s_ret ⟨fun _ => ⟨(e.2.1, (i : Int) + 1, ()), rfl, ⟨i + 1, by omega, by dsimp only; omega, by rw [htk, lastTo_snoc], by rw [htk, Plc.append]; exact ⟨hplc, hpl.1, hpl.2.1, hpl.2.2, trivial⟩, e03⟩, by dsimp only; omega⟩, fun hh => absurd rfl hh⟩
  ·rw [ltI_not, natI_def, xlen] at hd
   have : i = x.2.length := by omega
   subst this
   rw [List.take_length] at hplc
   exact s_ret ⟨fun hh => absurd hh (by decide), fun _ => ⟨e1, .inl ⟨rfl, rfl, hplc⟩⟩⟩
 rintro tag vs h1 ⟨e1, ⟨rfl, rfl, hplc⟩ | ⟨rfl, rfl, hplc⟩⟩
 ·refine s_tag (s_cast0 ?_)
  refine wp_while (fun (q : Int × Unit) h' => ∃ i : Nat, i ≤ x.2.length ∧ q.1 = i ∧ fitsE R.enc (putsOf (x.2.take i)) ∧ Ext h h') (fun q _ => (x.2.length - q.1).toNat)
   (fun tag vs h' => Ext h h' ∧ ((tag = 4 ∧ vs = [] ∧ fitsE R.enc (putsOf x.2)) ∨ (tag = 1 ∧ vs = [i64v 11] ∧ ¬ fitsE R.enc (putsOf x.2)))) ⟨0, Nat.zero_le _, rfl, fun a ha => (by simp [putsOf] at ha), e1⟩ ?_ ?_
  ·rintro ⟨(i' : Int), u⟩ h2 ⟨i, hil, hi', hfit, e2⟩
   dsimp only at hi' ⊢
   subst hi'
   refine wp_ifB (fun hd => ?_) fun hd => ?_
   ·rw [ltI_iff, natI_def, xlen] at hd
    obtain ⟨e, hie⟩ : ∃ e, x.2[i]? = some e := ⟨x.2[i]'(by omega), List.getElem?_eq_getElem (by omega)⟩
    refine wp_while (fun (q : Int × Unit) h' => ∃ j : Nat, j ≤ e.2.2.1.2.length ∧ q.1 = j ∧ fitsE R.enc (e.2.2.1.2.take j) ∧ Ext h h') (fun q _ => (e.2.2.1.2.length - q.1).toNat)
     (fun tag vs h' => Ext h h' ∧ ((tag = 6 ∧ vs = [] ∧ fitsE R.enc e.2.2.1.2) ∨ (tag = 1 ∧ vs = [i64v 11] ∧ ¬ fitsE R.enc (putsOf x.2)))) ⟨0, Nat.zero_le _, rfl, fun a ha => (by simp at ha), e2⟩ ?_ ?_
    ·rintro ⟨(j' : Int), v⟩ h3 ⟨j, hjl, hj', hfj, e3⟩
     dsimp only at hj' ⊢
     subst hj'
     have ok3 := ok.ext e3
     have ls := ok_lst ok3 hie
     have hll := ls.len
     have hbd := ls.bound
     have r3 := r.ext e3
     refine s_fldE (b := .sl) (z := e.2.2.1.1) ok3 hie rfl (wp_ifB (fun hx => ?_) fun hx => ?_)
     ·rw [ltI_iff, natI_def, hll] at hx
      obtain ⟨b, hb⟩ : ∃ b, e.2.2.1.2[j]? = some b := ⟨e.2.2.1.2[j]'(by omega), List.getElem?_eq_getElem (by omega)⟩
      have hgd : e.2.2.1.2.getD ((j : Int)).toNat 0 = b := by rw [Int.toNat_natCast, List.getD_eq_getElem?_getD, hb]; rfl
      have htj : e.2.2.1.2.take (j + 1) = e.2.2.1.2.take j ++ [b] := by rw [List.take_add_one, hb]; rfl
      refine wp_grd rfl (wp_grd rfl (s_cell (b := .int .i64) R.enc rfl r3.ob.cells rfl (s_fldE (b := .sl) (z := e.2.2.1.1) ok3 hie rfl (s_at ls (by omega) (by omega) fun _ => ?_))))
      rw [hgd]
      refine wp_call (c_ref_Fits R.enc b) fun ⟨(ft : Bool), _⟩ h4 e4 hft => ?_
      have hft : ft = decide (0 < sizeF R.enc b) := hft
      dsimp only
      refine wp_ifB (fun hn => s_ret ⟨fun hh => absurd hh (by decide), fun _ => ⟨e3.trans e4, .inr ⟨rfl, rfl, fun hf => ?_⟩⟩⟩) fun hn => ?_
      ·rw [notB_iff, hft] at hn
       exact of_decide_eq_false hn (hf b (List.mem_flatMap.2 ⟨e, List.mem_of_getElem? hie, List.mem_of_getElem? hb⟩))
      rw [notB_not, hft] at hn
      have hsb := of_decide_eq_true hn
      rw [add_ok (by omega) (by omega)]
      refine s_ret ⟨fun _ => ⟨((j : Int) + 1, ()), rfl, ⟨j + 1, by omega, by dsimp only; omega, ?_, e3.trans e4⟩, by dsimp only; omega⟩, fun hh => absurd rfl hh⟩
      rw [htj]
      intro z hz
      rcases List.mem_append.1 hz with hz | hz
      ·exact hfj z hz
      ·rw [List.mem_singleton.1 hz]; exact hsb
     ·rw [ltI_not, natI_def, hll] at hx
      have : j = e.2.2.1.2.length := by omega
      subst this
      rw [List.take_length] at hfj
      exact s_ret ⟨fun hh => absurd hh (by decide), fun _ => ⟨e3, .inl ⟨rfl, rfl, hfj⟩⟩⟩
    ·rintro tag vs h3 ⟨e3, ⟨rfl, rfl, hf⟩ | ⟨rfl, rfl, hf⟩⟩
     ·refine s_tag (s_cast0 ?_)
      rw [add_ok (by omega) (by omega)]
      refine s_ret ⟨fun _ => ⟨((i : Int) + 1, ()), rfl, ⟨i + 1, by omega, by dsimp only; omega, ?_, e3⟩, by dsimp only; omega⟩, fun hh => absurd rfl hh⟩
      rw [putsOf_succ hie]
      intro z hz
      rcases List.mem_append.1 hz with hz | hz
      ·exact hfit z hz
      ·exact hf z hz
     ·exact s_skip (by decide) (s_tag (s_castI (s_ret ⟨fun hh => absurd hh (by decide), fun _ => ⟨e3, .inr ⟨rfl, rfl, hf⟩⟩⟩)))
   ·rw [ltI_not, natI_def, xlen] at hd
    have : i = x.2.length := by omega
    subst this
    rw [List.take_length] at hfit
    exact s_ret ⟨fun hh => absurd hh (by decide), fun _ => ⟨e2, .inl ⟨rfl, rfl, hfit⟩⟩⟩
  ·rintro tag vs h2 ⟨e2, ⟨rfl, rfl, hf⟩ | ⟨rfl, rfl, hf⟩⟩
   ·exact s_tag (s_cast0 (s_ret ⟨rfl, e2, (0, ()), rfl, .inr (.inr (.inr ⟨hmany, hplc, hf, rfl⟩))⟩))
   ·exact s_skip (by decide) (s_tag (s_castI (s_ret ⟨rfl, e2, (11, ()), rfl, .inr (.inr (.inl ⟨hmany, hplc, hf, rfl⟩))⟩)))
 ·exact s_skip (by decide) (s_tag (s_castI (s_ret ⟨rfl, e1, (2, ()), rfl, .inr (.inl ⟨hmany, hplc, rfl⟩)⟩)))
end Go.Sw.Piece

set_option linter.unusedVariables false
set_option linter.unusedSimpArgs false
set_option maxRecDepth 100000
namespace Go.Sw.Piece
open Go.Sw.Any Go.Sw.Codec
open Go.Sw.Tree (iv s_putAll s_newP s_getP s_getT s_putP eqI_self Placed cell_own wp_whileG minI_eq)
variable {P : Program} {S : Ids} {h : Heap} {Q : Nat → List Value → Heap → Prop}
theorem s_r2 {h0 : Heap} {n a : Nat} {enc limit u v : Int} {sA sT : Sl} {D : List El} {K : Prog} (g : RI h0 n a enc limit h sA sT (D.map (·.1)) (D.map (·.2))) (hu : fitsI .i64 u) (hv : fitsI .i64 v) (hl : D.length ≤ 4294967296)
  (hk : ∀ h' sA' sT', RI h0 n a enc limit h' sA' sT' ((D ++ [(u, v)]).map (·.1)) ((D ++ [(u, v)]).map (·.2)) → wp P K h' Q) :
  wp P (.alloc [i64v u] fun (c : Addr) => .check (shiftTo (some (at0 a)) 2) [slv sA] <| .append 1 8 [.int .i64 0] sA ⟨some c, 1, 1⟩ fun (r : Sl) => .store (shiftTo (some (at0 a)) 2) [slv r] <|
   .load (.one .sl) (shiftTo (some (at0 a)) 3) fun (l : Sl) => .alloc [i64v v] fun (c2 : Addr) => .append 1 8 [.int .i64 0] l ⟨some c2, 1, 1⟩ fun (r2 : Sl) => .store (shiftTo (some (at0 a)) 3) [slv r2] K) h Q := by
 refine s_allocL (k := .i64) [u] (by intro z hz; rw [List.mem_singleton.1 hz]; exact hu) (by simp) fun h1 e1 o1 => ?_
 have g1 := g.ext e1
 refine s_ckC (cells_iff.1 g1.o.cells 2 _ rfl) (s_rA g1 o1.lst (by rw [List.length_map, List.length_singleton]; omega) fun h2 sA2 g2 => s_cell (b := .sl) sT rfl g2.o.cells rfl ?_)
 refine s_allocL (k := .i64) [v] (by intro z hz; rw [List.mem_singleton.1 hz]; exact hv) (by simp) fun h3 e3 o3 => ?_
 have g3 := g2.ext e3
 refine s_rT g3 o3.lst (by rw [List.length_map, List.length_singleton]; omega) fun h4 sT4 g4 => hk h4 sA2 sT4 ?_
 rw [List.map_append, List.map_append]
 exact g4
theorem c_refChange {n : Nat} {R : RX} {x : Eds} (r : RefT n h R) (hn : n ≤ h.size) (ok : (Sh.list EdSh).ok h x) (hE : R.E.length ≤ 65536) (hL : x.2.length ≤ 1073741824) (hPL : (putsOf x.2).length ≤ 1000000000) :
  wp P (F_ref_Text_Change S (some (at0 R.b)) x.1) h fun tag vs h' => tag = 0 ∧ ∃ q R', vs = [i64v q] ∧ RefE R.enc R.limit R.E x.2 q ∧ RefT n h' R' ∧ Chg (fun i => i = R.b) h h' ∧ R'.b = R.b ∧ R'.enc = R.enc ∧ R'.limit = R.limit ∧ R'.K = R.K ∧
   R'.E = (if q = 0 then allE R.E x.2 else R.E) ∧ (∀ i, R.Z i → R'.Z i) ∧ ∀ i, R'.Z i → R.Z i ∨ h.size ≤ i := by
 unfold F_ref_Text_Change
 have xlen := ok.len
 refine wp_call (c_refuses r ok hE hL) fun ⟨(q : Int), _⟩ h1 e1 hq => ?_
 have r1 := r.ext e1
 have same : ∀ {h' : Heap} {q' : Int}, Ext h h' → RefE R.enc R.limit R.E x.2 q' → q' ≠ 0 → ∃ q R', [i64v q'] = [i64v q] ∧ RefE R.enc R.limit R.E x.2 q ∧ RefT n h' R' ∧ Chg (fun i => i = R.b) h h' ∧ R'.b = R.b ∧ R'.enc = R.enc ∧ R'.limit = R.limit ∧ R'.K = R.K ∧
   R'.E = (if q = 0 then allE R.E x.2 else R.E) ∧ (∀ i, R.Z i → R'.Z i) ∧ ∀ i, R'.Z i → R.Z i ∨ h.size ≤ i := fun {h'} {q'} e hr hq' =>
  ⟨q', R, rfl, hr, r.ext e, Chg.of_ext e, rfl, rfl, rfl, rfl, by rw [if_neg hq'], fun _ z => z, fun _ z => .inl z⟩
 have hq : (70000 < x.2.length ∧ q = 3) ∨ (x.2.length ≤ 70000 ∧ ¬ Plc R.E.length 0 x.2 ∧ q = 2) ∨ (x.2.length ≤ 70000 ∧ Plc R.E.length 0 x.2 ∧ ¬ fitsE R.enc (putsOf x.2) ∧ q = 11) ∨ (x.2.length ≤ 70000 ∧ Plc R.E.length 0 x.2 ∧ fitsE R.enc (putsOf x.2) ∧ q = 0) := hq
 dsimp only
 refine wp_ifB (fun hc => ?_) fun hc => ?_
 ·rw [neI_iff] at hc
  refine s_ret ⟨rfl, same e1 ?_ hc⟩
  rcases hq with h | h | h | h
  ·exact .inl h
  ·exact .inr (.inl h)
  ·exact .inr (.inr (.inl h))
  ·exact absurd h.2.2.2 hc
 rw [neI_not] at hc
 obtain ⟨hmany, hplc, hfit⟩ : x.2.length ≤ 70000 ∧ Plc R.E.length 0 x.2 ∧ fitsE R.enc (putsOf x.2) := by
  rcases hq with h | h | h | h
  ·omega
  ·omega
  ·omega
  ·exact ⟨h.1, h.2.1, h.2.2.1⟩
 subst hc
 have lim := r.lim
 have hall := all_fwd (E := R.E) (Int.le_refl 0) (by omega) hplc
 have hpb := puts_blen (enc := R.enc) (E := R.E) (a := 0) hfit
 have hall0 : allE R.E x.2 = fwd R.E 0 x.2 := by rw [hall]; rfl
 rw [← hall0] at hpb
 have hsz : (∀ i, sizeL R.enc (putsOf (x.2.take i)) ≤ sizeL R.enc (putsOf x.2)) := fun i => by
  have : putsOf x.2 = putsOf (x.2.take i) ++ putsOf (x.2.drop i) := by unfold putsOf; rw [← List.flatMap_append, List.take_append_drop]
  rw [this, sizeL_append]; have := sizeL_le R.enc (putsOf (x.2.drop i)); omega
 refine wp_while (fun (q : Int × Int × Unit) h' => ∃ i : Nat, i ≤ x.2.length ∧ q.2.1 = i ∧ q.1 = sizeL R.enc (putsOf (x.2.take i)) ∧ Ext h h') (fun q _ => (x.2.length - q.2.1).toNat)
  (fun tag vs h' => Ext h h' ∧ ((tag = 2 ∧ vs = []) ∨ (tag = 1 ∧ vs = [i64v 50] ∧ R.limit < blen R.enc (allE R.E x.2)))) ⟨0, Nat.zero_le _, rfl, rfl, e1⟩ ?_ ?_
 ·rintro ⟨(s : Int), (i' : Int), u⟩ h2 ⟨i, hil, hi', hs, e2⟩
  dsimp only at hi' hs ⊢
  subst hi'; subst hs
  refine wp_ifB (fun hd => ?_) fun hd => s_ret ⟨fun hh => absurd hh (by decide), fun _ => ⟨e2, .inl ⟨rfl, rfl⟩⟩⟩
  rw [ltI_iff, natI_def, xlen] at hd
  obtain ⟨e, hie⟩ : ∃ e, x.2[i]? = some e := ⟨x.2[i]'(by omega), List.getElem?_eq_getElem (by omega)⟩
  have hsi := hsz (i + 1)
  rw [putsOf_succ hie, sizeL_append] at hsi
  have hs0 := sizeL_le R.enc (putsOf (x.2.take i))
  have hpl := putsOf_le x.2 i
  have hpl1 := putsOf_le x.2 (i + 1)
  rw [putsOf_succ hie, List.length_append] at hpl1
  refine wp_while (fun (q : Int × Int × Unit) h' => ∃ j : Nat, j ≤ e.2.2.1.2.length ∧ q.2.1 = j ∧ q.1 = sizeL R.enc (putsOf (x.2.take i)) + sizeL R.enc (e.2.2.1.2.take j) ∧ Ext h h') (fun q _ => (e.2.2.1.2.length - q.2.1).toNat)
   (fun tag vs h' => Ext h h' ∧ ((tag = 4 ∧ vs = [i64v (sizeL R.enc (putsOf (x.2.take i)) + sizeL R.enc e.2.2.1.2)]) ∨ (tag = 1 ∧ vs = [i64v 50] ∧ R.limit < blen R.enc (allE R.E x.2)))) ⟨0, Nat.zero_le _, rfl, by simp [sizeL], e2⟩ ?_ ?_
  ·rintro ⟨(s : Int), (j' : Int), v⟩ h3 ⟨j, hjl, hj', hs, e3⟩
   dsimp only at hj' hs ⊢
   subst hj'; subst hs
   have ok3 := ok.ext e3
   have ls := ok_lst ok3 hie
   have hll := ls.len
   have hbd := ls.bound
   have r3 := r.ext e3
   refine s_fldE (b := .sl) (z := e.2.2.1.1) ok3 hie rfl (wp_ifB (fun hx => ?_) fun hx => ?_)
   ·rw [ltI_iff, natI_def, hll] at hx
    obtain ⟨b, hb⟩ : ∃ b, e.2.2.1.2[j]? = some b := ⟨e.2.2.1.2[j]'(by omega), List.getElem?_eq_getElem (by omega)⟩
    have hgd : e.2.2.1.2.getD ((j : Int)).toNat 0 = b := by rw [Int.toNat_natCast, List.getD_eq_getElem?_getD, hb]; rfl
    have htj : sizeL R.enc (e.2.2.1.2.take (j + 1)) = sizeL R.enc (e.2.2.1.2.take j) + sizeF R.enc b := by rw [List.take_add_one, hb, sizeL_append]; simp [sizeL]
    have hsj : sizeL R.enc (e.2.2.1.2.take (j + 1)) ≤ sizeL R.enc e.2.2.1.2 := by
     have : sizeL R.enc e.2.2.1.2 = sizeL R.enc (e.2.2.1.2.take (j + 1)) + sizeL R.enc (e.2.2.1.2.drop (j + 1)) := by rw [← sizeL_append, List.take_append_drop]
     have := sizeL_le R.enc (e.2.2.1.2.drop (j + 1)); omega
    have hsj0 := sizeL_le R.enc (e.2.2.1.2.take j)
    have hse := sizeL_le R.enc e.2.2.1.2
    have hsb := sizeF_pos R.enc b
    refine wp_grd rfl (wp_grd rfl (s_cell (b := .int .i64) R.enc rfl r3.ob.cells rfl (s_fldE (b := .sl) (z := e.2.2.1.1) ok3 hie rfl (s_at ls (by omega) (by omega) fun _ => ?_))))
    rw [hgd]
    refine wp_call (c_ref_Size R.enc b) fun ⟨(z : Int), _⟩ h4 e4 hz => ?_
    have hz : z = sizeF R.enc b := hz
    subst hz
    dsimp only
    rw [add_ok (by omega) (by omega)]
    refine wp_grd rfl (wp_grd rfl (s_cell (b := .int .i64) R.limit rfl (r3.ext e4).ob.cells rfl (wp_ifB (fun hg => s_ret ⟨fun hh => absurd hh (by decide), fun _ => ⟨e3.trans e4, .inr ⟨rfl, rfl, ?_⟩⟩⟩) fun hg => ?_)))
    ·rw [gtI_iff] at hg; omega
    ·rw [add_ok (by omega) (by omega)]
     exact s_ret ⟨fun _ => ⟨(sizeL R.enc (putsOf (x.2.take i)) + sizeL R.enc (e.2.2.1.2.take j) + sizeF R.enc b, (j : Int) + 1, ()), rfl, ⟨j + 1, by omega, by dsimp only; omega, by dsimp only; omega, e3.trans e4⟩, by dsimp only; omega⟩, fun hh => absurd rfl hh⟩
   ·rw [ltI_not, natI_def, hll] at hx
    have : j = e.2.2.1.2.length := by omega
    subst this
    rw [List.take_length]
    exact s_ret ⟨fun hh => absurd hh (by decide), fun _ => ⟨e3, .inl ⟨rfl, rfl⟩⟩⟩
  ·rintro tag vs h3 ⟨e3, ⟨rfl, rfl⟩ | ⟨rfl, rfl, hg⟩⟩
   ·refine s_tag (s_castI ?_)
    rw [add_ok (by omega) (by omega)]
    exact s_ret ⟨fun _ => ⟨(sizeL R.enc (putsOf (x.2.take i)) + sizeL R.enc e.2.2.1.2, (i : Int) + 1, ()), rfl, ⟨i + 1, by omega, by dsimp only; omega, by rw [putsOf_succ hie, sizeL_append], e3⟩, by dsimp only; omega⟩, fun hh => absurd rfl hh⟩
   ·exact s_skip (by decide) (s_tag (s_castI (s_ret ⟨fun hh => absurd hh (by decide), fun _ => ⟨e3, .inr ⟨rfl, rfl, hg⟩⟩⟩)))
 rintro tag vs h2 ⟨e2, hx2⟩
 rcases hx2.symm with ⟨rfl, rfl, hg⟩ | ⟨rfl, rfl⟩
 ·exact s_skip (by decide) (s_tag (s_castI (s_ret ⟨rfl, same e2 (.inr (.inr (.inr (.inl ⟨hmany, hplc, hfit, hg, rfl⟩)))) (by decide)⟩)))
 have r2 := r.ext e2
 refine s_tag (s_cast0 (wp_grd rfl (wp_grd rfl (s_cell (b := .int .i64) R.enc rfl r2.ob.cells rfl (wp_grd rfl (wp_grd rfl (s_cell (b := .int .i64) R.limit rfl r2.ob.cells rfl ?_)))))))
 refine s_newO (bs := [.int .i64, .int .i64, .sl, .sl, .sl]) (R.enc, R.limit, ⟨none, 0, 0⟩, ⟨none, 0, 0⟩, ⟨none, 0, 0⟩, ()) (by decide) fun h3 e3 o3 => ?_
 have o3 : Own h2.size 1 h3 ⟨some (at0 h2.size), 5, 5⟩ [i64v R.enc, i64v R.limit, .slice none 0 0, .slice none 0 0, .slice none 0 0] := o3
 have q3 : h2.size < h3.size := (o3.lt rfl).2
 let D : Nat → Nat → List El := fun i k => fwdD R.E 0 (x.2.take k) ++ (R.E.drop (lastTo 0 (x.2.take k)).toNat).take (i - (lastTo 0 (x.2.take k)).toNat)
 have dlen : ∀ i k, i ≤ R.E.length + 1 → (D i k).length ≤ 2147483648 := fun i k hi => by
  have h1 := fwdD_len (Int.le_refl 0) (hplc.take k)
  have h2 := lastTo_hi (Int.natCast_nonneg R.E.length) (hplc.take k)
  have h3 := putsOf_le x.2 k
  show (fwdD R.E 0 (x.2.take k) ++ _).length ≤ _
  rw [List.length_append, List.length_take, List.length_drop]; omega
 let G : Nat → Nat → Heap → Sl → Sl → Prop := fun i k h' sA sT => RI h2 h3.size h2.size R.enc R.limit h' sA sT ((D i k).map (·.1)) ((D i k).map (·.2))
 have G0 : G 0 0 h3 ⟨none, 0, 0⟩ ⟨none, 0, 0⟩ := ⟨e3, o3, OwnL.nil _ _ _, OwnL.nil _ _ _, fun _ _ h => (by cases h), q3, Nat.le_refl _⟩
 have rr : ∀ {h'}, Ext h2 h' → RefT n h' R := fun e => r2.ext e
 have okk : ∀ {h'}, Ext h2 h' → (Sh.list EdSh).ok h' x := fun e => ok.ext (e2.trans e)
 have lla : R.sa.len = R.E.length := by have := r.cur.1.len; rw [List.length_map] at this; exact this
 have llt : R.st.len = R.E.length := by have := r.cur.2.len; rw [List.length_map] at this; exact this
 have lo := fun k => lastTo_lo (hplc.take k)
 have hi := fun k => lastTo_hi (Int.natCast_nonneg R.E.length) (hplc.take k)
 refine wp_whileG (G := Nat × Nat × Sl × Sl) (fun g (q : Int × Int × Int × Unit) h' => q.2.2.1 = g.1 ∧ q.1 = g.2.1 ∧ q.2.1 = lastTo 0 (x.2.take g.2.1) ∧ g.1 ≤ R.E.length + 1 ∧ g.2.1 ≤ x.2.length ∧ (∀ e, x.2[g.2.1]? = some e → (g.1 : Int) ≤ e.1) ∧ G g.1 g.2.1 h' g.2.2.1 g.2.2.2) (fun g => R.E.length + 1 - g.1)
  (fun tag vs h' => tag = 6 ∧ vs = [] ∧ ∃ sA sT, RI h2 h3.size h2.size R.enc R.limit h' sA sT ((allE R.E x.2).map (·.1)) ((allE R.E x.2).map (·.2))) (0, 0, ⟨none, 0, 0⟩, ⟨none, 0, 0⟩)
  ⟨rfl, rfl, rfl, Nat.zero_le _, Nat.zero_le _, fun e he => by have := hplc.at he; have := lo 0; simp [lastTo] at *; omega, G0⟩ ?_ ?_
 ·rintro ⟨i, k, sA, sT⟩ ⟨(k' : Int), (g' : Int), (i' : Int), u⟩ h4 ⟨hi', hk', hg', hil, hkl, hnext, g⟩
  dsimp only at hi' hk' hg' hil hkl hnext g ⊢
  subst hi'; subst hk'; subst hg'
  refine wp_grd rfl (wp_grd rfl (s_cell (b := .sl) R.sa rfl (rr g.k).ob.cells rfl (wp_ifB (fun hd => ?_) fun hd => ?_)))
  ·rw [leI_iff, natI_def, lla] at hd
   refine wp_bind (fun tag vs h' => tag = 0 ∧ ∃ k sA sT, vs = [i64v (k : Nat), i64v (lastTo 0 (x.2.take k))] ∧ k ≤ x.2.length ∧ (∀ e, x.2[k]? = some e → ((i + 1 : Nat) : Int) ≤ e.1) ∧ G (i + 1) k h' sA sT) ?_ ?_
   · -- the edits that begin here
    refine wp_whileG (G := Nat × Sl × Sl) (fun gg (q : Int × Int × Unit) h' => q.1 = gg.1 ∧ q.2.1 = lastTo 0 (x.2.take gg.1) ∧ gg.1 ≤ x.2.length ∧ (∀ e, x.2[gg.1]? = some e → (i : Int) ≤ e.1) ∧ G i gg.1 h' gg.2.1 gg.2.2) (fun gg => x.2.length - gg.1)
     (fun tag vs h' => tag = 8 ∧ ∃ k sA sT, vs = [i64v (k : Nat), i64v (lastTo 0 (x.2.take k))] ∧ k ≤ x.2.length ∧ (∀ e, x.2[k]? = some e → ((i + 1 : Nat) : Int) ≤ e.1) ∧ G i k h' sA sT) (k, sA, sT) ⟨rfl, rfl, hkl, hnext, g⟩ ?_ ?_
    ·rintro ⟨k, sA, sT⟩ ⟨(k' : Int), (g' : Int), v⟩ h5 ⟨hk', hg', hkl, hnext, g⟩
     dsimp only at hk' hg' hkl hnext g ⊢
     subst hk'; subst hg'
     refine bind_bool (∃ e, x.2[k]? = some e ∧ e.1 = (i : Int)) ?_ fun bb h6 e6 hb6 => ?_
     ·refine wp_ifB (fun hx => ?_) fun hx => s_ret ⟨rfl, Ext.refl _, false, rfl, Iff.intro (fun h => by cases h) fun ⟨e, he, _⟩ => ?_⟩
      ·rw [ltI_iff, natI_def, xlen] at hx
       obtain ⟨e, he⟩ : ∃ e, x.2[k]? = some e := ⟨x.2[k]'(by omega), List.getElem?_eq_getElem (by omega)⟩
       refine s_fldE (b := .int .i64) (z := e.1) (okk g.k) he rfl (s_ret ⟨rfl, Ext.refl _, _, rfl, ?_⟩)
       rw [eqI_iff]
       exact ⟨fun h => ⟨e, he, h⟩, fun ⟨e', he', h⟩ => by rw [he] at he'; cases he'; exact h⟩
      ·rw [ltI_not, natI_def, xlen] at hx
       have := (List.getElem?_eq_some_iff.1 he).1; omega
     have g6 : G i k h6 sA sT := g.ext e6
     refine wp_ifB (fun hx => ?_) fun hx => ?_
     ·obtain ⟨e, he, hei⟩ := hb6.1 hx
      have hpe := hplc.at he
      have htk : x.2.take (k + 1) = x.2.take k ++ [e] := by rw [List.take_add_one, he]; rfl
      have hls : lastTo 0 (x.2.take (k + 1)) = e.2.1 := by rw [htk, lastTo_snoc]
      have hkl2 := (List.getElem?_eq_some_iff.1 he).1
      have hplen := putsOf_le x.2 (k + 1)
      rw [putsOf_succ he, List.length_append] at hplen
      have hD : D i (k + 1) = D i k ++ newE e.2.2.1.2 := by
       show fwdD R.E 0 (x.2.take (k + 1)) ++ (R.E.drop (lastTo 0 (x.2.take (k + 1))).toNat).take (i - (lastTo 0 (x.2.take (k + 1))).toNat) = fwdD R.E 0 (x.2.take k) ++ (R.E.drop (lastTo 0 (x.2.take k)).toNat).take (i - (lastTo 0 (x.2.take k)).toNat) ++ newE e.2.2.1.2
       rw [hls, show i - e.2.1.toNat = 0 by omega, List.take_zero, List.append_nil, htk, fwdD_append]
       simp only [fwdD, List.append_nil]
       rw [show e.1.toNat = i by omega, List.append_assoc]
      have dl := dlen i k hil
      refine wp_whileG (G := Nat × Sl × Sl) (fun gg (q : Int × Unit) h' => q.1 = gg.1 ∧ gg.1 ≤ e.2.2.1.2.length ∧ RI h2 h3.size h2.size R.enc R.limit h' gg.2.1 gg.2.2 ((D i k ++ newE (e.2.2.1.2.take gg.1)).map (·.1)) ((D i k ++ newE (e.2.2.1.2.take gg.1)).map (·.2))) (fun gg => e.2.2.1.2.length - gg.1)
       (fun tag vs h' => tag = 10 ∧ vs = [] ∧ ∃ sA sT, G i (k + 1) h' sA sT) (0, sA, sT) ⟨rfl, Nat.zero_le _, by simpa using g6⟩ ?_ ?_
      ·rintro ⟨j, sA, sT⟩ ⟨(j' : Int), w⟩ h7 ⟨hj', hjl, g7⟩
       dsimp only at hj' hjl g7 ⊢
       subst hj'
       have ok7 := okk g7.k
       have ls := ok_lst ok7 he
       have hll := ls.len
       refine s_fldE (b := .sl) (z := e.2.2.1.1) ok7 he rfl (wp_ifB (fun hy => ?_) fun hy => ?_)
       ·rw [ltI_iff, natI_def, hll] at hy
        obtain ⟨b, hb⟩ : ∃ b, e.2.2.1.2[j]? = some b := ⟨e.2.2.1.2[j]'(by omega), List.getElem?_eq_getElem (by omega)⟩
        have hgd : e.2.2.1.2.getD ((j : Int)).toNat 0 = b := by rw [Int.toNat_natCast, List.getD_eq_getElem?_getD, hb]; rfl
        have htj : e.2.2.1.2.take (j + 1) = e.2.2.1.2.take j ++ [b] := by rw [List.take_add_one, hb]; rfl
        refine s_cell (b := .sl) sA rfl g7.o.cells rfl (s_fldE (b := .sl) (z := e.2.2.1.1) ok7 he rfl (s_at ls (by omega) (by omega) fun hfb => ?_))
        rw [hgd] at hfb ⊢
        refine s_r2 g7 hfb (fits_i64.2 (by decide)) (by rw [List.length_append, List.length_map, List.length_take]; omega) fun h8 sA8 sT8 g8 => ?_
        rw [add_ok (by omega) (by omega)]
        refine s_ret ⟨fun _ => ⟨(j + 1, sA8, sT8), ((j : Int) + 1, ()), rfl, ⟨by dsimp only; omega, by dsimp only; omega, ?_⟩, by dsimp only; omega⟩, fun hh => absurd rfl hh⟩
        dsimp only
        rw [htj, show newE (e.2.2.1.2.take j ++ [b]) = newE (e.2.2.1.2.take j) ++ [(b, -1)] by simp, ← List.append_assoc]
        exact g8
       ·rw [ltI_not, natI_def, hll] at hy
        have : j = e.2.2.1.2.length := by omega
        subst this
        rw [List.take_length] at g7
        exact s_ret ⟨fun hh => absurd hh (by decide), fun _ => ⟨rfl, rfl, sA, sT, by show RI _ _ _ _ _ _ _ _ ((D i (k + 1)).map _) ((D i (k + 1)).map _); rw [hD]; exact g7⟩⟩
      ·rintro tag vs h7 ⟨rfl, rfl, sA7, sT7, g7⟩
       refine s_tag (s_cast0 (s_fldE (b := .int .i64) (z := e.2.1) (okk g7.k) he rfl ?_))
       rw [add_ok (by omega) (by omega)]
       refine s_ret ⟨fun _ => ⟨(k + 1, sA7, sT7), ((k : Int) + 1, e.2.1, ()), rfl, ⟨by dsimp only; omega, hls.symm, hkl2, fun e' he' => ?_, g7⟩, by dsimp only; omega⟩, fun hh => absurd rfl hh⟩
       have := hplc.at he'
       dsimp only at this
       rw [hls] at this
       omega
     ·have hx : ¬ ∃ e, x.2[k]? = some e ∧ e.1 = (i : Int) := fun h => by rw [hb6.2 h] at hx; cases hx
      refine s_ret ⟨fun hh => absurd hh (by decide), fun _ => ⟨rfl, k, sA, sT, rfl, hkl, fun e he => ?_, g6⟩⟩
      have h1 := hnext e he
      have h2 : e.1 ≠ (i : Int) := fun h => hx ⟨e, he, h⟩
      omega
    ·rintro tag vs h5 ⟨rfl, k, sA, sT, rfl, hkl, hnext, g⟩
     have hlo := lo k; have hhi := hi k
     refine s_tag (wp_cast (tys := [.one (.int .i64), .one (.int .i64)]) ((k : Int), lastTo 0 (x.2.take k), ()) rfl ?_)
     refine bind_bool (i < R.E.length ∧ lastTo 0 (x.2.take k) ≤ (i : Int)) ?_ fun bb h6 e6 hb6 => ?_
     ·refine wp_grd rfl (wp_grd rfl (s_cell (b := .sl) R.sa rfl (rr g.k).ob.cells rfl (wp_ifB (fun hx => s_ret ⟨rfl, Ext.refl _, _, rfl, ?_⟩) fun hx => s_ret ⟨rfl, Ext.refl _, false, rfl, Iff.intro (fun h => by cases h) fun h => ?_⟩)))
      ·rw [ltI_iff, natI_def, lla] at hx
       rw [geI_iff]
       exact ⟨fun h => ⟨by omega, h⟩, fun h => h.2⟩
      ·rw [ltI_not, natI_def, lla] at hx
       omega
     have g6 : G i k h6 sA sT := g.ext e6
     refine wp_ifB (fun hx => ?_) fun hx => ?_
     ·obtain ⟨c1, c2⟩ := hb6.1 hx
      have r6 := rr g6.k
      obtain ⟨⟨a, t⟩, hat⟩ : ∃ y, R.E[i]? = some y := ⟨R.E[i]'c1, List.getElem?_eq_getElem c1⟩
      have hga : (R.E.map (fun y : El => y.1)).getD ((i : Int)).toNat 0 = a := by rw [Int.toNat_natCast, List.getD_eq_getElem?_getD, List.getElem?_map, hat]; rfl
      have hgt : (R.E.map (fun y : El => y.2)).getD ((i : Int)).toNat 0 = t := by rw [Int.toNat_natCast, List.getD_eq_getElem?_getD, List.getElem?_map, hat]; rfl
      have hD : D (i + 1) k = D i k ++ [(a, t)] := by
       show fwdD R.E 0 (x.2.take k) ++ (R.E.drop (lastTo 0 (x.2.take k)).toNat).take (i + 1 - (lastTo 0 (x.2.take k)).toNat) = fwdD R.E 0 (x.2.take k) ++ (R.E.drop (lastTo 0 (x.2.take k)).toNat).take (i - (lastTo 0 (x.2.take k)).toNat) ++ [(a, t)]
       rw [show i + 1 - (lastTo 0 (x.2.take k)).toNat = (i - (lastTo 0 (x.2.take k)).toNat) + 1 by omega, List.take_add_one, List.getElem?_drop, show (lastTo 0 (x.2.take k)).toNat + (i - (lastTo 0 (x.2.take k)).toNat) = i by omega, hat, List.append_assoc]; rfl
      refine s_cell (b := .sl) sA rfl g6.o.cells rfl (wp_grd rfl (wp_grd rfl (s_cell (b := .sl) R.sa rfl r6.ob.cells rfl (s_at r6.cur.1.lst (by omega) (by rw [List.length_map]; dsimp only; omega) fun hfa => ?_))))
      rw [hga] at hfa ⊢
      have dl := dlen i k hil
      refine s_allocL (k := .i64) [a] (by intro z hz; rw [List.mem_singleton.1 hz]; exact hfa) (by simp) fun h7 e7 o7 => ?_
      have g7 := RI.ext g6 e7
      refine s_ckC (cells_iff.1 g7.o.cells 2 _ rfl) (s_rA g7 o7.lst (by rw [List.length_map, List.length_singleton]; omega) fun h8 sA8 g8 => s_cell (b := .sl) sT rfl g8.o.cells rfl ?_)
      have r8 := rr g8.k
      refine wp_grd rfl (wp_grd rfl (s_cell (b := .sl) R.st rfl r8.ob.cells rfl (s_at r8.cur.2.lst (by omega) (by rw [List.length_map]; dsimp only; omega) fun hft => ?_)))
      rw [hgt] at hft ⊢
      refine s_allocL (k := .i64) [t] (by intro z hz; rw [List.mem_singleton.1 hz]; exact hft) (by simp) fun h9 e9 o9 => ?_
      have g9 := g8.ext e9
      refine s_ckC (cells_iff.1 g9.o.cells 3 _ rfl) (s_rT g9 o9.lst (by rw [List.length_map, List.length_singleton]; omega) fun h10 sT10 g10 => s_ret ⟨rfl, k, sA8, sT10, rfl, hkl, hnext, ?_⟩)
      have m1 : (D (i + 1) k).map (fun y : El => y.1) = (D i k).map (fun y : El => y.1) ++ [a] := by rw [hD]; exact List.map_append (l₁ := D i k) (l₂ := [(a, t)])
      have m2 : (D (i + 1) k).map (fun y : El => y.2) = (D i k).map (fun y : El => y.2) ++ [t] := by rw [hD]; exact List.map_append (l₁ := D i k) (l₂ := [(a, t)])
      show RI _ _ _ _ _ _ _ _ ((D (i + 1) k).map (fun y : El => y.1)) ((D (i + 1) k).map (fun y : El => y.2))
      rw [m1, m2]
      exact g10
     ·have hx : ¬ (i < R.E.length ∧ lastTo 0 (x.2.take k) ≤ (i : Int)) := fun h => by rw [hb6.2 h] at hx; cases hx
      refine s_ret ⟨rfl, k, sA, sT, rfl, hkl, hnext, ?_⟩
      have hD : D (i + 1) k = D i k := by
       show fwdD R.E 0 (x.2.take k) ++ (R.E.drop (lastTo 0 (x.2.take k)).toNat).take (i + 1 - (lastTo 0 (x.2.take k)).toNat) = fwdD R.E 0 (x.2.take k) ++ (R.E.drop (lastTo 0 (x.2.take k)).toNat).take (i - (lastTo 0 (x.2.take k)).toNat)
       congr 1
       by_cases h : lastTo 0 (x.2.take k) ≤ (i : Int)
       ·have hlen : R.E.length ≤ i := by
         by_cases h2 : i < R.E.length
         ·exact absurd ⟨h2, h⟩ hx
         ·omega
        exact (List.take_of_length_le (by rw [List.length_drop]; omega)).trans (List.take_of_length_le (by rw [List.length_drop]; omega)).symm
       ·rw [show i + 1 - (lastTo 0 (x.2.take k)).toNat = 0 by omega, show i - (lastTo 0 (x.2.take k)).toNat = 0 by omega]
      show RI _ _ _ _ _ _ _ _ ((D (i + 1) k).map _) ((D (i + 1) k).map _)
      rw [hD]; exact g6
   ·rintro tag vs h5 ⟨rfl, k, sA, sT, rfl, hkl, hnext, g⟩
    refine s_tag (wp_cast (tys := [.one (.int .i64), .one (.int .i64)]) ((k : Int), lastTo 0 (x.2.take k), ()) rfl ?_)
    rw [add_ok (by omega) (by omega)]
    exact s_ret ⟨fun _ => ⟨(i + 1, k, sA, sT), ((k : Int), lastTo 0 (x.2.take k), (i : Int) + 1, ()), rfl, ⟨by dsimp only; omega, rfl, rfl, by dsimp only; omega, hkl, hnext, g⟩, by dsimp only; omega⟩, fun hh => absurd rfl hh⟩
  ·rw [leI_not, natI_def, lla] at hd
   have hkx : k = x.2.length := by
    by_cases hlt : k < x.2.length
    ·obtain ⟨e, he⟩ : ∃ e, x.2[k]? = some e := ⟨x.2[k]'hlt, List.getElem?_eq_getElem hlt⟩
     have h1 := hnext e he
     have h2 := hplc.at he
     omega
    ·omega
   subst hkx
   refine s_ret ⟨fun hh => absurd hh (by decide), fun _ => ⟨rfl, rfl, sA, sT, ?_⟩⟩
   have hD : D i x.2.length = allE R.E x.2 := by
    rw [hall0, fwd_D]
    show fwdD R.E 0 (x.2.take x.2.length) ++ (R.E.drop (lastTo 0 (x.2.take x.2.length)).toNat).take (i - (lastTo 0 (x.2.take x.2.length)).toNat) = _
    rw [List.take_length, List.take_of_length_le (by rw [List.length_drop]; omega)]
   have g' : RI h2 h3.size h2.size R.enc R.limit h4 sA sT ((D i x.2.length).map (·.1)) ((D i x.2.length).map (·.2)) := g
   rw [hD] at g'
   exact g'
 ·rintro tag vs h4 ⟨rfl, rfl, sA, sT, g⟩
  have q34 := g.nh
  have hNf := fits_all hplc r.fit hfit
  have hNl : (allE R.E x.2).length ≤ 1000000000 + 65536 := by
   have h1 := fwdD_len (Int.le_refl 0) hplc
   have h2 := lastTo_hi (Int.natCast_nonneg R.E.length) hplc
   rw [hall0, fwd_D, List.length_append, List.length_drop]; omega
  have r4 := rr g.k
  let N : RX := ⟨h2.size, R.enc, R.limit, sA, sT, ⟨none, 0, 0⟩, allE R.E x.2, [], fun i => h2.size ≤ i ∧ i < h4.size⟩
  have rN : RefT h2.size h4 N := ⟨r.enc, r.lim, g.o, ⟨g.la.mono (by omega), g.lt.mono (by omega)⟩, Own.nil _ _ _, fun k hk => (by cases hk), ⟨Nat.le_refl _, (g.o.lt rfl).2⟩, fun i hi => by
   rcases hi with ⟨y, hy, rfl⟩ | ⟨y, hy, rfl⟩
   ·have := g.la.own.lt hy; exact ⟨⟨by omega, this.2⟩, by show y.block ≠ h2.size; omega, fun a ha => (by cases ha)⟩
   ·have := g.lt.own.lt hy; exact ⟨⟨by omega, this.2⟩, by show y.block ≠ h2.size; omega, fun a ha => (by cases ha)⟩, fun k hk => (by cases hk), fun a ha => (by cases ha), fun i hi => hi, hNf⟩
  refine s_tag (s_cast0 (wp_grd rfl (wp_grd rfl (s_cell (b := .int .i64) R.limit rfl r4.ob.cells rfl ?_))))
  have hsm : (allE R.E x.2).length ≤ 1073741824 := by omega
  refine wp_call (c_refSize rN hsm) fun ⟨(sz : Int), _⟩ h5 e5 hsz => ?_
  have hsz : sz = blen R.enc (allE R.E x.2) := hsz
  subst hsz
  have g5 := g.ext e5
  have r5 := rr g5.k
  have e05 := e2.trans g5.k
  refine s_ckC (cells_iff.1 r5.ob.cells 1 _ rfl) (wp_ifB (fun hc => ?_) fun hc => ?_)
  ·rw [gtI_iff] at hc
   exact s_ret ⟨rfl, same e05 (.inr (.inr (.inr (.inl ⟨hmany, hplc, hfit, hc, rfl⟩)))) (by decide)⟩
  rw [gtI_not] at hc
  refine s_cell (b := .sl) sA rfl g5.o.cells rfl (wp_grd rfl (wp_grd rfl (s_setC' (slv sA) r5.ob (by simp) rfl fun h6 o6 u6 => ?_)))
  have c6 : Chg (fun i => i = R.b) h5 h6 := upd_chg u6
  have hbl : R.b < h.size := (r.lo _ r.zb).2
  have s2 := e2.size
  have g6o := c6.own g5.o fun y hy f => by cases hy; have f : h2.size = R.b := f; omega
  refine s_cell (b := .sl) sT rfl g6o.cells rfl (wp_grd rfl (wp_grd rfl (s_setC' (slv sT) o6 (by simp) rfl fun h7 o7 u7 => ?_)))
  have c7 : Chg (fun i => i = R.b) h6 h7 := upd_chg u7
  have c57 := c6.trans c7 fun _ _ f => f
  have q57 := c57.1
  have r7 : ∀ k, Shows n h5 k → (∀ i, inK k i → i ≠ R.b) → Shows n h7 k := fun k s hk => s.chg c57 fun i hi f => hk i hi f
  have la7 := c57.ownL g5.la fun y hy f => by have := (g5.la.own.lt hy).1; have f : y.block = R.b := f; omega
  have lt7 := c57.ownL g5.lt fun y hy f => by have := (g5.lt.own.lt hy).1; have f : y.block = R.b := f; omega
  have sk7 := c57.own r5.sk fun y hy f => (r.zs y hy).2 f
  have newB : ∀ i, inK (sA, sT, allE R.E x.2) i → h3.size ≤ i ∧ i < h5.size := fun i hi => by
   rcases hi with ⟨y, hy, rfl⟩ | ⟨y, hy, rfl⟩
   ·exact g5.la.own.lt hy
   ·exact g5.lt.own.lt hy
  refine s_ret ⟨rfl, 0, { R with sa := sA, st := sT, E := allE R.E x.2, Z := fun i => R.Z i ∨ inK (sA, sT, allE R.E x.2) i }, rfl, .inr (.inr (.inr (.inr ⟨hmany, hplc, hfit, hc, rfl⟩))), ?_, (Chg.of_ext e05).trans c57 fun _ _ f => f, rfl, rfl, rfl, rfl, rfl, fun i hi => .inl hi, fun i hi => hi.imp id fun hi => by have := newB i hi; omega⟩
  refine ⟨r.enc, r.lim, o7, ⟨la7.mono (by omega), lt7.mono (by omega)⟩, sk7, fun k hk => r7 k (r5.kept k hk) fun i hi => (r.zk k hk i hi).2.1, .inl r.zb, fun i hi => ?_, fun k hk i hi => ⟨.inl (r.zk k hk i hi).1, (r.zk k hk i hi).2⟩, fun a ha => ⟨.inl (r.zs a ha).1, (r.zs a ha).2⟩, fun i hi => ?_, hNf⟩
  ·have hb := newB i hi
   exact ⟨.inr hi, by show i ≠ R.b; omega, fun a ha => by have := (r.lo _ (r.zs a ha).1).2; show a.block ≠ i; omega⟩
  ·rcases hi with hi | hi
   ·have := r.lo i hi; have := e05.size; exact ⟨by omega, by omega⟩
   ·have := newB i hi; exact ⟨by omega, by omega⟩
end Go.Sw.Piece

set_option linter.unusedVariables false
set_option linter.unusedSimpArgs false
set_option maxRecDepth 100000
namespace Go.Sw.Piece
open Go.Sw.Any Go.Sw.Codec
open Go.Sw.Tree (iv s_putAll s_newP s_getP s_getT s_putP eqI_self Placed cell_own wp_whileG minI_eq)
variable {P : Program} {S : Ids} {h : Heap} {Q : Nat → List Value → Heap → Prop}
def partL (l : List Int) (a b : Int) : List Int := (l.take (min b l.length).toNat).drop (max a 0).toNat
theorem part_map (E : List El) (f : El → Int) (a b : Int) : (cutL E a b).map f = partL (E.map f) a b := by
 unfold cutL partL; rw [List.map_drop, List.map_take, List.length_map]
theorem part_succ {l : List Int} {a : Int} {F i : Nat} (hi : l[i]? = some a) (hf : F ≤ i) : (l.take (i + 1)).drop F = (l.take i).drop F ++ [a] := by
 have hlt := (List.getElem?_eq_some_iff.1 hi).1
 rw [List.take_add_one, hi, List.drop_append_of_le_length (by rw [List.length_take]; omega)]; rfl
theorem c_refPart {s : Sl} {l : List Int} {from_ to : Int} (hl : Lst .i64 h s l) (hL : l.length ≤ 1073741824) :
  Gives P (F_ref5_Part S s from_ to) [.one .sl] h fun (y : Sl × Unit) h' => OwnL h.size .i64 h' y.1 (partL l from_ to) := by
 unfold F_ref5_Part Gives
 have ll := hl.len
 refine bind_val (tys := [.one (.int .i64)]) (fun (x : Int × Unit) _ => x.1 = max from_ 0) ?_ fun ⟨(a : Int), _⟩ h1 e1 ha => ?_
 ·refine wp_ifB (fun hc => s_ret ⟨rfl, Ext.refl _, (0, ()), rfl, ?_⟩) fun hc => s_ret ⟨rfl, Ext.refl _, (from_, ()), rfl, ?_⟩
  ·rw [ltI_iff] at hc; show (0 : Int) = _; omega
  ·rw [ltI_not] at hc; show from_ = _; omega
 have ha : a = max from_ 0 := ha
 refine bind_val (tys := [.one (.int .i64)]) (fun (x : Int × Unit) _ => x.1 = min to l.length) ?_ fun ⟨(b : Int), _⟩ h2 e2 hb => ?_
 ·refine wp_ifB (fun hc => s_ret ⟨rfl, Ext.refl _, (natI s.len, ()), rfl, ?_⟩) fun hc => s_ret ⟨rfl, Ext.refl _, (to, ()), rfl, ?_⟩
  ·rw [gtI_iff, natI_def, ll] at hc; show natI s.len = _; rw [natI_def, ll]; omega
  ·rw [gtI_not, natI_def, ll] at hc; show to = _; omega
 have hb : b = min to l.length := hb
 dsimp only
 have e12 := e1.trans e2
 have hp : partL l from_ to = (l.take b.toNat).drop a.toNat := by unfold partL; rw [← ha, ← hb]
 rw [hp]
 refine wp_while (fun (r : Sl × Int × Unit) h' => ∃ i : Nat, r.2.1 = i ∧ a.toNat ≤ i ∧ i ≤ max a.toNat b.toNat ∧ Ext h h' ∧ OwnL h.size .i64 h' r.1 ((l.take i).drop a.toNat)) (fun r _ => (b - r.2.1).toNat)
  (fun tag vs h' => tag = 2 ∧ ∃ r : Sl, vs = [slv r] ∧ Ext h h' ∧ OwnL h.size .i64 h' r ((l.take b.toNat).drop a.toNat))
  ⟨a.toNat, by dsimp only; omega, Nat.le_refl _, by omega, e12, by rw [List.drop_of_length_le (by rw [List.length_take]; omega)]; exact OwnL.nil _ _ _⟩ ?_ ?_
 ·rintro ⟨(r : Sl), (i' : Int), u⟩ h3 ⟨i, hi', hai, hib, e3, o3⟩
  dsimp only at hi' o3 ⊢
  subst hi'
  refine wp_ifB (fun hc => ?_) fun hc => s_ret ⟨fun hh => absurd hh (by decide), fun _ => ⟨rfl, r, rfl, e3, ?_⟩⟩
  ·rw [ltI_iff] at hc
   obtain ⟨v, hv⟩ : ∃ v, l[i]? = some v := ⟨l[i]'(by omega), List.getElem?_eq_getElem (by omega)⟩
   have hgd : l.getD ((i : Int)).toNat 0 = v := by rw [Int.toNat_natCast, List.getD_eq_getElem?_getD, hv]; rfl
   refine s_at (hl.ext e3) (by omega) (by omega) fun hfv => ?_
   rw [hgd] at hfv ⊢
   have hlen : ((l.take i).drop a.toNat).length ≤ 1073741824 := by rw [List.length_drop, List.length_take]; omega
   refine s_allocL (k := .i64) [v] (by intro z hz; rw [List.mem_singleton.1 hz]; exact hfv) (by simp) fun h4 e4 o4 => ?_
   refine s_append (o3.ext e4) (by have := (e3.trans e4).size; omega) o4.lst (by rw [List.length_singleton]; omega) (by rw [List.length_singleton]; omega) fun r' h5 k5 o5 _ _ => ?_
   rw [add_ok (by omega) (by omega)]
   rw [← part_succ hv hai] at o5
   exact s_ret ⟨fun _ => ⟨(r', (i : Int) + 1, ()), rfl, ⟨i + 1, by dsimp only; omega, by omega, by omega, Keep.trans (e3.trans e4) k5, o5⟩, by dsimp only; omega⟩, fun hh => absurd rfl hh⟩
  ·rw [ltI_not] at hc
   have : (l.take b.toNat).drop a.toNat = (l.take i).drop a.toNat := by
    by_cases hx : a.toNat ≤ b.toNat
    ·rw [show i = b.toNat by omega]
    ·rw [List.drop_of_length_le (by rw [List.length_take]; omega), List.drop_of_length_le (by rw [List.length_take]; omega)]
   rw [this]; exact o3
 ·rintro tag vs h3 ⟨rfl, r, rfl, e3, o3⟩
  exact s_tag (wp_cast (tys := [.one .sl]) (r, ()) rfl (s_ret ⟨rfl, e3, (r, ()), rfl, o3⟩))
theorem c_refEnds {s : Sl} {A : List Int} (ha : Lst .i64 h s A) (hl : A.length ≤ 1073741824) : Gives P (F_ref5_Ends S s) [.one .sl] h fun (y : Sl × Unit) h' => OwnL h.size .i64 h' y.1 (endsUp A A.length) := by
 unfold F_ref5_Ends Gives
 have hla := ha.len
 refine wp_while (fun (r : Sl × Int × Unit) h' => ∃ q : Nat, q ≤ A.length ∧ r.2.1 = (q : Int) ∧ Ext h h' ∧ OwnL h.size .i64 h' r.1 (endsUp A q)) (fun r _ => (A.length - r.2.1).toNat)
  (fun tag vs h' => tag = 2 ∧ ∃ r : Sl, vs = [slv r] ∧ Ext h h' ∧ OwnL h.size .i64 h' r (endsUp A A.length)) ⟨0, Nat.zero_le _, rfl, Ext.refl _, OwnL.nil _ _ _⟩ ?_ ?_
 ·rintro ⟨(r : Sl), (i : Int), u⟩ h1 ⟨q, hm, hi, e1, o1⟩
  dsimp only at hi o1 ⊢
  subst hi
  refine wp_ifB (fun hc => ?_) fun hc => ?_
  ·rw [ltI_iff, natI_def, hla] at hc
   have ha1 := ha.ext e1
   have hqn : ((q : Int)).toNat = q := Int.toNat_natCast q
   have hadd : addI .i64 (q : Int) 1 = ((q + 1 : Nat) : Int) := by rw [add_ok (by omega) (by omega)]; rfl
   rw [hadd]
   refine wp_bind (fun tag vs h' => tag = 0 ∧ ∃ r' : Sl, vs = [slv r'] ∧ Ext h h' ∧ OwnL h.size .i64 h' r' (endsUp A (q + 1))) ?_ ?_
   ·refine bind_bool (isE A q = true) ?_ fun bb h2 e2 hb2 => wp_ifB (fun hx => ?_) fun hx => ?_
    ·have hie : isE A q = true ↔ (A.getD q 0 = 10 ∨ (A.getD q 0 = 13 ∧ A.getD (q + 1) 0 ≠ 10)) := decide_eq_true_iff
     rw [hie]
     refine s_at ha1 (by omega) (by omega) fun _ => ?_
     rw [hqn]
     refine wp_ifB (fun hx => s_ret ⟨rfl, Ext.refl _, true, rfl, Iff.intro (fun _ => .inl (eqI_iff.1 hx)) fun _ => rfl⟩) fun hx => s_at ha1 (by omega) (by omega) fun _ => ?_
     rw [eqI_not] at hx
     rw [hqn]
     refine wp_ifB (fun hy => ?_) fun hy => s_ret ⟨rfl, Ext.refl _, false, rfl, Iff.intro (fun h => by cases h) fun h => ?_⟩
     ·rw [eqI_iff] at hy
      refine wp_ifB (fun hz => s_ret ⟨rfl, Ext.refl _, true, rfl, Iff.intro (fun _ => .inr ⟨hy, ?_⟩) fun _ => rfl⟩) fun hz => ?_
      ·rw [eqI_iff, natI_def, hla] at hz
       rw [getD_end (by omega)]; decide
      ·rw [eqI_not, natI_def, hla] at hz
       refine s_at ha1 (by omega) (by omega) fun _ => s_ret ⟨rfl, Ext.refl _, _, rfl, ?_⟩
       rw [neI_iff, Int.toNat_natCast]
       exact ⟨fun h => .inr ⟨hy, h⟩, fun h => h.elim (fun h => absurd h hx) fun h => h.2⟩
     ·rw [eqI_not] at hy
      rcases h with h | h
      ·exact absurd h hx
      ·exact absurd h.1 hy
    ·have hx := hb2.1 hx
     rw [ends_succ, if_pos hx]
     refine s_allocL (k := .i64) [((q + 1 : Nat) : Int)] (by intro z hz; rw [List.mem_singleton.1 hz]; exact fits_i64.2 (by omega)) (by simp) fun h3 e3 o3 => ?_
     have e13 := e2.trans e3
     have hle : (endsUp A q).length ≤ 1073741824 := by rw [ends_len]; have := cntE_le A q; omega
     refine s_append (o1.ext e13) (by have := (e1.trans e13).size; omega) o3.lst (by rw [List.length_singleton]; omega) (by rw [List.length_singleton]; omega) fun r' h4 k4 o4 _ _ => s_ret ⟨rfl, r', rfl, Keep.trans (e1.trans e13) k4, o4⟩
    ·have hx : ¬ isE A q = true := fun h => by rw [hb2.2 h] at hx; cases hx
     rw [ends_succ, if_neg hx, List.append_nil]
     exact s_ret ⟨rfl, r, rfl, e1.trans e2, o1.ext e2⟩
   ·rintro tag vs h2 ⟨rfl, r', rfl, e2, o2⟩
    refine s_tag (wp_cast (tys := [.one .sl]) (r', ()) rfl ?_)
    exact s_ret ⟨fun _ => ⟨(r', ((q + 1 : Nat) : Int), ()), rfl, ⟨q + 1, by omega, rfl, e2, o2⟩, by dsimp only; omega⟩, fun hh => absurd rfl hh⟩
  ·rw [ltI_not, natI_def, hla] at hc
   have : q = A.length := by omega
   subst this
   exact s_ret ⟨fun hh => absurd hh (by decide), fun _ => ⟨rfl, r, rfl, e1, o1⟩⟩
 ·rintro tag vs h1 ⟨rfl, r, rfl, e1, o1⟩
  exact s_tag (wp_cast (tys := [.one .sl]) (r, ()) rfl (s_ret ⟨rfl, e1, (r, ()), rfl, o1⟩))
theorem ends_count (A : List Int) (a : Int) : ∀ n : Nat, (endsUp A n).countP (fun x => decide (x ≤ a)) = cntE A (min (max a 0) n).toNat
 | 0 => by rw [show (min (max a 0) ((0 : Nat) : Int)).toNat = 0 by omega]; rfl
 | n + 1 => by
  rw [ends_succ, List.countP_append, ends_count A a n]
  by_cases h : ((n + 1 : Nat) : Int) ≤ a
  ·rw [show (min (max a 0) ((n : Nat) : Int)).toNat = n by omega, show (min (max a 0) (((n + 1 : Nat)) : Int)).toNat = n + 1 by omega, cntE_succ]
   by_cases he : isE A n = true
   ·rw [if_pos he, if_pos he, List.countP_singleton, if_pos (decide_eq_true h)]
   ·rw [if_neg he, if_neg he]; rfl
  ·rw [show (min (max a 0) (((n + 1 : Nat)) : Int)).toNat = (min (max a 0) ((n : Nat) : Int)).toNat by omega]
   by_cases he : isE A n = true
   ·rw [if_pos he, List.countP_singleton, if_neg (by rw [decide_eq_true_eq]; exact h)]; rfl
   ·rw [if_neg he]; rfl
theorem c_refBreaks {n : Nat} {R : RX} {at_ : Int} (r : RefT n h R) (hl : R.E.length ≤ 1073741824) :
  Gives P (F_ref_Text_Breaks S (some (at0 R.b)) at_) [.one (.int .i64)] h fun (y : Int × Unit) _ => y.1 = cntE (R.E.map (·.1)) (min (max at_ 0) R.E.length).toNat := by
 unfold F_ref_Text_Breaks Gives
 refine wp_grd rfl (wp_grd rfl (s_cell (b := .sl) R.sa rfl r.ob.cells rfl (wp_call (c_refEnds r.cur.1.lst (by rw [List.length_map]; exact hl)) fun ⟨(s : Sl), _⟩ h1 e1 o1 => ?_)))
 have o1 : OwnL h.size .i64 h1 s (endsUp (R.E.map (·.1)) (R.E.map (·.1)).length) := o1
 rw [List.length_map] at o1
 have hct := ends_count (R.E.map (·.1)) at_ R.E.length
 have hsm := cntE_le (R.E.map (·.1)) R.E.length
 have hen := ends_len (R.E.map (·.1)) R.E.length
 generalize endsUp (R.E.map (·.1)) R.E.length = l at o1 hct hen
 rw [← hct]
 have ll := o1.len
 dsimp only
 refine wp_while (fun (q : Int × Int × Unit) h' => ∃ i : Nat, i ≤ l.length ∧ q.2.1 = i ∧ q.1 = ((l.take i).countP (fun x => decide (x ≤ at_)) : Nat) ∧ Ext h1 h') (fun q _ => (l.length - q.2.1).toNat)
  (fun tag vs h' => tag = 2 ∧ vs = [i64v ((l.countP (fun x => decide (x ≤ at_)) : Nat) : Int)] ∧ Ext h1 h') ⟨0, Nat.zero_le _, rfl, rfl, Ext.refl _⟩ ?_ ?_
 ·rintro ⟨(c : Int), (i' : Int), u⟩ h2 ⟨i, hi, hi', hc', e2⟩
  dsimp only at hi' hc' ⊢
  subst hi'; subst hc'
  refine wp_ifB (fun hc => ?_) fun hc => ?_
  ·rw [ltI_iff, natI_def, ll] at hc
   obtain ⟨v, hv⟩ : ∃ v, l[i]? = some v := ⟨l[i]'(by omega), List.getElem?_eq_getElem (by omega)⟩
   have hgd : l.getD ((i : Int)).toNat 0 = v := by rw [Int.toNat_natCast, List.getD_eq_getElem?_getD, hv]; rfl
   have hs : (l.take (i + 1)).countP (fun x => decide (x ≤ at_)) = (l.take i).countP (fun x => decide (x ≤ at_)) + if v ≤ at_ then 1 else 0 := by
    rw [List.take_add_one, hv, List.countP_append]
    show _ + List.countP _ [v] = _
    rw [List.countP_singleton]
    by_cases hx : v ≤ at_
    ·rw [if_pos (decide_eq_true hx), if_pos hx]
    ·rw [if_neg (by rw [decide_eq_true_eq]; exact hx), if_neg hx]
   have hcl : (l.take i).countP (fun x => decide (x ≤ at_)) ≤ i := Nat.le_trans List.countP_le_length (by rw [List.length_take]; omega)
   refine bind_val (tys := [.one (.int .i64)]) (fun (x : Int × Unit) _ => x.1 = ((l.take (i + 1)).countP (fun x => decide (x ≤ at_)) : Nat)) ?_ fun ⟨(b : Int), _⟩ h3 e3 hb => ?_
   ·refine s_at (o1.lst.ext e2) (by omega) (by omega) fun _ => ?_
    rw [hgd]
    refine wp_ifB (fun hx => ?_) fun hx => s_ret ⟨rfl, Ext.refl _, (_, ()), rfl, ?_⟩
    ·rw [leI_iff] at hx
     rw [add_ok (by omega) (by omega)]
     refine s_ret ⟨rfl, Ext.refl _, (_, ()), rfl, ?_⟩
     rw [hs, if_pos hx]; exact (Int.natCast_add _ _).symm
    ·rw [leI_not] at hx
     rw [hs, if_neg (by omega)]; rfl
   ·have hb : b = _ := hb
    subst hb
    rw [add_ok (by omega) (by omega)]
    exact s_ret ⟨fun _ => ⟨(_, (i : Int) + 1, ()), rfl, ⟨i + 1, by omega, by dsimp only; omega, rfl, e2.trans e3⟩, by dsimp only; omega⟩, fun hh => absurd rfl hh⟩
  ·rw [ltI_not, natI_def, ll] at hc
   have : i = l.length := by omega
   subst this
   rw [List.take_length]
   exact s_ret ⟨fun hh => absurd hh (by decide), fun _ => ⟨rfl, rfl, e2⟩⟩
 ·rintro tag vs h2 ⟨rfl, rfl, e2⟩
  exact s_tag (s_castI (s_ret ⟨rfl, e1.trans e2, (_, ()), rfl, rfl⟩))
theorem c_refSeek {n : Nat} {R : RX} {k : Int} (r : RefT n h R) (hl : R.E.length ≤ 1073741824) (hk : fitsI .i64 k) :
  Gives P (F_ref_Text_Seek S (some (at0 R.b)) k) [.one (.int .i64)] h fun (y : Int × Unit) _ => (k = 0 → y.1 = 0) ∧ ((k < 0 ∨ (cntE (R.E.map (·.1)) R.E.length : Int) < k) → y.1 = -1) ∧ (0 < k → k ≤ cntE (R.E.map (·.1)) R.E.length → SeekP (R.E.map (·.1)) k y.1) := by
 unfold F_ref_Text_Seek Gives
 have hk := fits_i64.1 hk
 refine wp_grd rfl (wp_grd rfl (s_cell (b := .sl) R.sa rfl r.ob.cells rfl (wp_call (c_refEnds r.cur.1.lst (by rw [List.length_map]; exact hl)) fun ⟨(s : Sl), _⟩ h1 e1 o1 => ?_)))
 have o1 : OwnL h.size .i64 h1 s (endsUp (R.E.map (·.1)) (R.E.map (·.1)).length) := o1
 rw [List.length_map] at o1
 have hen := ends_len (R.E.map (·.1)) R.E.length
 have ll := o1.len
 rw [hen] at ll
 dsimp only
 refine wp_ifB (fun hc => s_ret ⟨rfl, e1, (0, ()), rfl, ?_⟩) fun hc => ?_
 ·rw [eqI_iff] at hc
  exact ⟨fun _ => rfl, fun h => by omega, fun h => by omega⟩
 rw [eqI_not] at hc
 refine bind_bool (k < 0 ∨ (cntE (R.E.map (·.1)) R.E.length : Int) < k) ?_ fun bb h2 e2 hb2 => wp_ifB (fun hx => s_ret ⟨rfl, e1.trans e2, (-1, ()), rfl, ?_⟩) fun hx => ?_
 ·refine wp_ifB (fun hx => s_ret ⟨rfl, Ext.refl _, true, rfl, Iff.intro (fun _ => .inl (ltI_iff.1 hx)) fun _ => rfl⟩) fun hx => s_ret ⟨rfl, Ext.refl _, _, rfl, ?_⟩
  rw [ltI_not] at hx
  rw [gtI_iff, natI_def, ll]
  exact ⟨.inr, fun h => h.elim (fun h => by omega) id⟩
 ·have hx := hb2.1 hx
  exact ⟨fun h => by omega, fun _ => rfl, fun h h' => by omega⟩
 ·have hx : ¬ (k < 0 ∨ (cntE (R.E.map (·.1)) R.E.length : Int) < k) := fun h => by rw [hb2.2 h] at hx; cases hx
  rw [sub_ok (by omega) (by omega)]
  refine s_at (o1.lst.ext e2) (by omega) (by rw [hen]; omega) fun _ => s_ret ⟨rfl, e1.trans e2, (_, ()), rfl, fun h => by omega, fun h => absurd h hx, fun h h' => ?_⟩
  obtain ⟨p, p1, p2, p3, p4, p5⟩ := ends_at (A := R.E.map (·.1)) (n := R.E.length) (j := (k - 1).toNat) (by omega)
  refine ⟨p, ?_, p2, by rw [List.length_map]; exact p3, by omega, by omega⟩
  show (endsUp (R.E.map (·.1)) R.E.length).getD (k - 1).toNat 0 = _
  rw [List.getD_eq_getElem?_getD, p1]; rfl
end Go.Sw.Piece

set_option linter.unusedVariables false
set_option linter.unusedSimpArgs false
set_option maxRecDepth 100000
namespace Go.Sw.Piece
open Go.Sw.Any Go.Sw.Codec
open Go.Sw.Tree (iv s_putAll s_newP s_getP s_getT s_putP eqI_self Placed cell_own wp_whileG minI_eq)
variable {P : Program} {S : Ids} {h : Heap} {Q : Nat → List Value → Heap → Prop}
theorem s_pushV {n bytes : Nat} {z v : Value} {o : Sl} {vs : List Value} {K : Sl → Prog} (ho : Own n 1 h o vs) (hn : n ≤ h.size) (hf : flat v = true) (hroom : (vs.length + 1) * bytes ≤ 140737488355328) (hlen : vs.length + 1 < 2 ^ 63)
  (hk : ∀ r h', Keep n h h' → Own n 1 h' r (vs ++ [v]) → Upd o h h' → (∀ a, r.base = some a → o.base = some a ∨ h.size ≤ a.block) → wp P (K r) h' Q) :
  wp P (.alloc [v] fun a => .append 1 bytes [z] o ⟨some a, 1, 1⟩ K) h Q := by
 have hl := ho.1
 rw [Nat.mul_one] at hl
 exact wp_push ho hn rfl (by intro x hx; rw [List.mem_singleton.1 hx]; exact hf) rfl (by rw [hl]; exact hroom) (by rw [hl]; exact hlen) fun r h' a b c d => hk r h' (Upd.keep ho hn c) a c d
theorem s_ldV {n i : Nat} {b : B} {w : Sl} {vs : List Value} {x : b.den} {K : b.den → Prog} (o : Own n 1 h w vs) (hi : vs[i]? = some (b.inj x)) (hk : wp P (K x) h Q) :
  wp P (grd (andB (someB w.base) (inB (i : Int) w.len)) <| .load (.one b) (shiftTo w.base (mulN (toN (i : Int)) 1)) K) h Q := by
 obtain ⟨a, ea, c⟩ := o.rd.2 i _ hi
 have hl := o.1
 have hlt := (List.getElem?_eq_some_iff.1 hi).1
 refine wp_grd (andB_iff.2 ⟨by simp [someB, ea], inB_is.2 ⟨by omega, by omega⟩⟩) ?_
 exact wp_load1 (a.add i) x (by simp [shiftTo, ea, mulN, toN]) c hk
def nchI (L : Nat) (size : Int) : Nat := if size < 1 then 0 else nch L size.toNat
def chunkI (B : List Int) (size : Int) (k : Nat) : List Int := (B.drop (k * size.toNat)).take size.toNat
structure CkI (h0 : Heap) (B : List Int) (sz i : Nat) (h : Heap) (o c : Sl) (ss : List Sl) : Prop where
 e : Ext h0 h
 oo : Own h0.size 1 h o (ss.map fun x => slv x)
 oc : OwnL h0.size .u8 h c ((B.drop (ss.length * sz)).take (i - ss.length * sz))
 el : ∀ (j : Nat) (x : Sl), ss[j]? = some x → OwnL h0.size .u8 h x ((B.drop (j * sz)).take sz)
 dc : ∀ a b, c.base = some a → o.base = some b → b.block ≠ a.block
 de : ∀ x, x ∈ ss → ∀ a, x.base = some a → (∀ b, c.base = some b → b.block ≠ a.block) ∧ ∀ b, o.base = some b → b.block ≠ a.block
 few : ss.length ≤ i
 pos : (i < B.length → ss.length * sz ≤ i ∧ i < ss.length * sz + sz) ∧ (i = B.length → ss.length = nch B.length sz)
theorem c_refChunks {n : Nat} {R : RX} {size : Int} (r : RefT n h R) (hl : R.E.length ≤ 1073741824) (hs : fitsI .i64 size) :
  Gives P (F_ref_Text_Chunks S (some (at0 R.b)) size) [.one .sl] h fun (y : Sl × Unit) h' => ∃ ss : List Sl, Own h.size 1 h' y.1 (ss.map fun x => slv x) ∧
   ss.length = nchI ((R.E.map (·.1)).flatMap (putF R.enc)).length size ∧ ∀ (j : Nat) (x : Sl), ss[j]? = some x → OwnL h.size .u8 h' x (chunkI ((R.E.map (·.1)).flatMap (putF R.enc)) size j) := by
 unfold F_ref_Text_Chunks Gives
 have hs := fits_i64.1 hs
 refine wp_ifB (fun hc => ?_) fun hc => ?_
 ·rw [ltI_iff] at hc
  exact s_ret ⟨rfl, Ext.refl _, (⟨none, 0, 0⟩, ()), rfl, [], Own.nil _ _ _, by unfold nchI; rw [if_pos hc]; rfl, fun j x hj => by simp at hj⟩
 rw [ltI_not] at hc
 refine wp_call (c_refBytes r hl) fun ⟨(b : Sl), _⟩ h1 e1 ob => ?_
 have ob : OwnL h.size .u8 h1 b ((R.E.map (·.1)).flatMap (putF R.enc)) := ob
 have hBl := (put_le (enc := R.enc) (l := R.E.map (·.1)) r.fit).2
 rw [List.length_map] at hBl
 unfold nchI chunkI
 rw [if_neg (by omega)]
 generalize (R.E.map (fun x : El => x.1)).flatMap (putF R.enc) = B at ob hBl ⊢
 obtain ⟨sz, rfl⟩ : ∃ sz : Nat, size = sz := ⟨size.toNat, by omega⟩
 rw [Int.toNat_natCast]
 have hc1 : 1 ≤ sz := by omega
 have lb := ob.len
 dsimp only
 refine wp_whileG (G := Nat × List Sl) (fun g (q : Sl × Sl × Int × Unit) h' => g.1 ≤ B.length ∧ q.2.2.1 = (g.1 : Int) ∧ CkI h1 B sz g.1 h' q.1 q.2.1 g.2) (fun g => B.length - g.1)
  (fun tag vs h' => tag = 2 ∧ ∃ (o c : Sl) (ss : List Sl), vs = [slv o] ∧ CkI h1 B sz B.length h' o c ss) (0, [])
  ⟨Nat.zero_le _, rfl, Ext.refl _, Own.nil _ _ _, by simp only [Nat.zero_sub, List.take_zero]; exact OwnL.nil _ _ _, fun j x hj => (by simp at hj), fun a b ha => (by cases ha), fun x hx => (by cases hx), Nat.le_refl _, fun _ => ⟨by simp, by simp; omega⟩, fun hh => by
   dsimp only at hh; rw [← hh]; exact (Nat.div_eq_of_lt (show 0 + sz - 1 < sz by omega)).symm⟩ ?_ ?_
 ·rintro ⟨i, ss⟩ ⟨(o : Sl), (c : Sl), (i' : Int), u⟩ h2 ⟨hi, hi', g⟩
  dsimp only at hi hi' g ⊢
  subst hi'
  refine wp_ifB (fun hd => ?_) fun hd => ?_
  ·rw [ltI_iff, natI_def, lb] at hd
   have hiB : i < B.length := by omega
   obtain ⟨v, hv⟩ : ∃ v, B[i]? = some v := ⟨B[i]'hiB, List.getElem?_eq_getElem hiB⟩
   have hgd : B.getD ((i : Int)).toNat 0 = v := by rw [Int.toNat_natCast, List.getD_eq_getElem?_getD, hv]; rfl
   obtain ⟨ps1, ps2⟩ := g.pos.1 hiB
   have gsz := g.e.size
   refine wp_bind (fun tag vs h' => tag = 0 ∧ ∃ (o' c' : Sl) (ss' : List Sl), vs = [slv o', slv c'] ∧ CkI h1 B sz (i + 1) h' o' c' ss') ?_ ?_
   ·refine s_at (ob.lst.ext g.e) (by omega) (by omega) fun hfv => ?_
    rw [hgd] at hfv ⊢
    have lc : ((B.drop (ss.length * sz)).take (i - ss.length * sz)).length = i - ss.length * sz := by rw [List.length_take, List.length_drop]; omega
    refine Go.Sw.s_push g.oc gsz hfv (by omega) (by omega) fun c' h3 k3 o3 u3 b3 => ?_
    have hnew : (B.drop (ss.length * sz)).take (i - ss.length * sz) ++ [v] = (B.drop (ss.length * sz)).take (i + 1 - ss.length * sz) := by
     rw [show i + 1 - ss.length * sz = (i - ss.length * sz) + 1 by omega, List.take_add_one, List.getElem?_drop, show ss.length * sz + (i - ss.length * sz) = i by omega, hv]; rfl
    rw [hnew] at o3
    have q3 := k3.size
    have oo3 : Own h1.size 1 h3 o (ss.map fun x => slv x) := g.oo.keep fun a ha => u3.2.1 _ (g.oo.lt ha).2 fun b hb e => g.dc b a hb ha e.symm
    have e13 : Ext h1 h3 := Keep.trans g.e k3
    have el3 : ∀ (j : Nat) (x : Sl), ss[j]? = some x → OwnL h1.size .u8 h3 x ((B.drop (j * sz)).take sz) := fun j x hj => (g.el j x hj).upd u3 fun a b ha hb => (g.de x (List.mem_of_getElem? hj) a ha).1 b hb
    have dc3 : ∀ a b, c'.base = some a → o.base = some b → b.block ≠ a.block := fun a b ha hb => by
     rcases b3 a ha with h | h
     ·exact g.dc a b h hb
     ·have := (g.oo.lt hb).2; omega
    have de3 : ∀ x, x ∈ ss → ∀ a, x.base = some a → (∀ b, c'.base = some b → b.block ≠ a.block) ∧ ∀ b, o.base = some b → b.block ≠ a.block := fun x hx a ha => ⟨fun b hb => by
     obtain ⟨j, hj⟩ := List.getElem?_of_mem hx
     rcases b3 b hb with h | h
     ·exact (g.de x hx a ha).1 b h
     ·have := ((g.el j x hj).own.lt ha).2; omega, (g.de x hx a ha).2⟩
    have lc' := o3.len
    rw [List.length_take, List.length_drop] at lc'
    refine bind_bool (i + 1 - ss.length * sz = sz ∨ i + 1 = B.length) ?_ fun bb h4 e4 hb4 => wp_ifB (fun hx => ?_) fun hx => ?_
    ·refine wp_ifB (fun hy => s_ret ⟨rfl, Ext.refl _, true, rfl, Iff.intro (fun _ => .inl ?_) fun _ => rfl⟩) fun hy => ?_
     ·rw [eqI_iff, natI_def] at hy; omega
     ·rw [eqI_not, natI_def] at hy
      rw [add_ok (by omega) (by omega)]
      refine s_ret ⟨rfl, Ext.refl _, _, rfl, ?_⟩
      rw [eqI_iff, natI_def, lb]
      exact ⟨fun h => .inr (by omega), fun h => h.elim (fun h => by omega) fun h => by omega⟩
    ·have hx := hb4.1 hx
     have g4o := oo3.ext e4
     refine s_pushV g4o (by have := (e13.trans e4).size; omega) rfl (by have := g.few; rw [List.length_map]; omega) (by have := g.few; rw [List.length_map]; omega) fun o' h5 k5 o5 u5 b5 => s_ret ⟨rfl, o', ⟨none, 0, 0⟩, ss ++ [c'], rfl, ?_⟩
     have q45 := e4.size
     have key : ∀ {x : Sl} {l : List Int}, OwnL h1.size .u8 h3 x l → (∀ a, x.base = some a → ∀ b, o.base = some b → b.block ≠ a.block) → OwnL h1.size .u8 h5 x l := fun ox hd => (ox.ext e4).upd u5 fun a b ha hb => hd a ha b hb
     have hfull : (B.drop (ss.length * sz)).take (i + 1 - ss.length * sz) = (B.drop (ss.length * sz)).take sz := by
      rcases hx with hx | hx
      ·rw [hx]
      ·rw [List.take_of_length_le (by rw [List.length_drop]; omega), List.take_of_length_le (by rw [List.length_drop]; omega)]
     have hlast : i + 1 = B.length → nch B.length sz = ss.length + 1 := fun h => by
      have h1 := (lt_nch (L := B.length) (c := ss.length) hc1).2 (by omega)
      by_cases h2 : ss.length + 1 < nch B.length sz
      ·have := (lt_nch hc1).1 h2; rw [Nat.succ_mul] at this; omega
      ·omega
     refine ⟨Keep.trans (e13.trans e4) k5, by simpa using o5, by rw [show i + 1 - (ss ++ [c']).length * sz = 0 by rw [List.length_append, List.length_singleton, Nat.succ_mul]; omega, List.take_zero]; exact OwnL.nil _ _ _, fun j x hj => ?_, fun a b ha => (by cases ha), fun x hx a ha => ⟨fun b hb => (by cases hb), fun b hb => ?_⟩, by rw [List.length_append, List.length_singleton]; have := g.few; omega, fun h => ?_, fun h => by rw [List.length_append, List.length_singleton, hlast h]⟩
     ·rw [List.getElem?_append] at hj
      split at hj
      ·exact key (el3 j x hj) fun a ha b hb => (g.de x (List.mem_of_getElem? hj) a ha).2 b hb
      ·have hj0 : j = ss.length := by have := (List.getElem?_eq_some_iff.1 hj).1; rw [List.length_singleton] at this; omega
       subst hj0
       rw [Nat.sub_self] at hj
       cases hj
       rw [hfull] at o3
       exact key o3 fun a ha b hb => dc3 a b ha hb
     ·rcases b5 b hb with h | h
      ·rcases List.mem_append.1 hx with hx | hx
       ·exact (g.de x hx a ha).2 b h
       ·rw [List.mem_singleton.1 hx] at ha; exact dc3 a b ha h
      ·rcases List.mem_append.1 hx with hx | hx
       ·obtain ⟨j, hj⟩ := List.getElem?_of_mem hx
        have := ((el3 j x hj).own.lt ha).2; omega
       ·rw [List.mem_singleton.1 hx] at ha
        have := (o3.own.lt ha).2; omega
     ·rw [List.length_append, List.length_singleton, Nat.succ_mul]
      rcases hx with hx | hx <;> omega
    ·have hx : ¬ (i + 1 - ss.length * sz = sz ∨ i + 1 = B.length) := fun h => by rw [hb4.2 h] at hx; cases hx
     refine s_ret ⟨rfl, o, c', ss, rfl, e13.trans e4, oo3.ext e4, o3.ext e4, fun j x hj => (el3 j x hj).ext e4, dc3, de3, by have := g.few; omega, fun h => ⟨by omega, by omega⟩, fun h => absurd (.inr h) hx⟩
   ·rintro tag vs h3 ⟨rfl, o', c', ss', rfl, g3⟩
    refine s_tag (wp_cast (tys := [.one .sl, .one .sl]) (o', c', ()) rfl ?_)
    rw [add_ok (by omega) (by omega)]
    exact s_ret ⟨fun _ => ⟨(i + 1, ss'), (o', c', (i : Int) + 1, ()), rfl, ⟨by dsimp only; omega, by dsimp only; omega, g3⟩, by dsimp only; omega⟩, fun hh => absurd rfl hh⟩
  ·rw [ltI_not, natI_def, lb] at hd
   have : i = B.length := by omega
   subst this
   exact s_ret ⟨fun hh => absurd hh (by decide), fun _ => ⟨rfl, o, c, ss, rfl, g⟩⟩
 ·rintro tag vs h2 ⟨rfl, o, c, ss, rfl, g⟩
  exact s_tag (wp_cast (tys := [.one .sl]) (o, ()) rfl (s_ret ⟨rfl, e1.trans g.e, (o, ()), rfl, ss, g.oo.mono e1.size, g.pos.2 rfl, fun j x hj => (g.el j x hj).mono e1.size⟩))
theorem ChR.mono {Z Z' : Nat → Prop} {h' : Heap} {root : Option Addr} {t : Bt Part} {ps : List Pc} (c : ChR S Z h root t ps) (e : Ext h h') (hz : ∀ i, i < h.size → Z i → Z' i) : ChR S Z' h' root t ps :=
 ⟨Nd.ext (I := part S Z') e (part_mono c.nd hz), c.ls, c.room, fun q hq => ⟨(c.lst q hq).1.ext e, fun a ha => by
  obtain ⟨h1, h2⟩ := (c.lst q hq).2 a ha
  exact ⟨hz _ h2 h1, by have := e.size; omega⟩⟩, c.small⟩
theorem TextR.chr {n : Nat} {T : TX} (t : TextR S n h T) : ChR S T.Z h T.cur.root T.cur.t T.cur.ps :=
 ⟨t.cur.nd, t.cur.ls, by have := (t.cur.few t.lim.2).2; omega, fun q hq => ⟨(t.cur.pcs q hq).lst, fun a ha => by
  have := ((t.cur.pcs q hq).blk a ha).1
  exact ⟨this, (t.lo _ this).2⟩⟩, t.cur.small⟩
theorem iter_none (C : Cl P S) {Z : Nat → Prop} {h0 : Heap} {size : Int} {ch : Nat → List Int} {a1 a3 : Addr} (hsz : size < 1) (c1 : Sw.cell h0 a1 = some (i64v size)) (z1 : Z a1.block) :
  IterC P (.func (.func S.f_Text_Chunks_1) #[] #[.pointer (some a1), .pointer (some a3)]) 0 ch Z 8 h0 := by
 intro h y J F hs hz fy sJ sF hY j0
 refine C.chunks y (some a1) (some a3) h _ ?_
 unfold F_Text_Chunks_1
 refine wp_grd fy (s_new1 y fun g1 e1 o1 s1 => ?_)
 have hz1 : Held Z h0 g1 := hz.trans (Held.of_ext e1)
 refine wp_load1 (b := .int .i64) a1 size rfl (hz1.cell c1 z1) (wp_ifB (fun hc => s_ret ⟨rfl, rfl, e1.size, hz1, .inl (sJ _ _ _ j0 (Chg.of_ext e1))⟩) fun hc => by rw [ltI_not] at hc; omega)
theorem c_TChunks (C : Cl P S) {n : Nat} {T : TX} {Z : Nat → Prop} {size : Int} (t : TextR S n h T) (cr : ChR S Z h T.cur.root T.cur.t T.cur.ps) (hs : fitsI .i64 size) :
  Gives P (F_Text_Chunks S (some T.p) size) [.one .any] h fun (y : Value × Unit) h' => ∃ a1 a3 : Addr, y.1 = .func (.func S.f_Text_Chunks_1) #[] #[.pointer (some a1), .pointer (some a3)] ∧
   IterC P y.1 (nchI (bytesL T.cur.ps).length size) (chunkI (bytesL T.cur.ps) size) (fun i => Z i ∨ h.size ≤ i) 8 h' := by
 unfold F_Text_Chunks Gives
 have hs := fits_i64.1 hs
 refine s_new1 _ fun h1 e1 o1 s1 => ?_
 refine s_root (t.ext e1) (s_newput _ (.pointer T.cur.root) rfl fun h2 e2 o2 => s_ret ⟨rfl, e1.trans e2, (_, ()), rfl, ⟨h.size, 0, none⟩, ⟨h1.size, 0, none⟩, rfl, ?_⟩)
 have e12 := e1.trans e2
 have c1 := cell_own (o1.ext e2)
 have c3 := cell_own o2
 by_cases hc : size < 1
 ·unfold nchI
  rw [if_pos hc]
  exact iter_none C hc c1 (.inr (Nat.le_refl _))
 ·obtain ⟨sz, rfl⟩ : ∃ sz : Nat, size = sz := ⟨size.toNat, by omega⟩
  unfold nchI chunkI
  rw [if_neg hc, Int.toNat_natCast]
  exact iter_chunks C (cr.mono e12 fun i _ hz => .inl hz) (by omega) (by omega) c1 c3 (.inr (Nat.le_refl _)) (.inr (by dsimp only; omega))
structure ClW (P : Program) (S : Ids) : Prop where
 wc : ∀ (c : Sl) (x1 x2 x3 x4 x5 : Option Addr), Dyn P (.func (.func S.f_world_chunks_1) #[] #[.pointer x1, .pointer x2, .pointer x3, .pointer x4, .pointer x5]) [slv c] (F_world_chunks_1 S c x1 x2 x3 x4 x5)
structure CbI (hc : Heap) (aN aS : Addr) (k : Nat) (st : Bool) (h' : Heap) : Prop where
 c : Chg (fun i => i = aN.block ∨ i = aS.block) hc h'
 n : Cel 0 h' aN (i64v k)
 s : Cel 0 h' aS (.bool st)
theorem CbI.own {hc : Heap} {aN aS : Addr} {k m : Nat} {st : Bool} {a b : Heap} (j : CbI hc aN aS k st a) (c : Chg (Sw.own hc.size m) a b) (h1 : aN.block < hc.size) (h2 : aS.block < hc.size) : CbI hc aN aS k st b :=
 ⟨j.c.trans c fun i hi f => by have := f.1; omega, c.own j.n fun x hx f => by cases hx; have := f.1; omega, c.own j.s fun x hx f => by cases hx; have := f.1; omega⟩
theorem cb_chunks (W : ClW P S) {hc : Heap} {aN aS aW aR aK : Addr} {w : Sl} {ss : List Sl} {N m : Nat} {B : List Int} {size stop : Int} {n : Nat} (hN : ss.length = N) (hNs : N ≤ 1073741824) (hne : aN.block ≠ aS.block)
  (oW : Cel n hc aW (slv w)) (oR : Cel n hc aR (.bool true)) (oK : Cel n hc aK (i64v stop)) (ow : Own n 1 hc w (ss.map fun x => slv x)) (el : ∀ (j : Nat) (x : Sl), ss[j]? = some x → OwnL n .u8 hc x (chunkI B size j))
  (fr : ∀ i, i = aN.block ∨ i = aS.block → i ≠ aW.block ∧ i ≠ aR.block ∧ i ≠ aK.block ∧ (∀ a, w.base = some a → a.block ≠ i) ∧ ∀ x, x ∈ ss → ∀ a, x.base = some a → a.block ≠ i)
  {k : Nat} {hp h1 : Heap} {s : Sl} (hk : k < N) (j : CbI hc aN aS k false hp) (lN : aN.block < hc.size) (lS : aS.block < hc.size) (c : Chg (Sw.own hc.size m) hp h1) (os : OwnL hp.size .u8 h1 s (chunkI B size k)) :
  DynV P (.func (.func S.f_world_chunks_1) #[] #[.pointer (some aS), .pointer (some aN), .pointer (some aW), .pointer (some aR), .pointer (some aK)]) [slv s] h1 fun vs h2 => ∃ b, vs = [.bool b] ∧ Chg (fun i => i = aN.block ∨ i = aS.block) h1 h2 ∧
   (b = true → CbI hc aN aS (k + 1) false h2) ∧ (b = false → CbI hc aN aS (k + 1) true h2) := by
 refine (W.wc s _ _ _ _ _ h1 _ ?_).toV
 have j1 := j.own c lN lS
 have hF : ∀ {x : Addr} {v : Value}, Cel n hc x v → (∀ i, i = aN.block ∨ i = aS.block → i ≠ x.block) → Cel n h1 x v := fun o hd => j1.c.own o fun y hy f => by cases hy; exact hd _ f rfl
 have oW1 := hF oW fun i hi => (fr i hi).1
 have oR1 := hF oR fun i hi => (fr i hi).2.1
 have oK1 := hF oK fun i hi => (fr i hi).2.2.1
 have ow1 : Own n 1 h1 w (ss.map fun x => slv x) := j1.c.own ow fun y hy f => (fr _ f).2.2.2.1 y hy rfl
 obtain ⟨x, hx⟩ : ∃ x, ss[k]? = some x := ⟨ss[k]'(by omega), List.getElem?_eq_getElem (by omega)⟩
 have ox1 : OwnL n .u8 h1 x (chunkI B size k) := j1.c.ownL (el k x hx) fun y hy f => (fr _ f).2.2.2.2 x (List.mem_of_getElem? hx) y hy rfl
 have lw := ow1.1
 rw [List.length_map, Nat.mul_one] at lw
 unfold F_world_chunks_1
 refine bind_bool False ?_ fun bb h2 e2 hb2 => wp_ifB (fun hx => (hb2.1 hx).elim) fun _ => ?_
 ·refine s_cel (b := .bool) (x := false) j1.s (s_ifF (s_cel (b := .int .i64) (x := (k : Int)) j1.n (s_cel (b := .sl) (x := w) oW1 (wp_ifB (fun hg => ?_) fun _ => s_cel (b := .sl) (x := w) oW1 (s_cel (b := .int .i64) (x := (k : Int)) j1.n ?_)))))
  ·rw [geI_iff, natI_def] at hg; omega
  ·refine s_ldV (b := .sl) (x := x) ow1 (by rw [List.getElem?_map, hx]; rfl) (wp_call (c_same5B os.lst ox1.lst) fun ⟨(b2 : Bool), _⟩ h3 e3 hb3 => s_ret ⟨rfl, e3, _, rfl, ?_⟩)
   have hb3 : b2 = decide (chunkI B size k = chunkI B size k) := hb3
   rw [decide_eq_true rfl] at hb3
   rw [hb3]
   exact Iff.intro (fun h => by cases h) False.elim
 have n2 := j1.n.ext e2; have s2 := j1.s.ext e2; have k2 := oK1.ext e2
 refine s_cel (b := .int .i64) (x := (k : Int)) n2 ?_
 rw [add_ok (by omega) (by omega)]
 refine s_celput (i64v ((k : Int) + 1)) n2 rfl fun h3 o3 u3 => s_cel (b := .int .i64) (x := (k : Int) + 1) o3 ?_
 have k3 : Cel n h3 aK (i64v stop) := k2.keep fun y hy => u3.2.1 _ (k2.lt hy).2 fun z hz e => by cases hy; cases hz; exact (fr _ (.inl rfl)).2.2.1 e
 have s3 : Cel 0 h3 aS (.bool false) := s2.keep fun y hy => u3.2.1 _ (s2.lt hy).2 fun z hz e => by cases hy; cases hz; exact hne e
 refine s_cel (b := .int .i64) (x := stop) k3 (s_celput (.bool (eqI ((k : Int) + 1) stop)) s3 rfl fun h4 o4 u4 => s_cel (b := .bool) (x := eqI ((k : Int) + 1) stop) o4 (s_ret ⟨rfl, _, rfl, ?_, ?_, ?_⟩))
 all_goals have o34 : Cel 0 h4 aN (i64v ((k + 1 : Nat) : Int)) := o3.keep fun y hy => u4.2.1 _ (o3.lt hy).2 fun z hz e => by cases hy; cases hz; exact hne e.symm
 all_goals have c14 : Chg (fun i => i = aN.block ∨ i = aS.block) h1 h4 := ((Chg.of_ext e2).upd u3 fun y hy _ => by cases hy; exact .inl rfl).upd u4 fun y hy _ => by cases hy; exact .inr rfl
 ·exact c14
 ·intro hb
  rw [notB_iff] at hb
  rw [hb] at o4
  exact ⟨j1.c.trans c14 fun _ _ f => f, o34, o4⟩
 ·intro hb
  rw [notB_not] at hb
  rw [hb] at o4
  exact ⟨j1.c.trans c14 fun _ _ f => f, o34, o4⟩
end Go.Sw.Piece

set_option linter.unusedVariables false
set_option linter.unusedSimpArgs false
set_option maxRecDepth 100000
namespace Go.Sw.Piece
open Go.Sw.Any Go.Sw.Codec
open Go.Sw.Tree (iv s_putAll s_newP s_getP s_getT s_putP eqI_self Placed cell_own wp_whileG minI_eq)
variable {P : Program} {S : Ids} {h : Heap} {Q : Nat → List Value → Heap → Prop}
theorem nchI_le (L : Nat) (size : Int) : nchI L size ≤ L := by
 unfold nchI
 split
 ·omega
 ·rename_i hc
  by_cases h : L < nch L size.toNat
  ·have h1 := (lt_nch (L := L) (c := L) (sz := size.toNat) (by omega)).1 h
   have h2 : L * 1 ≤ L * size.toNat := Nat.mul_le_mul_left L (by omega)
   omega
  ·omega
theorem c_world_chunks (C : Cl P S) (W : ClW P S) {n m wb i : Nat} {T : TX} {R : RX} {vs : List Value} {size stop : Int} (pr : PairR S n h T R) (o : Own m 1 h ⟨some (at0 wb), 8, 8⟩ vs) (hi : i < 2) (hp : vs[0 + i]? = some (.pointer (some T.p))) (hr : vs[2 + i]? = some (.pointer (some (at0 R.b)))) (hsz : fitsI .i64 size) :
  Gives P (F_world_chunks S (some (at0 wb)) (i : Int) size stop) [.one .bool] h fun (y : Bool × Unit) _ => y.1 = true := by
 unfold F_world_chunks Gives
 have few := pr.few
 have hB : (R.E.map (·.1)).flatMap (putF R.enc) = bytesL T.cur.ps := by rw [pr.E, pr.enc, (els_facts pr.t.cur pr.t.enc).1]
 have hlim := pr.t.lim; have hsm := pr.sm
 refine s_new1 _ fun h1 e1 oK1 z1 => ?_
 refine wp_grd rfl (wp_grd rfl (s_arr (b := .ptr) (some (at0 R.b)) (o.ext e1).cells hr hi (wp_call (c_refChunks (pr.r.ext e1) (by omega) hsz) fun ⟨(w : Sl), _⟩ h2 e2 ⟨ss, ow, hss, el⟩ => ?_)))
 rw [hB] at hss el
 have ow : Own h1.size 1 h2 w (ss.map fun x => slv x) := ow
 refine s_newput _ (slv w) rfl fun h3 e3 oW3 => ?_
 have e13 := e2.trans e3
 have e03 := e1.trans e13
 refine wp_grd rfl (wp_grd rfl (s_arr (b := .ptr) (some T.p) (o.ext e03).cells hp hi (wp_call (c_TChunks C (Z := T.Z) (pr.t.ext e03) (pr.t.ext e03).chr hsz) fun ⟨(it : Value), _⟩ h4 e4 ⟨b1, b3, hit, itc⟩ => ?_)))
 have hit : it = .func (.func S.f_Text_Chunks_1) #[] #[.pointer (some b1), .pointer (some b3)] := hit
 have itc : IterC P it (nchI (bytesL T.cur.ps).length size) (chunkI (bytesL T.cur.ps) size) (fun i => T.Z i ∨ h3.size ≤ i) 8 h4 := itc
 have hf1 : isFunc it = true := by rw [hit]; rfl
 have hf2 : isNilFunc it = false := by rw [hit]; rfl
 dsimp only
 rw [hf1, hf2]
 refine wp_grd rfl (s_ifF ?_)
 have hNs : nchI (bytesL T.cur.ps).length size ≤ 1073741824 := by have := nchI_le (bytesL T.cur.ps).length size; omega
 generalize bytesL T.cur.ps = B at hss el itc hNs
 generalize hNN : nchI B.length size = N at hss itc hNs
 have e04 := e03.trans e4
 have s1 := e1.size; have s2 := e2.size; have s3 := e3.size; have s4 := e4.size
 have l3 := (oW3.lt rfl).2
 dsimp only at l3
 have oK4 : Cel h.size h4 ⟨h.size, 0, none⟩ (i64v stop) := (oK1.ext e13).ext e4
 have oW4 : Cel h2.size h4 ⟨h2.size, 0, none⟩ (slv w) := oW3.ext e4
 have ow4 := (ow.ext e3).ext e4
 have el4 : ∀ (j : Nat) (x : Sl), ss[j]? = some x → OwnL h1.size .u8 h4 x (chunkI B size j) := fun j x hj => ((el j x hj).ext e3).ext e4
 have zlt : ∀ i, T.Z i → i < h.size := fun i hz => (pr.t.lo i hz).2
 refine wp_while (fun (r : Int × Unit) h' => ∃ k : Nat, k ≤ 2 ∧ r.1 = (k : Int) ∧ ∃ st, Chg (fun i => i = h.size) h4 h' ∧ Cel 0 h' ⟨h.size, 0, none⟩ (i64v st)) (fun r _ => (2 - r.1).toNat)
  (fun tag vs h' => tag = 2 ∧ vs = [] ∧ Ext h h') ⟨0, by omega, rfl, stop, Chg.refl _ _, oK4.mono (Nat.zero_le _)⟩ ?_ ?_
 ·rintro ⟨(r : Int), u⟩ h5 ⟨k, hk, hr, st, c5, oK5⟩
  dsimp only at hr ⊢
  subst hr
  have s5 := c5.1
  have e05 : Ext h h5 := Keep.trans e04 (c5.keep (by omega) fun i hi f => by omega)
  refine wp_ifB (fun hc => ?_) fun hc => s_ret ⟨fun hh => absurd hh (by decide), fun _ => ⟨rfl, rfl, e05⟩⟩
  rw [ltI_iff] at hc
  refine s_newput _ (i64v 0) rfl fun h6 e6 o6 => s_newput _ (.bool true) rfl fun h7 e7 o7 => s_newput _ (.bool false) rfl fun h8 e8 o8 => ?_
  have e58 := (e6.trans e7).trans e8
  have s6 := e6.size; have s7 := e7.size; have s8 := e8.size
  have l6 := (o6.lt rfl).2; have l7 := (o7.lt rfl).2; have l8 := (o8.lt rfl).2
  dsimp only at l6 l7 l8
  have c8 : Chg (fun i => i = h.size) h4 h8 := c5.ext e58
  have oN : Cel 0 h8 ⟨h5.size, 0, none⟩ (i64v ((0 : Nat) : Int)) := ((o6.ext e7).ext e8).mono (Nat.zero_le _)
  have oR : Cel 0 h8 ⟨h6.size, 0, none⟩ (.bool true) := (o7.ext e8).mono (Nat.zero_le _)
  have oS : Cel 0 h8 ⟨h7.size, 0, none⟩ (.bool false) := o8.mono (Nat.zero_le _)
  have oK8 : Cel 0 h8 ⟨h.size, 0, none⟩ (i64v st) := oK5.ext e58
  have oW8 : Cel 0 h8 ⟨h2.size, 0, none⟩ (slv w) := (c8.own oW4 fun x hx f => by cases hx; dsimp only at f; omega).mono (Nat.zero_le _)
  have ow8 : Own 0 1 h8 w (ss.map fun x => slv x) := (c8.own ow4 fun x hx f => by have := (ow4.lt hx).1; omega).mono (Nat.zero_le _)
  have el8 : ∀ (j : Nat) (x : Sl), ss[j]? = some x → OwnL 0 .u8 h8 x (chunkI B size j) := fun j x hj => (c8.ownL (el4 j x hj) fun y hy f => by have := ((el4 j x hj).own.lt hy).1; omega).mono (Nat.zero_le _)
  have held8 : Held (fun i => T.Z i ∨ h3.size ≤ i) h4 h8 := Held.of_chg c8 fun i hi hz f => by
   rcases hz with hz | hz
   ·have := zlt i hz; omega
   ·omega
  have fr : ∀ i, i = h5.size ∨ i = h7.size → i ≠ h2.size ∧ i ≠ h6.size ∧ i ≠ h.size ∧ (∀ a, w.base = some a → a.block ≠ i) ∧ ∀ x, x ∈ ss → ∀ a, x.base = some a → a.block ≠ i := fun i hi => by
   refine ⟨by omega, by omega, by omega, fun a ha => by have := (ow4.lt ha).2; omega, fun x hx a ha => ?_⟩
   obtain ⟨j, hj⟩ := List.getElem?_of_mem hx
   have := ((el4 j x hj).own.lt ha).2; omega
  refine wp_callv (DynE.mono (itc h8 _ (fun k h' => CbI h8 ⟨h5.size, 0, none⟩ ⟨h7.size, 0, none⟩ k false h') (fun h' => ∃ k, CbI h8 ⟨h5.size, 0, none⟩ ⟨h7.size, 0, none⟩ k true h') (by omega) held8 rfl
   (fun k a b j c => j.own c (by dsimp only; omega) (by dsimp only; omega)) (fun a b ⟨k, j⟩ c => ⟨k, j.own c (by dsimp only; omega) (by dsimp only; omega)⟩)
   (fun k hp h1' s hkN j hps c hz os => ?_) ⟨Chg.refl _ _, oN, oS⟩) fun vs h9 ⟨hv, s9, hz9, hend⟩ => ⟨(), hv, ?_⟩).toV
  ·refine (cb_chunks W (aW := ⟨h2.size, 0, none⟩) (aR := ⟨h6.size, 0, none⟩) (aK := ⟨h.size, 0, none⟩) hss hNs (by dsimp only; omega) oW8 oR oK8 ow8 el8 fr hkN j (by dsimp only; omega) (by dsimp only; omega) c os).mono fun vs h2' ⟨b, hb, cc, ht, hf⟩ => ⟨b, hb, Held.of_chg cc fun i _ hw f => ?_, ht, fun h => ⟨_, hf h⟩⟩
   rcases hw with hw | hw
   ·have := hw.1; dsimp only at f; omega
   ·have := hw.2; dsimp only at f; omega
  ·have hk9 : ∃ k' st', CbI h8 ⟨h5.size, 0, none⟩ ⟨h7.size, 0, none⟩ k' st' h9 ∧ (st' = false → k' = N) := by
    rcases hend with j | ⟨k, j⟩
    ·exact ⟨N, false, j, fun _ => rfl⟩
    ·exact ⟨k, true, j, fun h => by cases h⟩
   obtain ⟨k', st', j9, hst⟩ := hk9
   have oR9 : Cel 0 h9 ⟨h6.size, 0, none⟩ (.bool true) := j9.c.own oR fun x hx f => by cases hx; dsimp only at f; omega
   have oW9 : Cel 0 h9 ⟨h2.size, 0, none⟩ (slv w) := j9.c.own oW8 fun x hx f => by cases hx; dsimp only at f; omega
   have oK9 : Cel 0 h9 ⟨h.size, 0, none⟩ (i64v st) := j9.c.own oK8 fun x hx f => by cases hx; dsimp only at f; omega
   have lw := ow4.1
   rw [List.length_map, Nat.mul_one] at lw
   refine bind_bool False ?_ fun bb h10 e10 hb10 => wp_ifB (fun hx => (hb10.1 hx).elim) fun _ => ?_
   ·refine s_cel (b := .bool) (x := true) oR9 (s_ifF (s_cel (b := .bool) (x := st') j9.s (wp_ifB (fun hc => ?_) fun _ => s_ret ⟨rfl, Ext.refl _, false, rfl, Iff.intro (fun h => by cases h) False.elim⟩)))
    rw [notB_iff] at hc
    have := hst hc
    subst this
    refine s_cel (b := .int .i64) (x := (k' : Int)) j9.n (s_cel (b := .sl) (x := w) oW9 (s_ret ⟨rfl, Ext.refl _, _, rfl, ?_⟩))
    rw [neI_iff, natI_def]
    exact ⟨fun h => absurd (by omega) h, False.elim⟩
   ·refine s_celput (i64v 0) (oK9.ext e10) rfl fun h11 o11 u11 => ?_
    rw [add_ok (by omega) (by omega)]
    refine s_ret ⟨fun _ => ⟨((k : Int) + 1, ()), rfl, ⟨k + 1, by omega, by dsimp only; omega, 0, ?_, o11⟩, by dsimp only; omega⟩, fun hh => absurd rfl hh⟩
    exact ((c8.trans j9.c fun i hi f => by dsimp only at f; omega).ext e10).upd u11 fun x hx _ => by cases hx; rfl
 ·rintro tag vs h5 ⟨rfl, rfl, e05⟩
  exact s_tag (s_cast0 (s_ret ⟨rfl, e05, (true, ()), rfl, rfl⟩))
end Go.Sw.Piece

set_option linter.unusedVariables false
set_option linter.unusedSimpArgs false
set_option maxRecDepth 100000
namespace Go.Sw.Piece
open Go.Sw.Any Go.Sw.Codec
open Go.Sw.Tree (iv s_putAll s_newP s_getP s_getT s_putP eqI_self Placed cell_own wp_whileG minI_eq)
variable {P : Program} {S : Ids} {h : Heap} {Q : Nat → List Value → Heap → Prop}
theorem get2 {α : Type} (f g : α → Value) : ∀ (K : List α) (i : Nat) (k : α), K[i]? = some k → (K.flatMap fun k => [f k, g k])[i * 2]? = some (f k) ∧ (K.flatMap fun k => [f k, g k])[i * 2 + 1]? = some (g k)
 | [], i, k, h => by simp at h
 | x :: K, 0, k, h => by simp at h; subst h; simp
 | x :: K, i + 1, k, h => by
  have := get2 f g K i k (by simpa using h)
  rw [List.flatMap_cons]
  rw [show (i + 1) * 2 = i * 2 + 1 + 1 by omega]
  exact ⟨by simpa using this.1, by simpa using this.2⟩
theorem len2 {α : Type} (f g : α → Value) (K : List α) : (K.flatMap fun k => [f k, g k]).length = K.length * 2 := by
 induction K with
 | nil => rfl
 | cons x K ih => rw [List.flatMap_cons, List.length_append, ih]; simp only [List.length_cons, List.length_nil]; omega
abbrev KE := Sl × Sl × List El
abbrev skV (K : List KE) : List Value := K.flatMap fun k => [slv k.1, slv k.2.1]
structure SnapD (n : Nat) (h h' : Heap) (R R' : RX) : Prop where
 r : RefT n h' R'
 b : R'.b = R.b
 enc : R'.enc = R.enc
 limit : R'.limit = R.limit
 E : R'.E = R.E
 K : R'.K = R.K ++ [(R.sa, R.st, R.E)]
 zm : ∀ i, R.Z i → R'.Z i
 zn : ∀ i, R'.Z i → R.Z i ∨ h.size ≤ i
theorem c_refSnap {n : Nat} {R : RX} (r : RefT n h R) (hn : n ≤ h.size) (few : R.K.length ≤ 1073741824) :
  wp P (F_ref_Text_Snap S (some (at0 R.b))) h fun tag vs h' => tag = 0 ∧ vs = [i64v R.K.length] ∧ Chg R.Z h h' ∧ ∃ R', SnapD n h h' R R' := by
 unfold F_ref_Text_Snap
 refine wp_grd rfl (wp_grd rfl (s_cell (b := .sl) R.sk rfl r.ob.cells rfl (wp_grd rfl (wp_grd rfl (s_cell (b := .sl) R.sa rfl r.ob.cells rfl (wp_grd rfl (wp_grd rfl (s_cell (b := .sl) R.st rfl r.ob.cells rfl ?_))))))))
 refine s_alloc fun elem => ?_
 have e1 := Ext.push h [slv R.sa, slv R.st].toArray elem
 have hrd := rd_alloc (h := h) (vs := [slv R.sa, slv R.st]) (elem := elem) (size := 2) (n := 1) (c := 1) rfl
 generalize h.push (.cells [slv R.sa, slv R.st].toArray elem) = h1 at e1 hrd ⊢
 have r1 := r.ext e1
 have q1 := e1.size
 have lk := r.sk.1
 rw [show (R.K.flatMap fun k => [slv k.1, slv k.2.1]).length = R.K.length * 2 from len2 _ _ _] at lk
 have hk2 : R.sk.len = R.K.length := by omega
 refine s_ckC (cells_iff.1 r1.ob.cells 4 _ rfl) (wp_append r1.sk (by omega) hrd (by intro v hv; simp at hv; rcases hv with rfl | rfl <;> rfl) rfl (by dsimp only; omega) (by dsimp only; omega) fun s' h2 o2 l2 u2 b2 => ?_)
 have hv : (R.K.flatMap fun k => [slv k.1, slv k.2.1]) ++ [slv R.sa, slv R.st] = skV (R.K ++ [(R.sa, R.st, R.E)]) := by unfold skV; rw [List.flatMap_append]; rfl
 rw [hv] at o2
 have q2 := u2.1
 have zlo := r.lo
 have c2 : Chg (fun i => ∃ a, R.sk.base = some a ∧ a.block = i) h1 h2 := Chg.of_upd u2 fun x hx _ => ⟨x, hx, rfl⟩
 have ob2 := c2.own r1.ob fun x hx f => by cases hx; obtain ⟨a, ha, e⟩ := f; exact (r.zs a ha).2 e
 refine wp_grd rfl (wp_grd rfl (s_setC' (slv s') ob2 (by simp) rfl fun h3 o3 u3 => ?_))
 have q3 := u3.1
 have c3 : Chg (fun i => i = R.b) h2 h3 := Chg.of_upd u3 fun x hx _ => by cases hx; rfl
 have c23 : Chg (fun i => i = R.b ∨ ∃ a, R.sk.base = some a ∧ a.block = i) h1 h3 := (c2.mono fun i _ f => .inr f).trans c3 fun i _ f => .inl f
 have sb : ∀ a, s'.base = some a → a.block ≠ R.b ∧ ∀ i, i < h.size → (∀ a, R.sk.base = some a → a.block ≠ i) → a.block ≠ i := fun a ha => by
  have hb := (zlo _ r.zb).2
  rcases b2 a ha with h | h
  ·exact ⟨(r.zs a h).2, fun i _ hi => hi a h⟩
  ·exact ⟨by omega, fun i hi _ => by omega⟩
 have o2' := c3.own o2 fun x hx f => (sb x hx).1 f
 refine wp_grd rfl (wp_grd rfl (s_cell (b := .sl) s' rfl o3.cells rfl (s_ret ⟨rfl, ?_, ?_, { R with sk := s', K := R.K ++ [(R.sa, R.st, R.E)], Z := fun i => R.Z i ∨ ∃ a, s'.base = some a ∧ a.block = i }, ?_, rfl, rfl, rfl, rfl, rfl, fun i hi => .inl hi, fun i hi => ?_⟩)))
 ·rw [natI_def, l2, hk2, sub_ok (by dsimp only; omega) (by dsimp only; omega)]
  have : ((R.K.length + 1 : Nat) : Int) - 1 = (R.K.length : Int) := by omega
  dsimp only
  rw [this]
 ·exact (Chg.of_ext e1).trans c23 fun i hi f => by
   rcases f with rfl | ⟨a, ha, rfl⟩
   ·exact r.zb
   ·exact (r.zs a ha).1
 ·have shw : ∀ {k : KE}, Shows n h k → (∀ i, inK k i → R.Z i ∧ i ≠ R.b ∧ ∀ a, R.sk.base = some a → a.block ≠ i) → Shows n h3 k := fun s hz => (s.chg (Chg.of_ext (F := fun _ => False) e1) fun _ _ f => f).chg c23 fun i hi f => by
   obtain ⟨_, h1, h2⟩ := hz i hi
   rcases f with f | ⟨a, ha, e⟩
   ·exact h1 f
   ·exact h2 a ha e
  have shz : ∀ i, R.Z i ∧ i ≠ R.b ∧ (∀ a, R.sk.base = some a → a.block ≠ i) → (R.Z i ∨ ∃ a, s'.base = some a ∧ a.block = i) ∧ i ≠ R.b ∧ ∀ a, s'.base = some a → a.block ≠ i := fun i ⟨h1, h2, h3⟩ => ⟨.inl h1, h2, fun a ha => (sb a ha).2 i (zlo i h1).2 h3⟩
  refine ⟨r.enc, r.lim, o3, shw r.cur r.zc, o2', fun k hk => ?_, .inl r.zb, fun i hi => shz i (r.zc i hi), fun k hk i hi => ?_, fun a ha => ⟨.inr ⟨a, ha, rfl⟩, (sb a ha).1⟩, fun i hi => ?_, r.fit⟩
  ·rcases List.mem_append.1 hk with hk | hk
   ·exact shw (r.kept k hk) (r.zk k hk)
   ·rw [List.mem_singleton.1 hk]; exact shw r.cur r.zc
  ·rcases List.mem_append.1 hk with hk | hk
   ·exact shz i (r.zk k hk i hi)
   ·rw [List.mem_singleton.1 hk] at hi; exact shz i (r.zc i hi)
  ·rcases hi with hi | ⟨a, ha, rfl⟩
   ·have := zlo i hi; exact ⟨this.1, by omega⟩
   ·have := o2'.lt ha; exact this
 ·rcases hi with hi | ⟨a, ha, rfl⟩
  ·exact .inl hi
  ·rcases b2 a ha with h | h
   ·exact .inl (r.zs a h).1
   ·exact .inr (by omega)
theorem c_refBackNo {n : Nat} {R : RX} {k : Int} (r : RefT n h R) (hk : k < 0) : Gives P (F_ref_Text_Back S (some (at0 R.b)) k) [.one (.int .i64)] h fun (y : Int × Unit) _ => y.1 = 51 := by
 unfold F_ref_Text_Back Gives
 refine bind_bool True ?_ fun bb h1 e1 hb1 => wp_ifB (fun _ => s_ret ⟨rfl, e1, (51, ()), rfl, rfl⟩) fun hx => ?_
 ·exact wp_ifB (fun _ => s_ret ⟨rfl, Ext.refl _, true, rfl, Iff.intro (fun _ => trivial) fun _ => rfl⟩) fun hc => by rw [ltI_not] at hc; omega
 ·have hx : bb = false := hx
  rw [hb1.2 trivial] at hx; cases hx
theorem c_refBack {n k : Nat} {R : RX} {q : KE} (r : RefT n h R) (hk : R.K[k]? = some q) (hf : ∀ a, a ∈ q.2.2.map (·.1) → 0 < sizeF R.enc a) :
  wp P (F_ref_Text_Back S (some (at0 R.b)) (k : Int)) h fun tag vs h' => tag = 0 ∧ vs = [i64v 0] ∧ Chg (fun i => i = R.b) h h' ∧ RefT n h' { R with sa := q.1, st := q.2.1, E := q.2.2 } := by
 unfold F_ref_Text_Back
 have hlt := (List.getElem?_eq_some_iff.1 hk).1
 have hqm := List.mem_of_getElem? hk
 obtain ⟨g1, g2⟩ := get2 (fun k : KE => slv k.1) (fun k : KE => slv k.2.1) R.K k q hk
 obtain ⟨a, ea, c1⟩ := r.sk.rd.2 _ _ g1
 obtain ⟨a', ea', c2⟩ := r.sk.rd.2 _ _ g2
 rw [ea] at ea'; cases ea'
 have lk := r.sk.1
 rw [show (R.K.flatMap fun k => [slv k.1, slv k.2.1]).length = R.K.length * 2 from len2 _ _ _] at lk
 have hk2 : R.sk.len = R.K.length := by omega
 have hg : andB (someB R.sk.base) (inB (k : Int) R.sk.len) = true := andB_iff.2 ⟨by rw [ea]; rfl, inB_is.2 ⟨by omega, by omega⟩⟩
 have hsh : shiftTo R.sk.base (mulN (toN (k : Int)) 2) = some (a.add (k * 2)) := by rw [ea, shiftTo_some, mulN_def, toN_def, Int.toNat_natCast]
 have c1' : Sw.cell h ((a.add (k * 2)).add 0) = some (slv q.1) := by rw [add_zero']; exact c1
 have c2' : Sw.cell h ((a.add (k * 2)).add 1) = some (slv q.2.1) := by rw [add_add]; exact c2
 refine bind_bool False ?_ fun bb h1 e1 hb1 => wp_ifB (fun hx => (hb1.1 hx).elim) fun _ => ?_
 ·refine wp_ifB (fun hc => by rw [ltI_iff] at hc; omega) fun _ => wp_grd rfl (wp_grd rfl (s_cell (b := .sl) R.sk rfl r.ob.cells rfl (s_ret ⟨rfl, Ext.refl _, _, rfl, ?_⟩)))
  rw [geI_iff, natI_def]
  exact ⟨fun h => by omega, False.elim⟩
 have r1 := r.ext e1
 refine wp_grd rfl (wp_grd rfl (s_cell (b := .sl) R.sk rfl r1.ob.cells rfl ?_))
 rw [hg, hsh]
 have hne : a.block ≠ R.b := (r.zs a ea).2
 refine wp_grd rfl (wp_grd rfl (wp_load1 (b := .sl) _ q.1 rfl (e1.cell c1') (wp_grd rfl (wp_grd rfl (s_setC' (slv q.1) r1.ob (by simp) rfl fun h2 o2 u2 => ?_)))))
 have c12 : Chg (fun i => i = R.b) h1 h2 := Chg.of_upd u2 fun x hx _ => by cases hx; rfl
 have hc2 : Sw.cell h2 ((a.add (k * 2)).add 1) = some (slv q.2.1) := by
  have := e1.cell c2'
  rw [cell_of_block (h := h1) (h' := h2) (by rw [add_block, add_block]; exact c12.2.1 _ (by have := cell_lt this; rwa [add_block, add_block] at this) hne)]; exact this
 refine wp_grd rfl (wp_grd rfl (s_cell (b := .sl) R.sk rfl o2.cells rfl ?_))
 rw [hg, hsh]
 refine wp_grd rfl (wp_grd rfl (wp_load1 (b := .sl) _ q.2.1 rfl hc2 (wp_grd rfl (wp_grd rfl (s_setC' (slv q.2.1) o2 (by simp) rfl fun h3 o3 u3 => s_ret ⟨rfl, rfl, ?_⟩)))))
 have c23 : Chg (fun i => i = R.b) h2 h3 := Chg.of_upd u3 fun x hx _ => by cases hx; rfl
 have c13 := c12.trans c23 fun _ _ f => f
 have q13 := c13.1
 have sh : ∀ {k : KE}, Shows n h1 k → (∀ i, inK k i → i ≠ R.b) → Shows n h3 k := fun s hz => s.chg c13 fun i hi f => hz i hi f
 refine ⟨(Chg.of_ext e1).trans c13 fun _ _ f => f, r.enc, r.lim, o3, sh (r1.kept q hqm) fun i hi => (r.zk q hqm i hi).2.1, c13.own r1.sk fun x hx f => (r.zs x hx).2 f, fun k hk => sh (r1.kept k hk) fun i hi => (r.zk k hk i hi).2.1, r.zb, r.zk q hqm, r.zk, r.zs, fun i hi => ?_, hf⟩
 have := r1.lo i hi; exact ⟨this.1, by omega⟩
structure SnK where
 a : Addr
 i : Nat
 s : St
 num : Nat
structure WX where
 t : Nat → Option TX
 r : Nat → Option RX
 sn : List SnK
 sS : Sl
 sO : Sl
 sN : Sl
 pen : Option PenS
 ρ : Nat → Nat
def penP : Option PenS → Option Addr
 | none => none
 | some s => some (at0 s.ob)
abbrev WX.cells (w : WX) : List Value := [.pointer (tP (w.t 0)), .pointer (tP (w.t 1)), .pointer (rP (w.r 0)), .pointer (rP (w.r 1)), slv w.sS, slv w.sO, slv w.sN, .pointer (penP w.pen)]
structure SnapG (n : Nat) (h : Heap) (w : WX) (k : SnK) : Prop where
 lt : k.i < 2
 go : ∃ T R, w.t k.i = some T ∧ w.r k.i = some R ∧ SnapR n h k.a T.p k.s ∧ k.s ∈ T.kept ∧ (bytesL k.s.ps).length ≤ T.limit ∧ ∃ q, R.K[k.num]? = some q ∧ q.2.2 = els T.enc k.s.ps
structure WorldR (S : Ids) (n : Nat) (h : Heap) (wb : Nat) (w : WX) (am ks : Nat) : Prop where
 ob : Own n 1 h ⟨some (at0 wb), 8, 8⟩ w.cells
 pair : ∀ i, i < 2 → PairO S n h (w.t i) (w.r i)
 pen : PenO n h (penP w.pen) w.pen
 lS : Own n 1 h w.sS (w.sn.map fun k => .pointer (some k.a))
 lO : OwnL n .i64 h w.sO (w.sn.map fun k => (k.i : Int))
 lN : OwnL n .i64 h w.sN (w.sn.map fun k => (k.num : Int))
 snap : ∀ k, k ∈ w.sn → SnapG n h w k
 few : w.sn.length ≤ ks
 kfew : ∀ i, i < 2 → ∀ R, w.r i = some R → R.K.length ≤ ks
 A : ∀ i, i < 2 → ∀ T, w.t i = some T → T.A.length ≤ am
 r1 : w.ρ wb = 1
 r2 : ∀ a, w.sS.base = some a → w.ρ a.block = 2
 r3 : ∀ a, w.sO.base = some a → w.ρ a.block = 3
 r4 : ∀ a, w.sN.base = some a → w.ρ a.block = 4
 r5 : ∀ k, k ∈ w.sn → w.ρ k.a.block = 5
 r6 : ∀ i, i < 2 → ∀ T, w.t i = some T → ∀ x, T.Z x → w.ρ x = 6 + 2 * i
 r7 : ∀ i, i < 2 → ∀ R, w.r i = some R → ∀ x, R.Z x → w.ρ x = 7 + 2 * i
 r10 : ∀ x, oZ w.pen x → w.ρ x = 10
 lo : ∀ x, w.ρ x ≠ 0 → n ≤ x ∧ x < h.size
variable {n wb am ks : Nat} {w : WX}
theorem SnapG.chg {F : Nat → Prop} {h' : Heap} {k : SnK} (g : SnapG n h w k) (c : Chg F h h') (hF : ¬ F k.a.block) : SnapG n h' w k := by
 obtain ⟨lt, T, R, h1, h2, h3, h4⟩ := g
 exact ⟨lt, T, R, h1, h2, c.own h3 fun x hx f => by cases hx; exact hF f, h4⟩
theorem WorldR.chg {F : Nat → Prop} {h' : Heap} (W : WorldR S n h wb w am ks) (c : Chg F h h') (hF : ∀ x, w.ρ x ≠ 0 → ¬ F x) : WorldR S n h' wb w am ks where
 ob := c.own W.ob fun x hx f => by cases hx; exact hF wb (by rw [W.r1]; decide) f
 pair i hi := (W.pair i hi).chg c fun x hx => hF x (by
  rcases hx with ⟨T, e, z⟩ | ⟨R, e, z⟩
  ·rw [W.r6 i hi T e x z]; omega
  ·rw [W.r7 i hi R e x z]; omega)
 pen := W.pen.chg c fun x hx => hF x (by rw [W.r10 x hx]; decide)
 lS := c.own W.lS fun x hx f => hF _ (by rw [W.r2 x hx]; decide) f
 lO := c.ownL W.lO fun x hx f => hF _ (by rw [W.r3 x hx]; decide) f
 lN := c.ownL W.lN fun x hx f => hF _ (by rw [W.r4 x hx]; decide) f
 snap k hk := (W.snap k hk).chg c (hF _ (by rw [W.r5 k hk]; decide))
 few := W.few
 kfew := W.kfew
 A := W.A
 r1 := W.r1
 r2 := W.r2
 r3 := W.r3
 r4 := W.r4
 r5 := W.r5
 r6 := W.r6
 r7 := W.r7
 r10 := W.r10
 lo x hx := by have := W.lo x hx; have := c.1; omega
theorem WorldR.ext {h' : Heap} (W : WorldR S n h wb w am ks) (e : Ext h h') : WorldR S n h' wb w am ks := W.chg (F := fun _ => False) (Chg.of_ext e) fun _ _ f => f
theorem WorldR.more {am' ks' : Nat} (W : WorldR S n h wb w am ks) (ha : am ≤ am') (hk : ks ≤ ks') : WorldR S n h wb w am' ks' :=
 { W with few := Nat.le_trans W.few hk, kfew := fun i hi R e => Nat.le_trans (W.kfew i hi R e) hk, A := fun i hi T e => Nat.le_trans (W.A i hi T e) ha }
theorem WorldR.at (W : WorldR S n h wb w am ks) {i : Nat} (hi : i < 2) : w.cells[0 + i]? = some (.pointer (tP (w.t i))) ∧ w.cells[2 + i]? = some (.pointer (rP (w.r i))) := by
 match i, hi with
 | 0, _ => exact ⟨rfl, rfl⟩
 | 1, _ => exact ⟨rfl, rfl⟩
def updO {α : Type} (i : Nat) (x : α) (f : Nat → Option α) : Nat → Option α := fun j => if j = i then some x else f j
theorem updO_at {α : Type} (i : Nat) (x : α) (f : Nat → Option α) : updO i x f i = some x := if_pos rfl
theorem updO_ne {α : Type} {i j : Nat} (x : α) (f : Nat → Option α) (hj : j ≠ i) : updO i x f j = f j := if_neg hj
open Classical in
theorem WorldR.step {h' : Heap} {i am' ks' : Nat} {T T' : TX} {R R' : RX} {s' : Option PenS} (W : WorldR S n h wb w am ks) (hi : i < 2) (hT : w.t i = some T) (hR : w.r i = some R) (c : Chg (fun x => w.ρ x = 6 + 2 * i ∨ w.ρ x = 7 + 2 * i ∨ w.ρ x = 10) h h')
  (pr : PairR S n h' T' R') (tp : T'.p = T.p) (te : T'.enc = T.enc) (tl : T'.limit = T.limit) (tk : ∀ s, s ∈ T.kept → s ∈ T'.kept) (rb : R'.b = R.b) (rk : ∀ (q : Nat) (k : KE), R.K[q]? = some k → R'.K[q]? = some k)
  (pen : PenO n h' (penP w.pen) s') (pp : penP s' = penP w.pen) (zt : ∀ x, T'.Z x → T.Z x ∨ h.size ≤ x) (zr : ∀ x, R'.Z x → R.Z x ∨ h.size ≤ x) (zp : ∀ x, oZ s' x → oZ w.pen x ∨ h.size ≤ x)
  (d1 : ∀ x, T'.Z x → ¬ oZ s' x) (d2 : ∀ x, R'.Z x → ¬ oZ s' x) (ha : am ≤ am') (hk : ks ≤ ks') (hA : T'.A.length ≤ am') (hK : R'.K.length ≤ ks') :
  ∃ ρ', (∀ x, x < h.size → ρ' x = w.ρ x) ∧ WorldR S n h' wb { w with t := updO i T' w.t, r := updO i R' w.r, pen := s', ρ := ρ' } am' ks' := by
 have hlt : ∀ x, w.ρ x ≠ 0 → x < h.size := fun x hx => (W.lo x hx).2
 refine ⟨fun x => if x < h.size then w.ρ x else if T'.Z x then 6 + 2 * i else if R'.Z x then 7 + 2 * i else if oZ s' x then 10 else 0, fun x hx => if_pos hx, ?_⟩
 have old : ∀ {x m : Nat}, w.ρ x = m → m ≠ 0 → (if x < h.size then w.ρ x else if T'.Z x then 6 + 2 * i else if R'.Z x then 7 + 2 * i else if oZ s' x then 10 else 0) = m := fun {x m} e hm => by rw [if_pos (hlt x (by rw [e]; exact hm)), e]
 have nr : ∀ {x m : Nat}, w.ρ x = m → m ≠ 6 + 2 * i → m ≠ 7 + 2 * i → m ≠ 10 → ¬ (w.ρ x = 6 + 2 * i ∨ w.ρ x = 7 + 2 * i ∨ w.ρ x = 10) := fun {x m} e a b d f => by rw [e] at f; rcases f with f | f | f <;> contradiction
 have hcells : ({ w with t := updO i T' w.t, r := updO i R' w.r, pen := s' } : WX).cells = w.cells := by
  have h0 : ∀ j, tP (updO i T' w.t j) = tP (w.t j) := fun j => by
   by_cases h : j = i
   ·subst h; rw [updO_at, hT]; show some T'.p = some T.p; rw [tp]
   ·rw [updO_ne _ _ h]
  have h1 : ∀ j, rP (updO i R' w.r j) = rP (w.r j) := fun j => by
   by_cases h : j = i
   ·subst h; rw [updO_at, hR]; show some (at0 R'.b) = some (at0 R.b); rw [rb]
   ·rw [updO_ne _ _ h]
  simp only [WX.cells, h0, h1, pp]
 refine { ob := ?_, pair := ?_, pen := ?_, lS := ?_, lO := ?_, lN := ?_, snap := ?_, few := Nat.le_trans W.few hk, kfew := ?_, A := ?_, r1 := old W.r1 (by decide), r2 := fun a ha => old (W.r2 a ha) (by decide), r3 := fun a ha => old (W.r3 a ha) (by decide), r4 := fun a ha => old (W.r4 a ha) (by decide), r5 := fun k hk => old (W.r5 k hk) (by decide), r6 := ?_, r7 := ?_, r10 := ?_, lo := ?_ }
 ·show Own n 1 h' ⟨some (at0 wb), 8, 8⟩ (({ w with t := updO i T' w.t, r := updO i R' w.r, pen := s' } : WX).cells)
  rw [hcells]
  exact c.own W.ob fun x hx f => by cases hx; exact nr W.r1 (by omega) (by omega) (by decide) f
 ·intro j hj
  show PairO S n h' (updO i T' w.t j) (updO i R' w.r j)
  by_cases h : j = i
  ·subst h; rw [updO_at, updO_at]; exact pr
  ·rw [updO_ne _ _ h, updO_ne _ _ h]
   refine (W.pair j hj).chg c fun x hx => ?_
   rcases hx with ⟨T, e, z⟩ | ⟨R, e, z⟩
   ·exact nr (W.r6 j hj T e x z) (by omega) (by omega) (by omega)
   ·exact nr (W.r7 j hj R e x z) (by omega) (by omega) (by omega)
 ·show PenO n h' (penP s') s'
  rw [pp]; exact pen
 ·exact c.own W.lS fun x hx f => nr (W.r2 x hx) (by omega) (by omega) (by decide) f
 ·exact c.ownL W.lO fun x hx f => nr (W.r3 x hx) (by omega) (by omega) (by decide) f
 ·exact c.ownL W.lN fun x hx f => nr (W.r4 x hx) (by omega) (by omega) (by decide) f
 ·intro k hk
  obtain ⟨lt, T1, R1, h1, h2, h3, h4, h5, q, h6, h7⟩ := W.snap k hk
  have h3' : SnapR n h' k.a T1.p k.s := c.own h3 fun x hx f => by cases hx; exact nr (W.r5 k hk) (by omega) (by omega) (by decide) f
  by_cases h : k.i = i
  ·rw [h, hT] at h1; cases h1
   rw [h, hR] at h2; cases h2
   refine ⟨lt, T', R', ?_, ?_, by rw [tp]; exact h3', tk _ h4, by rw [tl]; exact h5, q, rk _ _ h6, by rw [te]; exact h7⟩
   ·show updO i T' w.t k.i = _; rw [h, updO_at]
   ·show updO i R' w.r k.i = _; rw [h, updO_at]
  ·exact ⟨lt, T1, R1, by show updO i T' w.t k.i = _; rw [updO_ne _ _ h]; exact h1, by show updO i R' w.r k.i = _; rw [updO_ne _ _ h]; exact h2, h3', h4, h5, q, h6, h7⟩
 ·intro j hj R1 e
  have e : updO i R' w.r j = some R1 := e
  by_cases h : j = i
  ·subst h; rw [updO_at] at e; cases e; exact hK
  ·rw [updO_ne _ _ h] at e; exact Nat.le_trans (W.kfew j hj R1 e) hk
 ·intro j hj T1 e
  have e : updO i T' w.t j = some T1 := e
  by_cases h : j = i
  ·subst h; rw [updO_at] at e; cases e; exact hA
  ·rw [updO_ne _ _ h] at e; exact Nat.le_trans (W.A j hj T1 e) ha
 ·intro j hj T1 e x z
  have e : updO i T' w.t j = some T1 := e
  by_cases h : j = i
  ·subst h; rw [updO_at] at e; cases e
   rcases zt x z with z' | z'
   ·exact old (W.r6 j hj T hT x z') (by omega)
   ·show (if x < h.size then _ else _) = _
    rw [if_neg (by omega), if_pos z]
  ·rw [updO_ne _ _ h] at e; exact old (W.r6 j hj T1 e x z) (by omega)
 ·intro j hj R1 e x z
  have e : updO i R' w.r j = some R1 := e
  by_cases h : j = i
  ·subst h; rw [updO_at] at e; cases e
   rcases zr x z with z' | z'
   ·exact old (W.r7 j hj R hR x z') (by omega)
   ·show (if x < h.size then _ else _) = _
    rw [if_neg (by omega), if_neg fun hz => pr.far x hz z, if_pos z]
  ·rw [updO_ne _ _ h] at e; exact old (W.r7 j hj R1 e x z) (by omega)
 ·intro x z
  have z : oZ s' x := z
  rcases zp x z with z' | z'
  ·exact old (W.r10 x z') (by decide)
  ·show (if x < h.size then _ else _) = _
   rw [if_neg (by omega), if_neg fun hz => d1 x hz z, if_neg fun hz => d2 x hz z, if_pos z]
 ·intro x hx
  have hx : (if x < h.size then w.ρ x else if T'.Z x then 6 + 2 * i else if R'.Z x then 7 + 2 * i else if oZ s' x then 10 else 0) ≠ 0 := hx
  have q := c.1
  by_cases h1 : x < h.size
  ·rw [if_pos h1] at hx; have := W.lo x hx; omega
  ·rw [if_neg h1] at hx
   by_cases h2 : T'.Z x
   ·exact pr.t.lo x h2
   ·rw [if_neg h2] at hx
    by_cases h3 : R'.Z x
    ·exact pr.r.lo x h3
    ·rw [if_neg h3] at hx
     by_cases h4 : oZ s' x
     ·exact pen.in h4
     ·rw [if_neg h4] at hx; exact absurd rfl hx
end Go.Sw.Piece

set_option linter.unusedVariables false
set_option linter.unusedSimpArgs false
set_option maxRecDepth 100000
namespace Go.Sw.Piece
open Go.Sw.Any Go.Sw.Codec
open Go.Sw.Tree (iv s_putAll s_newP s_getP s_getT s_putP eqI_self Placed cell_own wp_whileG minI_eq)
variable {P : Program} {S : Ids} {h : Heap} {Q : Nat → List Value → Heap → Prop}
variable {n wb am ks : Nat} {w : WX}
theorem s_newPen {K : Addr → Prog} (hk : ∀ h', Ext h h' → Own h.size 1 h' ⟨some (at0 h.size), 2, 2⟩ [.slice none 0 0, .slice none 0 0] → h'.size = h.size + 1 → wp P (K (at0 h.size)) h' Q) : wp P (.alloc [.slice none 0 0, .slice none 0 0] K) h Q :=
 fun elem => hk _ (Ext.push ..) (own_alloc rfl (by decide) (by decide)) (by simp)
def pen0 (b : Nat) : PenS := ⟨b, none, ⟨none, 0, 0⟩, []⟩
theorem pen0_Z {b x : Nat} (hx : oZ (some (pen0 b)) x) : x = b := by
 rcases hx with (h | ⟨a, ha, _⟩) | h | h
 ·exact h
 ·cases ha
 ·cases h
 ·cases h
theorem pen0_R {b : Nat} (o : Own n 1 h ⟨some (at0 b), 2, 2⟩ [.slice none 0 0, .slice none 0 0]) : PenR n h (pen0 b) :=
 ⟨o, fun b hb => (by cases hb), Own.nil _ _ _, fun b hb => (by cases hb), List.nodup_nil, fun b hb => (by cases hb), fun i hi hw => (by rcases hw with h | h <;> cases h), fun a ha => (by cases ha), Nat.zero_le _⟩
theorem WorldR.penned (W : WorldR S n h wb w am ks) (hn : n ≤ h.size) (hp : w.pen = none) {h1 h2 : Heap} (e1 : Ext h h1) (z1 : h1.size = h.size + 1) (o1 : Own h.size 1 h1 ⟨some (at0 h.size), 2, 2⟩ [.slice none 0 0, .slice none 0 0])
  (o2 : Own n 1 h2 ⟨some (at0 wb), 8, 8⟩ (w.cells.set 7 (.pointer (some (at0 h.size))))) (u : Upd ⟨some (at0 wb), 8, 8⟩ h1 h2) :
  WorldR S n h2 wb { w with pen := some (pen0 h.size), ρ := fun x => if x = h.size then 10 else w.ρ x } am ks := by
 have c : Chg (fun i => i = wb) h1 h2 := Chg.of_upd u fun x hx _ => by cases hx; rfl
 have W1 := W.ext e1
 have hlt : ∀ x m, w.ρ x = m → m ≠ 0 → x ≠ h.size := fun x m e hm => by have := (W.lo x (by rw [e]; exact hm)).2; omega
 have old : ∀ {x m : Nat}, w.ρ x = m → m ≠ 0 → (if x = h.size then 10 else w.ρ x) = m := fun {x m} e hm => by rw [if_neg (hlt x m e hm), e]
 have nw : ∀ {x m : Nat}, w.ρ x = m → m ≠ 1 → x ≠ wb := fun {x m} e hm he => by subst he; rw [W.r1] at e; exact hm e.symm
 have hwb := (W.lo wb (by rw [W.r1]; decide)).2
 have op : Own n 1 h2 ⟨some (at0 h.size), 2, 2⟩ [.slice none 0 0, .slice none 0 0] := (c.own o1 fun x hx f => by cases hx; have f : h.size = wb := f; omega).mono hn
 exact {
     ob := o2, pair := fun i hi => (W1.pair i hi).chg c fun x hx => (by
      rcases hx with ⟨T, e, z⟩ | ⟨R, e, z⟩
      ·exact nw (W.r6 i hi T e x z) (by omega)
      ·exact nw (W.r7 i hi R e x z) (by omega)),
     pen := ⟨rfl, pen0_R op⟩, lS := c.own W1.lS fun x hx f => nw (W.r2 x hx) (by decide) f, lO := c.ownL W1.lO fun x hx f => nw (W.r3 x hx) (by decide) f, lN := c.ownL W1.lN fun x hx f => nw (W.r4 x hx) (by decide) f,
     snap := fun k hk => (by
      obtain ⟨lt, T, R, a1, a2, a3, a4⟩ := (W1.snap k hk).chg c (nw (W.r5 k hk) (by decide))
      exact ⟨lt, T, R, a1, a2, a3, a4⟩),
     few := W.few, kfew := W.kfew, A := W.A, r1 := old W.r1 (by decide), r2 := fun a ha => old (W.r2 a ha) (by decide), r3 := fun a ha => old (W.r3 a ha) (by decide), r4 := fun a ha => old (W.r4 a ha) (by decide), r5 := fun k hk => old (W.r5 k hk) (by decide),
     r6 := fun i hi T e x z => old (W.r6 i hi T e x z) (by omega), r7 := fun i hi R e x z => old (W.r7 i hi R e x z) (by omega), r10 := fun x hx => (by rw [pen0_Z hx]; exact if_pos rfl),
     lo := fun x hx => (by
      have q := c.1
      by_cases h1 : x = h.size
      ·omega
      ·have hx : (if x = h.size then 10 else w.ρ x) ≠ 0 := hx
       rw [if_neg h1] at hx; have := W.lo x hx; omega) }
theorem c_world_change (M : Meth0 P S) {i : Nat} {T : TX} {R : RX} {x : Eds} (W : WorldR S n h wb w am ks) (hi : i < 2) (hT : w.t i = some T) (hR : w.r i = some R) (hn : n ≤ h.size) (hok : ∀ h', Keep n h h' → (Sh.list EdSh).ok h' x)
  (hL : x.2.length ≤ 1073741824) (hPL : ∀ e, e ∈ x.2 → putLen e ≤ 1073741824) (hPU : (putsOf x.2).length ≤ 1000000000) (hA : am + 4 * (putsOf x.2).length ≤ 400000000000) :
  wp P (F_world_change S (some (at0 wb)) (i : Int) x.1) h fun tag vs h' => tag = 0 ∧ vs = [.bool true] ∧ Keep n h h' ∧ ∃ w', WorldR S n h' wb w' (am + 4 * (putsOf x.2).length) ks := by
 unfold F_world_change
 refine wp_bind (fun tag vs h' => tag = 0 ∧ vs = [] ∧ Keep n h h' ∧ ∃ w1, WorldR S n h' wb w1 am ks ∧ w1.t i = some T ∧ w1.r i = some R) ?_ ?_
 ·refine wp_grd rfl (wp_grd rfl (s_cell (b := .ptr) (penP w.pen) rfl W.ob.cells rfl (wp_ifB (fun hc => ?_) fun _ => s_ret ⟨rfl, rfl, Keep.refl _ _, w, W, hT, hR⟩)))
  have hp : w.pen = none := by
   cases hq : w.pen with
   | none => rfl
   | some s => rw [hq] at hc; cases hc
  refine s_newPen fun h1 e1 o1 z1 => wp_grd rfl (wp_grd rfl (s_setC' (.pointer (some (at0 h.size))) (W.ext e1).ob (by simp) rfl fun h2 o2 u2 => s_ret ⟨rfl, rfl, ?_, _, W.penned hn hp e1 z1 o1 o2 u2, hT, hR⟩))
  have hwb := W.lo wb (by rw [W.r1]; decide)
  exact Keep.trans (e1.keep hn) ((Chg.of_upd (F := fun i => i = wb) u2 fun x hx _ => by cases hx; rfl).keep (by omega) fun i hi f => by omega)
 rintro tag vs h1 ⟨rfl, rfl, k1, w1, W1, hT1, hR1⟩
 clear W hT hR
 have hn1 : n ≤ h1.size := by have := k1.size; omega
 refine s_tag (s_cast0 ?_)
 have pr : PairR S n h1 T R := by have := W1.pair i hi; rw [hT1, hR1] at this; exact this
 obtain ⟨at0', at1'⟩ := W1.at hi
 rw [hT1] at at0'
 rw [hR1] at at1'
 refine wp_grd rfl (wp_grd rfl (s_arr (b := .ptr) (some T.p) W1.ob.cells at0' hi (wp_grd rfl (wp_grd rfl (s_cell (b := .ptr) (penP w1.pen) rfl W1.ob.cells rfl ?_)))))
 have z6 := W1.r6 i hi T hT1; have z7 := W1.r7 i hi R hR1; have z10 := W1.r10
 refine wp_callW (c_written M pr.t W1.pen (fun x hx hz => by have h1 := z6 x hx; have h2 := z10 x hz; omega) hn1 (fun h' k => hok h' (Keep.trans k1 k)) hL hPL (by have := W1.A i hi T hT1; omega) pr.sm) fun tag vs h2 ⟨ht, r, T', s', hv, wr⟩ => ⟨ht, (r, true, ()), hv, ?_⟩
 have q2 := wr.chg.1
 have roleF : ∀ x, wfoot T x ∨ oZ w1.pen x → w1.ρ x = 6 + 2 * i ∨ w1.ρ x = 7 + 2 * i ∨ w1.ρ x = 10 := fun x hx => hx.elim (fun h => .inl (z6 x (wfoot_Z pr.t h))) fun h => .inr (.inr (z10 x h))
 have o2 : Own n 1 h2 ⟨some (at0 wb), 8, 8⟩ w1.cells := wr.chg.own W1.ob fun x hx f => by cases hx; have h1 := roleF _ f; have h2 : w1.ρ wb = 1 := W1.r1; rw [show (at0 wb).block = wb from rfl, h2] at h1; omega
 have r2 : RefT n h2 R := pr.r.chg wr.chg fun x hx f => by
  have h1 := z7 x hx
  rcases f with f | f
  ·have := z6 x (wfoot_Z pr.t f); omega
  ·have := z10 x f; omega
 have k12 : Keep n h1 h2 := wr.chg.keep hn1 fun x hx f => by
  have := W1.lo x (by rcases roleF x f with h | h | h <;> omega); omega
 refine wp_grd rfl (wp_grd rfl (s_arr (b := .ptr) (some (at0 R.b)) o2.cells at1' hi ?_))
 refine wp_callW (c_refChange r2 (by omega) (hok h2 (Keep.trans k1 k12)) pr.few hL hPU) fun tag vs h3 ⟨ht, q, R', hv, hq, r3, c3, rb, ren, rli, rK, rE, rz, rzn⟩ => ⟨ht, (q, ()), hv, ?_⟩
 have bts := pr.t.cur.bytes
 have hre := ref_refE pr.t.enc bts wr.ref
 rw [← pr.E, ← pr.enc, ← pr.limit] at hre
 have hrq : r = q := hre.fn hq
 subst hrq
 have CR : ChangeR S n T h1 h2 x.2 r T' := ⟨wr.ref, wr.t, wr.nx, wr.els, wr.len⟩
 have rz2 : ∀ x, R.Z x → x < h1.size := fun x hx => (pr.r.lo x hx).2
 have pr' : PairR S n h3 T' R' := by
  refine ⟨wr.t.chg c3 fun x hx f => ?_, r3, by rw [ren, pr.enc, wr.nx.enc], by rw [rli, pr.limit, wr.nx.limit], ?_, CR.small pr.t.enc bts pr.sm (blen_state pr.t.cur pr.t.enc), fun x hx hz => ?_⟩
  ·subst f
   have := rz2 _ pr.r.zb
   rcases wr.nx.zn _ hx with h | h
   ·exact pr.far _ h pr.r.zb
   ·omega
  ·rw [rE, wr.nx.enc, wr.els, pr.E]
  ·rcases rzn x hz with h | h
   ·have := rz2 x h
    rcases wr.nx.zn x hx with h' | h'
    ·exact pr.far x h' h
    ·omega
   ·have := (wr.t.lo x hx).2; omega
 have c13 : Chg (fun x => w1.ρ x = 6 + 2 * i ∨ w1.ρ x = 7 + 2 * i ∨ w1.ρ x = 10) h1 h3 := (wr.chg.mono fun x _ f => roleF x f).trans c3 fun x _ f => .inr (.inl (by subst f; exact z7 _ pr.r.zb))
 have pp : penP s' = penP w1.pen ∧ PenO n h3 (penP w1.pen) s' := by
  have h1 := wr.pen
  have h2 : PenO n h3 (penP w1.pen) s' := h1.chg c3 fun x hx f => by
   subst f
   have := rz2 _ pr.r.zb
   rcases wr.zone _ hx with h | h
   ·have h3 := z10 _ h; have h4 := z7 _ pr.r.zb; omega
   ·omega
  refine ⟨?_, h2⟩
  cases s' with
  | none => exact h1.symm
  | some s => exact h1.1.symm
 obtain ⟨ρ', _, W3⟩ := W1.step (am' := am + 4 * (putsOf x.2).length) (ks' := ks) hi hT1 hR1 c13 pr' wr.nx.p wr.nx.enc wr.nx.limit (fun s hs => by rw [wr.nx.kept]; exact hs) rb (fun q k hk => by rw [rK]; exact hk) pp.2 pp.1 wr.nx.zn (fun x hx => (rzn x hx).imp id fun h => by omega) wr.zone wr.far
  (fun x hx hz => by
   have h1 := wr.pen.in hz
   rcases rzn x hx with h | h
   ·have := rz2 x h
    rcases wr.zone x hz with h' | h'
    ·have h3 := z10 x h'; have h4 := z7 x h; omega
    ·omega
   ·omega) (by omega) (Nat.le_refl _) (by have := W1.A i hi T hT1; have := wr.len; omega) (by rw [rK]; exact W1.kfew i hi R hR1)
 dsimp only
 refine bind_bool True ?_ fun bb h4 e4 hb4 => s_ret ⟨rfl, ?_, ?_, _, W3.ext e4⟩
 ·refine s_ifT (s_ret ⟨rfl, Ext.refl _, _, rfl, ?_⟩)
  rw [eqI_self]; exact Iff.intro (fun _ => trivial) fun _ => rfl
 ·rw [hb4.2 trivial]
 ·have k13 : Keep n h1 h3 := c13.keep hn1 fun x hx f => by have := W1.lo x (by rcases f with h | h | h <;> omega); omega
  exact Keep.trans k1 (Keep.trans k13 (e4.keep (by have := k13.size; omega)))
end Go.Sw.Piece

set_option linter.unusedVariables false
set_option linter.unusedSimpArgs false
set_option maxRecDepth 100000
namespace Go.Sw.Piece
open Go.Sw.Any Go.Sw.Codec
open Go.Sw.Tree (iv s_putAll s_newP s_getP s_getT s_putP eqI_self Placed cell_own wp_whileG minI_eq)
variable {P : Program} {S : Ids} {h : Heap} {Q : Nat → List Value → Heap → Prop}
variable {n wb am ks : Nat} {w : WX}
theorem c_world_keep {i : Nat} {T : TX} {R : RX} (W : WorldR S n h wb w am ks) (hi : i < 2) (hT : w.t i = some T) (hR : w.r i = some R) (hn : n ≤ h.size) (hk : ks ≤ 1000000000) :
  wp P (F_world_keep S (some (at0 wb)) (i : Int)) h fun tag vs h' => tag = 0 ∧ vs = [.bool true] ∧ Keep n h h' ∧ ∃ w', WorldR S n h' wb w' am (ks + 1) := by
 unfold F_world_keep
 have pr : PairR S n h T R := by have := W.pair i hi; rw [hT, hR] at this; exact this
 obtain ⟨a0, a1⟩ := W.at hi
 rw [hT] at a0
 rw [hR] at a1
 have few := W.few
 have hwlt : ∀ {x m : Nat}, w.ρ x = m → m ≠ 0 → n ≤ x ∧ x < h.size := fun {x m} e hm => W.lo x (by rw [e]; exact hm)
 have wbl := hwlt W.r1 (by decide)
 refine wp_grd rfl (wp_grd rfl (s_arr (b := .ptr) (some T.p) W.ob.cells a0 hi (wp_call (c_Snap pr.t) fun ⟨(p : Option Addr), _⟩ h1 e1 ⟨sa, hp, sn1⟩ => ?_)))
 have hp : p = some sa := hp
 subst hp
 have q1 := e1.size
 refine wp_grd rfl (wp_grd rfl (s_cell (b := .sl) w.sS rfl (W.ob.ext e1).cells rfl (s_pushV (v := .pointer (some sa)) (W.lS.ext e1) (by omega) rfl (by rw [List.length_map]; omega) (by rw [List.length_map]; omega) fun sS h2 k2 oS2 uS bS => ?_)))
 have c12 : Chg (fun x => w.ρ x = 2) h1 h2 := Chg.of_upd uS fun x hx _ => W.r2 x hx
 have q2 := c12.1
 have ob2 : Own n 1 h2 ⟨some (at0 wb), 8, 8⟩ w.cells := c12.own (W.ob.ext e1) fun x hx f => by cases hx; have := W.r1; have f : w.ρ wb = 2 := f; omega
 refine wp_grd rfl (wp_grd rfl (s_setC' (slv sS) ob2 (by simp) rfl fun h3 ob3 u3 => ?_))
 have c23 : Chg (fun x => w.ρ x = 1) h2 h3 := Chg.of_upd u3 fun x hx _ => by cases hx; exact W.r1
 have q3 := c23.1
 have bS' : ∀ b, sS.base = some b → (w.ρ b.block = 2 ∧ b.block < h.size) ∨ (h1.size ≤ b.block ∧ b.block < h2.size) := fun b hb => by
  rcases bS b hb with h | h
  ·exact .inl ⟨W.r2 b h, (hwlt (W.r2 b h) (by decide)).2⟩
  ·exact .inr ⟨h, (oS2.lt hb).2⟩
 have lO3 : OwnL n .i64 h3 w.sO (w.sn.map fun k => (k.i : Int)) := c23.ownL (c12.ownL (W.lO.ext e1) fun x hx f => by have := W.r3 x hx; omega) fun x hx f => by have := W.r3 x hx; omega
 refine wp_grd rfl (wp_grd rfl (s_cell (b := .sl) w.sO rfl ob3.cells rfl (Go.Sw.s_push lO3 (by omega) (fits_i64.2 (by omega)) (by rw [List.length_map]; omega) (by rw [List.length_map]; omega) fun sO h4 k4 oO4 uO bO => ?_)))
 have c34 : Chg (fun x => w.ρ x = 3) h3 h4 := Chg.of_upd uO fun x hx _ => W.r3 x hx
 have q4 := c34.1
 have ob4 := c34.own ob3 fun x hx f => by cases hx; have := W.r1; have f : w.ρ wb = 3 := f; omega
 refine wp_grd rfl (wp_grd rfl (s_setC' (slv sO) ob4 (by simp) rfl fun h5 ob5 u5 => ?_))
 have c45 : Chg (fun x => w.ρ x = 1) h4 h5 := Chg.of_upd u5 fun x hx _ => by cases hx; exact W.r1
 have q5 := c45.1
 have bO' : ∀ b, sO.base = some b → (w.ρ b.block = 3 ∧ b.block < h.size) ∨ (h3.size ≤ b.block ∧ b.block < h4.size) := fun b hb => by
  rcases bO b hb with h | h
  ·exact .inl ⟨W.r3 b h, (hwlt (W.r3 b h) (by decide)).2⟩
  ·exact .inr ⟨h, (oO4.own.lt hb).2⟩
 let G : Nat → Prop := fun x => w.ρ x = 1 ∨ w.ρ x = 2 ∨ w.ρ x = 3 ∨ w.ρ x = 4 ∨ w.ρ x = 7 + 2 * i
 have c05 : Chg (fun x => w.ρ x = 1 ∨ w.ρ x = 2 ∨ w.ρ x = 3) h h5 := (((((Chg.of_ext e1).trans c12 fun _ _ f => .inr (.inl f)).trans c23 fun _ _ f => .inl f).trans c34 fun _ _ f => .inr (.inr f)).trans c45 fun _ _ f => .inl f)
 have r5 : RefT n h5 R := pr.r.chg c05 fun x hx f => by have := W.r7 i hi R hR x hx; omega
 have lN5 : OwnL n .i64 h5 w.sN (w.sn.map fun k => (k.num : Int)) := c05.ownL W.lN fun x hx f => by have := W.r4 x hx; omega
 refine wp_grd rfl (wp_grd rfl (s_cell (b := .sl) w.sN rfl ob5.cells rfl (wp_grd rfl (wp_grd rfl (s_arr (b := .ptr) (some (at0 R.b)) ob5.cells (i := i) (by match i, hi with | 0, _ => exact a1 | 1, _ => exact a1) hi ?_)))))
 refine wp_callW (c_refSnap r5 (by omega) (by have := W.kfew i hi R hR; omega)) fun tag vs h6 ⟨ht, hv, c56, R', sd⟩ => ⟨ht, ((R.K.length : Int), ()), hv, ?_⟩
 have q6 := c56.1
 have zR : ∀ x, R.Z x → w.ρ x = 7 + 2 * i := fun x hx => W.r7 i hi R hR x hx
 have c56' : Chg (fun x => w.ρ x = 7 + 2 * i) h5 h6 := c56.mono fun x _ f => zR x f
 have ob6 := c56'.own ob5 fun x hx f => by cases hx; have := W.r1; have f : w.ρ wb = 7 + 2 * i := f; omega
 have lN6 := c56'.ownL lN5 fun x hx f => by have := W.r4 x hx; omega
 have hKl := W.kfew i hi R hR
 dsimp only
 refine s_ckC (cells_iff.1 ob6.cells 6 _ rfl) (s_allocL (k := .i64) [((R.K.length : Nat) : Int)] (by intro z hz; rw [List.mem_singleton.1 hz]; exact fits_i64.2 (by omega)) (by simp) fun h7 e7 o7 => ?_)
 have q7 := e7.size
 refine s_ckC (cells_iff.1 (ob6.ext e7).cells 6 _ rfl) (s_append (lN6.ext e7) (by omega) o7.lst (by rw [List.length_map, List.length_singleton]; omega) (by rw [List.length_map, List.length_singleton]; omega) fun sN h8 k8 oN8 uN bN => ?_)
 have c78 : Chg (fun x => w.ρ x = 4) h7 h8 := Chg.of_upd uN fun x hx _ => W.r4 x hx
 have q8 := c78.1
 have ob8 := c78.own (ob6.ext e7) fun x hx f => by cases hx; have := W.r1; have f : w.ρ wb = 4 := f; omega
 refine wp_grd rfl (wp_grd rfl (s_setC' (slv sN) ob8 (by simp) rfl fun h9 ob9 u9 => ?_))
 have c89 : Chg (fun x => w.ρ x = 1) h8 h9 := Chg.of_upd u9 fun x hx _ => by cases hx; exact W.r1
 have q9 := c89.1
 have bN' : ∀ b, sN.base = some b → (w.ρ b.block = 4 ∧ b.block < h.size) ∨ (h7.size ≤ b.block ∧ b.block < h8.size) := fun b hb => by
  rcases bN b hb with h | h
  ·exact .inl ⟨W.r4 b h, (hwlt (W.r4 b h) (by decide)).2⟩
  ·exact .inr ⟨h, (oN8.own.lt hb).2⟩
 have c6 : ∀ {F : Nat → Prop}, Chg F h6 h7 := Chg.of_ext e7
 have c69 : Chg (fun x => w.ρ x = 1 ∨ w.ρ x = 4) h6 h9 := (c6.trans c78 fun _ _ f => .inr f).trans c89 fun _ _ f => .inl f
 have c59 : Chg (fun x => w.ρ x = 1 ∨ w.ρ x = 4 ∨ w.ρ x = 7 + 2 * i) h5 h9 := (c56'.mono fun _ _ f => .inr (.inr f)).trans c69 fun _ _ f => f.imp id .inl
 have c49 : Chg (fun x => w.ρ x = 1 ∨ w.ρ x = 4 ∨ w.ρ x = 7 + 2 * i) h4 h9 := (c45.mono fun _ _ f => .inl f).trans c59 fun _ _ f => f
 have c29 : Chg (fun x => w.ρ x = 1 ∨ w.ρ x = 3 ∨ w.ρ x = 4 ∨ w.ρ x = 7 + 2 * i) h2 h9 := ((c23.mono fun _ _ f => .inl f).trans c34 fun _ _ f => .inr (.inl f)).trans c49 fun _ _ f => f.imp id fun f => .inr f
 have c09 : Chg G h h9 := (c05.mono fun _ _ f => by dsimp only [G] at f ⊢; omega).trans c59 fun _ _ f => by dsimp only [G] at f ⊢; omega
 have rl : ∀ {x m : Nat}, w.ρ x = m → m = 5 ∨ 6 ≤ m → m ≠ 7 + 2 * i → ¬ G x := fun {x m} e h1 h2 f => by rcases f with f | f | f | f | f <;> omega
 have mN : (w.sn.map fun k => (k.num : Int)) ++ [((R.K.length : Nat) : Int)] = (w.sn ++ [(⟨sa, i, T.cur, R.K.length⟩ : SnK)]).map fun k => (k.num : Int) := by rw [List.map_append]; rfl
 have mO : (w.sn.map fun k => (k.i : Int)) ++ [((i : Nat) : Int)] = (w.sn ++ [(⟨sa, i, T.cur, R.K.length⟩ : SnK)]).map fun k => (k.i : Int) := by rw [List.map_append]; rfl
 have mS : (w.sn.map fun k => (Value.pointer (some k.a))) ++ [.pointer (some sa)] = (w.sn ++ [(⟨sa, i, T.cur, R.K.length⟩ : SnK)]).map fun k => Value.pointer (some k.a) := by rw [List.map_append]; rfl
 rw [mN] at oN8
 rw [mO] at oO4
 rw [mS] at oS2
 have lsa := sn1.lt rfl
 let T' : TX := { T with kept := T.cur :: T.kept }
 have t9 : TextR S n h9 T' := (pr.t.chg c09 fun x hx => rl (W.r6 i hi T hT x hx) (.inr (by omega)) (by omega)).keep
 let ρ' : Nat → Nat := fun x => if x < h.size then w.ρ x else if x < h1.size then 5 else if x < h2.size then 2 else if x < h4.size then 3 else if x < h6.size then 7 + 2 * i else if x < h9.size then 4 else 0
 have old : ∀ {x m : Nat}, w.ρ x = m → m ≠ 0 → ρ' x = m := fun {x m} e hm => by show (if _ then _ else _) = _; rw [if_pos (hwlt e hm).2, e]
 let w' : WX := ⟨updO i T' w.t, updO i R' w.r, w.sn ++ [⟨sa, i, T.cur, R.K.length⟩], sS, sO, sN, w.pen, ρ'⟩
 have hcells : w'.cells = ((w.cells.set 4 (slv sS)).set 5 (slv sO)).set 6 (slv sN) := by
  have h0 : ∀ j, tP (updO i T' w.t j) = tP (w.t j) := fun j => by
   by_cases h : j = i
   ·subst h; rw [updO_at, hT]; rfl
   ·rw [updO_ne _ _ h]
  have h1 : ∀ j, rP (updO i R' w.r j) = rP (w.r j) := fun j => by
   by_cases h : j = i
   ·subst h; rw [updO_at, hR]; show some (at0 R'.b) = some (at0 R.b); rw [sd.b]
   ·rw [updO_ne _ _ h]
  show [Value.pointer (tP (updO i T' w.t 0)), .pointer (tP (updO i T' w.t 1)), .pointer (rP (updO i R' w.r 0)), .pointer (rP (updO i R' w.r 1)), slv sS, slv sO, slv sN, .pointer (penP w.pen)] = _
  rw [h0, h0, h1, h1]; rfl
 have kF : Keep n h h9 := c09.keep hn fun x hx f => by have := W.lo x (by rcases f with f | f | f | f | f <;> omega); omega
 refine s_ret ⟨rfl, rfl, kF, w', { ob := by rw [hcells]; exact ob9, pair := fun j hj => ?_, pen := W.pen.chg c09 fun x hx => rl (W.r10 x hx) (.inr (by omega)) (by omega), lS := ?_, lO := ?_, lN := ?_, snap := fun k hk => ?_, few := ?_, kfew := fun j hj R1 e => ?_, A := fun j hj T1 e => ?_, r1 := old W.r1 (by decide), r2 := fun b hb => ?_, r3 := fun b hb => ?_, r4 := fun b hb => ?_, r5 := fun k hk => ?_, r6 := fun j hj T1 e x z => ?_, r7 := fun j hj R1 e x z => ?_, r10 := fun x hx => old (W.r10 x hx) (by decide), lo := fun x hx => ?_ }⟩
 ·show PairO S n h9 (updO i T' w.t j) (updO i R' w.r j)
  by_cases h : j = i
  ·subst h; rw [updO_at, updO_at]
   have r9 : RefT n h9 R' := sd.r.chg c69 fun x hx f => by
    rcases sd.zn x hx with h | h
    ·have := zR x h; omega
    ·have := (W.lo x (by rcases f with f | f <;> omega)).2; omega
   exact ⟨t9, r9, by rw [sd.enc]; exact pr.enc, by rw [sd.limit]; exact pr.limit, by rw [sd.E]; exact pr.E, pr.sm, fun x hx hz => by
    have h1 := (pr.t.lo x hx).2
    rcases sd.zn x hz with h | h
    ·exact pr.far x hx h
    ·omega⟩
  ·rw [updO_ne _ _ h, updO_ne _ _ h]
   refine (W.pair j hj).chg c09 fun x hx => ?_
   rcases hx with ⟨T, e, z⟩ | ⟨R, e, z⟩
   ·exact rl (W.r6 j hj T e x z) (.inr (by omega)) (by omega)
   ·exact rl (W.r7 j hj R e x z) (.inr (by omega)) (by omega)
 ·refine c29.own oS2 fun x hx f => ?_
  rcases bS' x hx with h | h
  ·omega
  ·have := (W.lo x.block (by rcases f with f | f | f | f <;> omega)).2; omega
 ·refine c49.ownL oO4 fun x hx f => ?_
  rcases bO' x hx with h | h
  ·omega
  ·have := (W.lo x.block (by rcases f with f | f | f <;> omega)).2; omega
 ·refine c89.ownL oN8 fun x hx f => ?_
  rcases bN' x hx with h | h
  ·omega
  ·have := (W.lo x.block (by omega)).2; omega
 ·rcases List.mem_append.1 hk with hk | hk
  ·obtain ⟨lt, T1, R1, g1, g2, g3, g4, g5, q, g6, g7⟩ := W.snap k hk
   have g3' : SnapR n h9 k.a T1.p k.s := c09.own g3 fun x hx f => by cases hx; exact rl (W.r5 k hk) (.inl rfl) (by omega) f
   by_cases h : k.i = i
   ·rw [h, hT] at g1; cases g1
    rw [h, hR] at g2; cases g2
    refine ⟨lt, T', R', ?_, ?_, g3', List.mem_cons_of_mem _ g4, g5, q, ?_, g7⟩
    ·show updO i T' w.t k.i = _; rw [h, updO_at]
    ·show updO i R' w.r k.i = _; rw [h, updO_at]
    ·rw [sd.K, List.getElem?_append_left (List.getElem?_eq_some_iff.1 g6).1]; exact g6
   ·exact ⟨lt, T1, R1, by show updO i T' w.t k.i = _; rw [updO_ne _ _ h]; exact g1, by show updO i R' w.r k.i = _; rw [updO_ne _ _ h]; exact g2, g3', g4, g5, q, g6, g7⟩
  ·rw [List.mem_singleton.1 hk]
   refine ⟨hi, T', R', updO_at _ _ _, updO_at _ _ _, ?_, List.mem_cons_self .., pr.sm, (R.sa, R.st, R.E), ?_, pr.E⟩
   ·have c19 : Chg G h1 h9 := (c12.mono fun _ _ f => .inr (.inl f)).trans c29 fun _ _ f => by dsimp only [G] at f ⊢; omega
    exact (c19.own sn1 fun x hx f => by cases hx; have := (W.lo sa.block (by rcases f with f | f | f | f | f <;> omega)).2; omega).mono hn
   ·rw [sd.K, List.getElem?_append_right (Nat.le_refl _), Nat.sub_self]; rfl
 ·show (w.sn ++ [_]).length ≤ _
  rw [List.length_append, List.length_singleton]; omega
 ·have e : updO i R' w.r j = some R1 := e
  by_cases h : j = i
  ·subst h; rw [updO_at] at e; cases e; rw [sd.K, List.length_append, List.length_singleton]; omega
  ·rw [updO_ne _ _ h] at e; have := W.kfew j hj R1 e; omega
 ·have e : updO i T' w.t j = some T1 := e
  by_cases h : j = i
  ·subst h; rw [updO_at] at e; cases e; exact W.A j hj T hT
  ·rw [updO_ne _ _ h] at e; exact W.A j hj T1 e
 ·rcases bS' b hb with h | h
  ·exact old h.1 (by decide)
  ·show (if _ then _ else _) = _
   rw [if_neg (by omega), if_neg (by omega), if_pos (by omega)]
 ·rcases bO' b hb with h | h
  ·exact old h.1 (by decide)
  ·show (if _ then _ else _) = _
   rw [if_neg (by omega), if_neg (by omega), if_neg (by omega), if_pos (by omega)]
 ·rcases bN' b hb with h | h
  ·exact old h.1 (by decide)
  ·show (if _ then _ else _) = _
   rw [if_neg (by omega), if_neg (by omega), if_neg (by omega), if_neg (by omega), if_neg (by omega), if_pos (by omega)]
 ·rcases List.mem_append.1 hk with hk | hk
  ·exact old (W.r5 k hk) (by decide)
  ·rw [List.mem_singleton.1 hk]
   show (if sa.block < h.size then w.ρ sa.block else if sa.block < h1.size then 5 else _) = 5
   rw [if_neg (by omega), if_pos (by omega)]
 ·have e : updO i T' w.t j = some T1 := e
  by_cases h : j = i
  ·subst h; rw [updO_at] at e; cases e; exact old (W.r6 j hj T hT x z) (by omega)
  ·rw [updO_ne _ _ h] at e; exact old (W.r6 j hj T1 e x z) (by omega)
 ·have e : updO i R' w.r j = some R1 := e
  by_cases h : j = i
  ·subst h; rw [updO_at] at e; cases e
   rcases sd.zn x z with h | h
   ·exact old (zR x h) (by omega)
   ·have := (sd.r.lo x z).2
    show (if _ then _ else _) = _
    rw [if_neg (by omega), if_neg (by omega), if_neg (by omega), if_neg (by omega), if_pos (by omega)]
  ·rw [updO_ne _ _ h] at e; exact old (W.r7 j hj R1 e x z) (by omega)
 ·have hx : (if x < h.size then w.ρ x else if x < h1.size then 5 else if x < h2.size then 2 else if x < h4.size then 3 else if x < h6.size then 7 + 2 * i else if x < h9.size then 4 else 0) ≠ 0 := hx
  by_cases g : x < h.size
  ·rw [if_pos g] at hx; have := W.lo x hx; omega
  ·by_cases g' : x < h9.size
   ·omega
   ·rw [if_neg (by omega), if_neg (by omega), if_neg (by omega), if_neg (by omega), if_neg (by omega), if_neg g'] at hx; exact absurd rfl hx
theorem c_world_back {i : Nat} {k : Int} {T : TX} {R : RX} (W : WorldR S n h wb w am ks) (hi : i < 2) (hT : w.t i = some T) (hR : w.r i = some R) (hn : n ≤ h.size) (hk : fitsI .i64 k) :
  wp P (F_world_back S (some (at0 wb)) (i : Int) k) h fun tag vs h' => tag = 0 ∧ vs = [.bool true] ∧ Keep n h h' ∧ ∃ w', WorldR S n h' wb w' am ks := by
 unfold F_world_back
 have pr : PairR S n h T R := by have := W.pair i hi; rw [hT, hR] at this; exact this
 obtain ⟨a0, a1⟩ := W.at hi
 rw [hT] at a0
 rw [hR] at a1
 have lS := W.lS.1
 rw [List.length_map, Nat.mul_one] at lS
 refine bind_val (tys := [.one .ptr, .one (.int .i64)]) (fun (x : Option Addr × Int × Unit) _ => (x.1 = none ∧ x.2.1 = -1) ∨ ∃ e, e ∈ w.sn ∧ x.1 = some e.a ∧ ((e.i = i ∧ x.2.1 = (e.num : Int)) ∨ (e.i ≠ i ∧ x.2.1 = -1))) ?_ fun ⟨(p : Option Addr), (m : Int), _⟩ h1 e1 hx => ?_
 ·refine bind_bool (0 ≤ k ∧ k < w.sn.length) ?_ fun bb h1 e1 hb1 => wp_ifB (fun hx => ?_) fun hx => s_ret ⟨rfl, e1, (none, -1, ()), rfl, .inl ⟨rfl, rfl⟩⟩
  ·refine wp_ifB (fun hc => wp_grd rfl (wp_grd rfl (s_cell (b := .sl) w.sS rfl W.ob.cells rfl (s_ret ⟨rfl, Ext.refl _, _, rfl, ?_⟩)))) fun hc => s_ret ⟨rfl, Ext.refl _, false, rfl, Iff.intro (fun h => by cases h) fun h => ?_⟩
   ·rw [geI_iff] at hc
    rw [ltI_iff, natI_def, lS]
    exact ⟨fun h => ⟨hc, h⟩, fun h => h.2⟩
   ·rw [geI_not] at hc; omega
  ·obtain ⟨h0, hlt⟩ := hb1.1 hx
   obtain ⟨kn, rfl⟩ : ∃ kn : Nat, k = kn := ⟨k.toNat, by omega⟩
   obtain ⟨e, he⟩ : ∃ e, w.sn[kn]? = some e := ⟨w.sn[kn]'(by omega), List.getElem?_eq_getElem (by omega)⟩
   have hem := List.mem_of_getElem? he
   have W1 := W.ext e1
   refine wp_grd rfl (wp_grd rfl (s_cell (b := .sl) w.sS rfl W1.ob.cells rfl (s_ldV (b := .ptr) (x := some e.a) W1.lS (by rw [List.getElem?_map, he]; rfl) (wp_grd rfl (wp_grd rfl (s_cell (b := .sl) w.sO rfl W1.ob.cells rfl (s_ldV (b := .int .i64) (x := (e.i : Int)) W1.lO.own (by rw [List.getElem?_map, List.getElem?_map, he]; rfl) (wp_ifB (fun hd => ?_) fun hd => s_ret ⟨rfl, e1, (some e.a, -1, ()), rfl, .inr ⟨e, hem, rfl, .inr ⟨?_, rfl⟩⟩⟩))))))))
   ·rw [eqI_iff] at hd
    refine wp_grd rfl (wp_grd rfl (s_cell (b := .sl) w.sN rfl W1.ob.cells rfl (s_ldV (b := .int .i64) (x := (e.num : Int)) W1.lN.own (by rw [List.getElem?_map, List.getElem?_map, he]; rfl) (s_ret ⟨rfl, e1, (some e.a, (e.num : Int), ()), rfl, .inr ⟨e, hem, rfl, .inl ⟨by omega, rfl⟩⟩⟩))))
   ·rw [eqI_not] at hd; omega
 have hx : (p = none ∧ m = -1) ∨ ∃ e, e ∈ w.sn ∧ p = some e.a ∧ ((e.i = i ∧ m = (e.num : Int)) ∨ (e.i ≠ i ∧ m = -1)) := hx
 have W1 := W.ext e1
 have pr1 : PairR S n h1 T R := by have := W1.pair i hi; rw [hT, hR] at this; exact this
 have hn1 : n ≤ h1.size := by have := e1.size; omega
 have no : ∀ {h2 : Heap} {z : Int}, Ext h1 h2 → z = 51 → m = -1 → wp P (.load (.one .ptr) (shiftTo (shiftTo (some (at0 wb)) 2) (mulN (toN (i : Int)) 1)) fun (p53 : Option Addr) => .call (F_ref_Text_Back S p53 m) [.one (.int .i64)] fun (r : Int × Unit) => .ret 0 [.bool (eqI z r.1)]) h2
   (fun tag vs h' => tag = 0 ∧ vs = [.bool true] ∧ Keep n h h' ∧ ∃ w', WorldR S n h' wb w' am ks) := fun {h2 z} e2 hz hm => by
  subst hz; subst hm
  have hc : Sw.cell h2 (((at0 wb).add 2).add (mulN (toN (i : Int)) 1)) = some (.pointer (some (at0 R.b))) := by
   rw [add_add]; exact cells_iff.1 (W1.ob.ext e2).cells _ _ (by have a1' : w.cells[2 + i]? = some (.pointer (some (at0 R.b))) := a1; simpa [mulN, toN] using a1')
  refine wp_load1 (b := .ptr) _ (some (at0 R.b)) rfl hc (wp_call (c_refBackNo (pr1.r.ext e2) (by decide)) fun ⟨(z : Int), _⟩ h3 e3 hz => s_ret ⟨rfl, ?_, (e1.trans (e2.trans e3)).keep hn, w, W1.ext (e2.trans e3)⟩)
  have hz : z = 51 := hz
  subst hz; rfl
 dsimp only
 refine wp_grd rfl (wp_grd rfl (s_arr (b := .ptr) (some T.p) W1.ob.cells a0 hi ?_))
 rcases hx with ⟨rfl, hm⟩ | ⟨e, hem, rfl, ⟨hei, hm⟩ | ⟨hei, hm⟩⟩
 ·refine wp_call c_BackNil fun ⟨(z : Int), _⟩ h2 e2 hz => wp_grd rfl (wp_grd rfl (wp_grd ?_ (no e2 hz hm)))
  exact andB_iff.2 ⟨rfl, inB_is.2 ⟨by omega, by omega⟩⟩
 ·obtain ⟨lt, T1, R1, g1, g2, g3, g4, g5, q, g6, g7⟩ := W1.snap e hem
  rw [hei, hT] at g1; cases g1
  rw [hei, hR] at g2; cases g2
  subst hm
  refine wp_callW (c_Back pr1.t hn1 g4 g3) fun tag vs h2 ⟨ht, hv, c2, T', t2, nx, tc, tA⟩ => ⟨ht, (0, ()), hv, ?_⟩
  have z6 := W.r6 i hi T hT; have z7 := W.r7 i hi R hR
  have c2' : Chg (fun x => w.ρ x = 6 + 2 * i) h1 h2 := c2.mono fun x _ f => z6 x (wfoot_Z pr1.t f)
  have q2 := c2.1
  have ob2 := c2'.own W1.ob fun x hx f => by cases hx; have := W.r1; have f : w.ρ wb = 6 + 2 * i := f; omega
  have r2 : RefT n h2 R := pr1.r.chg c2' fun x hx f => by have := z7 x hx; omega
  refine wp_grd rfl (wp_grd rfl (s_arr (b := .ptr) (some (at0 R.b)) ob2.cells a1 hi ?_))
  have fk := (els_facts (pr1.t.kept _ g4) pr1.t.enc).2
  refine wp_callW (c_refBack r2 g6 (by rw [g7, pr.enc]; exact fk)) fun tag vs h3 ⟨ht, hv, c3, r3⟩ => ⟨ht, (0, ()), hv, ?_⟩
  have pr' : PairR S n h3 T' { R with sa := q.1, st := q.2.1, E := q.2.2 } := by
   refine ⟨t2.chg c3 fun x hx f => ?_, r3, by rw [nx.enc]; exact pr.enc, by rw [nx.limit]; exact pr.limit, by rw [nx.enc, tc]; exact g7, by rw [tc, nx.limit]; exact g5, fun x hx hz => ?_⟩
   ·subst f
    have := (pr1.r.lo _ pr.r.zb).2
    rcases nx.zn _ hx with h | h
    ·exact pr.far _ h pr.r.zb
    ·omega
   ·have := (pr1.r.lo x hz).2
    rcases nx.zn _ hx with h | h
    ·exact pr.far _ h hz
    ·omega
  have c13a : Chg (fun x => w.ρ x = 6 + 2 * i ∨ w.ρ x = 7 + 2 * i) h1 h3 := (c2'.mono fun x _ f => .inl f).trans c3 fun x _ f => .inr (by subst f; exact z7 _ pr.r.zb)
  have c13 : Chg (fun x => w.ρ x = 6 + 2 * i ∨ w.ρ x = 7 + 2 * i ∨ w.ρ x = 10) h1 h3 := c13a.mono fun x _ f => f.imp id .inl
  obtain ⟨ρ', _, W3⟩ := W1.step (am' := am) (ks' := ks) hi hT hR c13 pr' nx.p nx.enc nx.limit (fun s hs => by rw [nx.kept]; exact hs) rfl (fun q k hk => hk) (W1.pen.chg c13a fun x hx f => by have := W.r10 x hx; omega) rfl nx.zn (fun x hx => .inl hx) (fun x hx => .inl hx)
   (fun x hx hz => by
    have h1 := W1.pen.in hz
    rcases nx.zn x hx with h | h
    ·have := z6 x h; have := W.r10 x hz; omega
    ·omega)
   (fun x hx hz => by have := z7 x hx; have := W.r10 x hz; omega) (Nat.le_refl _) (Nat.le_refl _) (by rw [tA]; exact W.A i hi T hT) (W.kfew i hi R hR)
  have k13 : Keep n h1 h3 := c13.keep hn1 fun x hx f => by have := W.lo x (by rcases f with h | h | h <;> omega); omega
  exact s_ret ⟨rfl, rfl, Keep.trans (e1.keep hn) k13, _, W3⟩
 ·obtain ⟨lt, T1, R1, g1, g2, g3, g4, g5, q, g6, g7⟩ := W1.snap e hem
  have pr2 : PairR S n h1 T1 R1 := by have := W1.pair e.i lt; rw [g1, g2] at this; exact this
  have hne : T1.p.block ≠ T.p.block := fun hh => by
   have h1 := W.r6 i hi T hT _ pr1.t.zp
   have h2 := W.r6 e.i lt T1 g1 _ pr2.t.zp
   rw [hh] at h2; omega
  refine wp_call (c_BackOther pr1.t g3 pr2.t.ob hne) fun ⟨(z : Int), _⟩ h2 e2 hz => wp_grd rfl (wp_grd rfl (wp_grd ?_ (no e2 hz hm)))
  exact andB_iff.2 ⟨rfl, inB_is.2 ⟨by omega, by omega⟩⟩
end Go.Sw.Piece

set_option linter.unusedVariables false
set_option linter.unusedSimpArgs false
set_option maxRecDepth 100000
namespace Go.Sw.Piece
open Go.Sw.Any Go.Sw.Codec
open Go.Sw.Tree (iv s_putAll s_newP s_getP s_getT s_putP eqI_self Placed cell_own wp_whileG minI_eq)
variable {P : Program} {S : Ids} {h : Heap} {Q : Nat → List Value → Heap → Prop}
variable {n wb am ks : Nat} {w : WX}
abbrev StepSh : Sh := .str (.pair (.int .i64) (.pair (.int .i64) (.pair (.int .i64) (.pair (.int .i64) (.pair (.list EdSh) .unit)))))
abbrev StepD := Int × Int × Int × Int × Eds × Unit
theorem s_ckArr {a : Addr} {vs : List Value} {off i : Nat} {v : Value} {K : Prog} (hc : Cells h a vs) (hv : vs[off + i]? = some v) (hk : wp P K h Q) : wp P (.check (shiftTo (shiftTo (some a) off) (mulN (toN (i : Int)) 1)) [v] K) h Q := by
 rw [shiftTo_some, shiftTo_some, mulN_def, toN_def, Int.toNat_natCast, Nat.mul_one, add_add]
 refine ⟨⟨_, rfl, cells_iff.2 fun j u hj => ?_⟩, hk⟩
 cases j with
 | zero => simp at hj; subst hj; rw [add_zero']; exact cells_iff.1 hc _ _ hv
 | succ j => simp at hj
theorem c_world_step (M : Meth0 P S) (C : Cl P S) (Wc : ClW P S) {x : StepD} (W : WorldR S n h wb w am ks) (hn : n ≤ h.size) (hx : fitsI .i64 x.2.2.1 ∧ fitsI .i64 x.2.2.2.1) (hok : ∀ h', Keep n h h' → (Sh.list EdSh).ok h' x.2.2.2.2.1)
  (hw : (Sh.list EdSh).wt x.2.2.2.2.1 ≤ 1048576) (hA : am + 4 * (putsOf x.2.2.2.2.1.2).length ≤ 400000000000) (hks : ks ≤ 1000000000) :
  wp P (F_world_step S (some (at0 wb)) (x.1, x.2.1, x.2.2.1, x.2.2.2.1, x.2.2.2.2.1.1, ())) h fun tag vs h' => tag = 0 ∧ vs = [.bool true] ∧ Keep n h h' ∧ ∃ w', WorldR S n h' wb w' (am + 4 * (putsOf x.2.2.2.2.1.2).length) (ks + 1) := by
 obtain ⟨kd, who, ia, ib, ed, _⟩ := x
 dsimp only at hx hok hw hA ⊢
 obtain ⟨fa, fb⟩ := hx
 obtain ⟨we1, we2, we3⟩ := eds_wt ed
 unfold F_world_step
 refine s_newO (bs := [.int .i64, .int .i64, .int .i64, .int .i64, .sl]) (kd, who, ia, ib, ed.1, ()) (by decide) fun h1 e1 o1 => ?_
 have o1 : Own h.size 1 h1 ⟨some (at0 h.size), 5, 5⟩ [i64v kd, i64v who, i64v ia, i64v ib, slv ed.1] := o1
 have W1 := W.ext e1
 have hn1 : n ≤ h1.size := by have := e1.size; omega
 have k01 : Keep n h h1 := e1.keep hn
 refine s_cell (b := .int .i64) who rfl o1.cells rfl ?_
 obtain ⟨i, hi, hwho⟩ : ∃ i : Nat, i < 2 ∧ andI .i64 who 1 = (i : Int) := ⟨(who % 2).toNat, by omega, by rw [and1_64]; omega⟩
 rw [hwho]
 have fin : ∀ {h' : Heap}, Ext h1 h' → Keep n h h' ∧ ∃ w', WorldR S n h' wb w' (am + 4 * (putsOf ed.2).length) (ks + 1) := fun e => ⟨Keep.trans k01 (e.keep hn1), w, (W1.ext e).more (by omega) (by omega)⟩
 obtain ⟨a0, a1⟩ := W1.at hi
 have pO := W1.pair i hi
 refine bind_bool (w.t i = none) ?_ fun bb h2 e2 hb2 => wp_ifB (fun hc => s_ret ⟨rfl, rfl, fin e2⟩) fun hc => ?_
 ·refine wp_grd rfl (wp_grd rfl (s_arr (b := .ptr) (tP (w.t i)) W1.ob.cells a0 hi ?_))
  cases ht : w.t i with
  | none => exact s_ifT (s_ret ⟨rfl, Ext.refl _, true, rfl, Iff.intro (fun _ => rfl) fun _ => rfl⟩)
  | some T =>
   cases hr : w.r i with
   | none => rw [ht, hr] at pO; exact pO.elim
   | some R =>
    rw [hr] at a1
    refine s_ifF (wp_grd rfl (wp_grd rfl (s_arr (b := .ptr) (some (at0 R.b)) W1.ob.cells a1 hi (s_ret ⟨rfl, Ext.refl _, false, rfl, Iff.intro (fun h => by cases h) fun h => by cases h⟩))))
 have hc : bb = false := hc
 obtain ⟨T, hT⟩ : ∃ T, w.t i = some T := by
  cases ht : w.t i with
  | none => rw [hb2.2 ht] at hc; cases hc
  | some T => exact ⟨T, rfl⟩
 obtain ⟨R, hR⟩ : ∃ R, w.r i = some R := by
  cases hr : w.r i with
  | none => rw [hT, hr] at pO; exact pO.elim
  | some R => exact ⟨R, rfl⟩
 rw [hT] at a0
 rw [hR] at a1
 have a0 : w.cells[0 + i]? = some (.pointer (some T.p)) := a0
 have a1 : w.cells[2 + i]? = some (.pointer (some (at0 R.b))) := a1
 have W2 := W1.ext e2
 have pr : PairR S n h2 T R := by have := W2.pair i hi; rw [hT, hR] at this; exact this
 have few := pr.few
 have o2 := o1.ext e2
 have q2 := e2.size
 have hn2 : n ≤ h2.size := by omega
 have k02 : Keep n h h2 := Keep.trans k01 (e2.keep hn1)
 have c0 : Sw.cell h2 ((at0 h.size).add 2) = some (i64v ia) := cells_iff.1 o2.cells 2 _ rfl
 refine s_cell (b := .int .i64) kd rfl o2.cells rfl ?_
 have ext2 : ∀ {h' : Heap}, Ext h2 h' → Keep n h h' ∧ ∃ w', WorldR S n h' wb w' (am + 4 * (putsOf ed.2).length) (ks + 1) := fun e => fin (e2.trans e)
 refine wp_ifB (fun _ => ?_) fun _ => ?_
 ·refine s_cell (b := .sl) ed.1 rfl o2.cells rfl (wp_callW (c_world_change M W2 hi hT hR hn2 (fun h' k => hok h' (Keep.trans k02 k)) (by omega) (fun e he => by have := we3 e he; omega) (by omega) hA) fun tag vs h3 ⟨ht, hv, k3, w', W3⟩ => ⟨ht, (true, ()), hv, s_ret ⟨rfl, rfl, Keep.trans k02 k3, w', W3.more (Nat.le_refl _) (by omega)⟩⟩)
 refine wp_ifB (fun _ => ?_) fun _ => ?_
 ·refine wp_call (c_look M C pr W2.ob hi a0 a1) fun ⟨(bb : Bool), _⟩ h3 e3 hb3 => ?_
  have hb3 : bb = true := hb3
  subst hb3
  exact s_ret ⟨rfl, rfl, ext2 e3⟩
 refine wp_ifB (fun _ => ?_) fun _ => ?_
 ·refine wp_grd rfl (wp_grd rfl (s_arr (b := .ptr) (some T.p) W2.ob.cells a0 hi (s_cell (b := .int .i64) ia rfl o2.cells rfl (s_cell (b := .int .i64) ib rfl o2.cells rfl (wp_grd rfl (wp_grd rfl (s_arr (b := .ptr) (some (at0 R.b)) W2.ob.cells a1 hi (wp_grd rfl (wp_grd rfl (s_cell (b := .sl) R.sa rfl pr.r.ob.cells rfl (s_cell (b := .int .i64) ia rfl o2.cells rfl (s_cell (b := .int .i64) ib rfl o2.cells rfl ?_))))))))))))
  refine wp_call (c_Atoms M C (from_ := ia) pr.t fb) fun ⟨(sa : Sl), _⟩ h3 e3 oa => ?_
  have oa : OwnL h2.size .i64 h3 sa ((cutL (els T.enc T.cur.ps) ia ib).map (·.1)) := oa
  rw [part_map, ← pr.E] at oa
  have r3 := pr.r.ext e3
  refine s_ckC (cells_iff.1 (o2.ext e3).cells 3 _ rfl) (s_ckC (cells_iff.1 (o2.ext e3).cells 2 _ rfl) (s_ckC (cells_iff.1 r3.ob.cells 2 _ rfl) (s_ckArr (W2.ext e3).ob.cells a1 ?_)))
  refine wp_call (c_refPart r3.cur.1.lst (by rw [List.length_map]; dsimp only; omega)) fun ⟨(sb : Sl), _⟩ h4 e4 ob => ?_
  have ob : OwnL h3.size .i64 h4 sb (partL (R.E.map (·.1)) ia ib) := ob
  refine wp_call (c_same5I (oa.ext e4).lst ob.lst) fun ⟨(b3 : Bool), _⟩ h5 e5 hb5 => ?_
  have hb5 : b3 = decide (_ = _) := hb5
  rw [decide_eq_true rfl] at hb5
  subst hb5
  exact s_ret ⟨rfl, rfl, ext2 ((e3.trans e4).trans e5)⟩
 refine wp_ifB (fun _ => ?_) fun _ => ?_
 ·refine wp_grd rfl (wp_grd rfl (s_arr (b := .ptr) (some T.p) W2.ob.cells a0 hi (s_cell (b := .int .i64) ia rfl o2.cells rfl (s_cell (b := .int .i64) ib rfl o2.cells rfl (wp_grd rfl (wp_grd rfl (s_arr (b := .ptr) (some (at0 R.b)) W2.ob.cells a1 hi (wp_grd rfl (wp_grd rfl (s_cell (b := .sl) R.st rfl pr.r.ob.cells rfl (s_cell (b := .int .i64) ia rfl o2.cells rfl (s_cell (b := .int .i64) ib rfl o2.cells rfl ?_))))))))))))
  refine wp_call (c_Tags M C (from_ := ia) pr.t fb) fun ⟨(sa : Sl), _⟩ h3 e3 oa => ?_
  have oa : OwnL h2.size .i64 h3 sa ((cutL (els T.enc T.cur.ps) ia ib).map (·.2)) := oa
  rw [part_map, ← pr.E] at oa
  have r3 := pr.r.ext e3
  refine s_ckC (cells_iff.1 (o2.ext e3).cells 3 _ rfl) (s_ckC (cells_iff.1 (o2.ext e3).cells 2 _ rfl) (s_ckC (cells_iff.1 r3.ob.cells 3 _ rfl) (s_ckArr (W2.ext e3).ob.cells a1 ?_)))
  refine wp_call (c_refPart r3.cur.2.lst (by rw [List.length_map]; dsimp only; omega)) fun ⟨(sb : Sl), _⟩ h4 e4 ob => ?_
  have ob : OwnL h3.size .i64 h4 sb (partL (R.E.map (·.2)) ia ib) := ob
  refine wp_call (c_same5I (oa.ext e4).lst ob.lst) fun ⟨(b3 : Bool), _⟩ h5 e5 hb5 => ?_
  have hb5 : b3 = decide (_ = _) := hb5
  rw [decide_eq_true rfl] at hb5
  subst hb5
  exact s_ret ⟨rfl, rfl, ext2 ((e3.trans e4).trans e5)⟩
 refine wp_ifB (fun _ => ?_) fun _ => ?_
 ·refine wp_grd rfl (wp_grd rfl (s_arr (b := .ptr) (some T.p) W2.ob.cells a0 hi (wp_grd rfl (wp_grd rfl (s_arr (b := .ptr) (some (at0 R.b)) W2.ob.cells a1 hi ?_)))))
  refine wp_call (c_Bytes C pr.t) fun ⟨(sb : Sl), _⟩ h3 e3 ob => s_ckArr (W2.ext e3).ob.cells a1 (wp_call (c_refBytes (pr.r.ext e3) (by omega)) fun ⟨(sc : Sl), _⟩ h4 e4 oc => ?_)
  have ob : OwnL h2.size .u8 h3 sb (bytesL T.cur.ps) := ob
  have oc : OwnL h3.size .u8 h4 sc ((R.E.map (·.1)).flatMap (putF R.enc)) := oc
  rw [(els_facts pr.t.cur pr.t.enc).1] at ob
  rw [pr.E, pr.enc] at oc
  refine wp_call (c_same5B (ob.ext e4).lst oc.lst) fun ⟨(b4 : Bool), _⟩ h5 e5 hb5 => ?_
  have hb5 : b4 = decide (_ = _) := hb5
  rw [decide_eq_true rfl] at hb5
  subst hb5
  exact s_ret ⟨rfl, rfl, ext2 ((e3.trans e4).trans e5)⟩
 refine wp_ifB (fun _ => ?_) fun _ => ?_
 ·refine wp_grd rfl (wp_grd rfl (s_arr (b := .ptr) (some T.p) W2.ob.cells a0 hi (s_cell (b := .int .i64) ia rfl o2.cells rfl (wp_grd rfl (wp_grd rfl (s_arr (b := .ptr) (some (at0 R.b)) W2.ob.cells a1 hi (s_cell (b := .int .i64) ia rfl o2.cells rfl ?_)))))))
  refine wp_call (c_Breaks M C pr.t fa) fun ⟨(y1 : Int), _⟩ h3 e3 hy1 => s_ckC (cells_iff.1 (o2.ext e3).cells 2 _ rfl) (s_ckArr (W2.ext e3).ob.cells a1 (wp_call (c_refBreaks (pr.r.ext e3) (by omega)) fun ⟨(y2 : Int), _⟩ h4 e4 hy2 => s_ret ⟨rfl, ?_, ext2 (e3.trans e4)⟩))
  have hy1 : y1 = _ := hy1
  have hy2 : y2 = _ := hy2
  rw [← pr.E] at hy1
  dsimp only
  rw [hy1, hy2, eqI_self]
 refine wp_ifB (fun _ => ?_) fun _ => ?_
 ·refine wp_grd rfl (wp_grd rfl (s_arr (b := .ptr) (some T.p) W2.ob.cells a0 hi (s_cell (b := .int .i64) ia rfl o2.cells rfl (wp_grd rfl (wp_grd rfl (s_arr (b := .ptr) (some (at0 R.b)) W2.ob.cells a1 hi (s_cell (b := .int .i64) ia rfl o2.cells rfl ?_)))))))
  refine wp_call (c_Seek M C pr.t) fun ⟨(y1 : Int), _⟩ h3 e3 hy1 => s_ckC (cells_iff.1 (o2.ext e3).cells 2 _ rfl) (s_ckArr (W2.ext e3).ob.cells a1 (wp_call (c_refSeek (pr.r.ext e3) (by omega) fa) fun ⟨(y2 : Int), _⟩ h4 e4 hy2 => s_ret ⟨rfl, ?_, ext2 (e3.trans e4)⟩))
  rw [← pr.E] at hy1
  obtain ⟨u1, u2, u3⟩ := hy1
  obtain ⟨v1, v2, v3⟩ := hy2
  have : y1 = y2 := by
   by_cases g0 : ia = 0
   ·exact (u1 g0).trans (v1 g0).symm
   ·by_cases g1 : ia < 0 ∨ (cntE (R.E.map (·.1)) R.E.length : Int) < ia
    ·exact (u2 g1).trans (v2 g1).symm
    ·have g2 : 0 < ia := by omega
     have g3 : ia ≤ (cntE (R.E.map (·.1)) R.E.length : Int) := by omega
     exact (u3 g2 g3).fn (v3 g2 g3)
  dsimp only
  rw [this, eqI_self]
 refine wp_ifB (fun _ => ?_) fun _ => ?_
 ·refine s_cell (b := .int .i64) ia rfl o2.cells rfl (s_cell (b := .int .i64) ib rfl o2.cells rfl (wp_call (c_world_chunks C Wc pr W2.ob hi a0 a1 fa) fun ⟨(bb : Bool), _⟩ h3 e3 hb3 => ?_))
  have hb3 : bb = true := hb3
  subst hb3
  exact s_ret ⟨rfl, rfl, ext2 e3⟩
 refine wp_ifB (fun _ => ?_) fun _ => ?_
 ·refine wp_callW (c_world_keep W2 hi hT hR hn2 hks) fun tag vs h3 ⟨ht, hv, k3, w', W3⟩ => ⟨ht, (true, ()), hv, s_ret ⟨rfl, rfl, Keep.trans k02 k3, w', W3.more (by omega) (Nat.le_refl _)⟩⟩
 refine wp_ifB (fun _ => ?_) fun _ => s_ret ⟨rfl, rfl, ext2 (Ext.refl _)⟩
 ·refine s_cell (b := .int .i64) ia rfl o2.cells rfl (wp_callW (c_world_back W2 hi hT hR hn2 fa) fun tag vs h3 ⟨ht, hv, k3, w', W3⟩ => ⟨ht, (true, ()), hv, s_ret ⟨rfl, rfl, Keep.trans k02 k3, w', W3.more (by omega) (by omega)⟩⟩)
end Go.Sw.Piece

set_option linter.unusedVariables false
set_option linter.unusedSimpArgs false
set_option maxRecDepth 100000
namespace Go.Sw.Piece
open Go.Sw.Any Go.Sw.Codec
open Go.Sw.Tree (iv s_putAll s_newP s_getP s_getT s_putP eqI_self Placed cell_own wp_whileG minI_eq)
variable {P : Program} {S : Ids} {h : Heap} {Q : Nat → List Value → Heap → Prop}
variable {n wb am ks : Nat} {w : WX}
theorem PairO.mono {m : Nat} {t : Option TX} {r : Option RX} (o : PairO S n h t r) (hm : m ≤ n) : PairO S m h t r := by
 cases t with
 | none => cases r with
  | none => trivial
  | some R => exact o.elim
 | some T => cases r with
  | none => exact o.elim
  | some R => exact ⟨o.t.mono hm, o.r.mono hm, o.enc, o.limit, o.E, o.sm, o.far⟩
open Classical in
theorem world0 {t0 t1 : Option TX} {r0 r1 : Option RX} (o : Own n 1 h ⟨some (at0 wb), 8, 8⟩ (wCells t0 t1 r0 r1 [.slice none 0 0, .slice none 0 0, .slice none 0 0, .pointer none])) (p0 : PairO S n h t0 r0) (p1 : PairO S n h t1 r1)
  (far : ∀ x, pZ t0 r0 x → ¬ pZ t1 r1 x) (y0 : Young t0 r0) (y1 : Young t1 r1) (nw : ∀ x, pZ t0 r0 x ∨ pZ t1 r1 x → x ≠ wb) :
  ∃ ρ, WorldR S n h wb ⟨fun i => if i = 0 then t0 else t1, fun i => if i = 0 then r0 else r1, [], ⟨none, 0, 0⟩, ⟨none, 0, 0⟩, ⟨none, 0, 0⟩, none, ρ⟩ 0 0 := by
 have d0 : ∀ {T R x}, t0 = some T → r0 = some R → T.Z x → ¬ R.Z x := fun {T R x} h1 h2 => by
  subst h1; subst h2; exact p0.far x
 have d1 : ∀ {T R x}, t1 = some T → r1 = some R → T.Z x → ¬ R.Z x := fun {T R x} h1 h2 => by
  subst h1; subst h2; exact p1.far x
 refine ⟨fun x => if x = wb then 1 else if ∃ T, t0 = some T ∧ T.Z x then 6 else if ∃ R, r0 = some R ∧ R.Z x then 7 else if ∃ T, t1 = some T ∧ T.Z x then 8 else if ∃ R, r1 = some R ∧ R.Z x then 9 else 0, ?_⟩
 have nx : ∀ {x}, pZ t0 r0 x → ¬ (∃ T, t1 = some T ∧ T.Z x) ∧ ¬ (∃ R, r1 = some R ∧ R.Z x) := fun {x} hx => ⟨fun h => far x hx (.inl h), fun h => far x hx (.inr h)⟩
 have ny : ∀ {x}, pZ t1 r1 x → ¬ (∃ T, t0 = some T ∧ T.Z x) ∧ ¬ (∃ R, r0 = some R ∧ R.Z x) := fun {x} hx => ⟨fun h => far x (.inl h) hx, fun h => far x (.inr h) hx⟩
 refine { ob := o, pair := fun i hi => ?_, pen := rfl, lS := Own.nil _ _ _, lO := OwnL.nil _ _ _, lN := OwnL.nil _ _ _, snap := fun k hk => (by cases hk), few := Nat.le_refl _, kfew := fun i hi R e => ?_, A := fun i hi T e => ?_, r1 := if_pos rfl, r2 := fun a ha => (by cases ha), r3 := fun a ha => (by cases ha), r4 := fun a ha => (by cases ha), r5 := fun k hk => (by cases hk), r6 := fun i hi T e x z => ?_, r7 := fun i hi R e x z => ?_, r10 := fun x hx => hx.elim, lo := fun x hx => ?_ }
 ·show PairO S n h (if i = 0 then t0 else t1) (if i = 0 then r0 else r1)
  by_cases h0 : i = 0
  ·rw [if_pos h0, if_pos h0]; exact p0
  ·rw [if_neg h0, if_neg h0]; exact p1
 ·have e : (if i = 0 then r0 else r1) = some R := e
  by_cases h0 : i = 0
  ·rw [if_pos h0] at e; rw [y0.2 R e]; exact Nat.zero_le _
  ·rw [if_neg h0] at e; rw [y1.2 R e]; exact Nat.zero_le _
 ·have e : (if i = 0 then t0 else t1) = some T := e
  by_cases h0 : i = 0
  ·rw [if_pos h0] at e; rw [(y0.1 T e).2]; exact Nat.zero_le _
  ·rw [if_neg h0] at e; rw [(y1.1 T e).2]; exact Nat.zero_le _
 ·have e : (if i = 0 then t0 else t1) = some T := e
  show (if x = wb then 1 else _) = _
  by_cases h0 : i = 0
  ·rw [if_pos h0] at e
   rw [if_neg (nw x (.inl (.inl ⟨T, e, z⟩))), if_pos ⟨T, e, z⟩, h0]
  ·rw [if_neg h0] at e
   obtain ⟨a, b⟩ := ny (x := x) (.inl ⟨T, e, z⟩)
   rw [if_neg (nw x (.inr (.inl ⟨T, e, z⟩))), if_neg a, if_neg b, if_pos ⟨T, e, z⟩, show i = 1 by omega]
 ·have e : (if i = 0 then r0 else r1) = some R := e
  show (if x = wb then 1 else _) = _
  by_cases h0 : i = 0
  ·rw [if_pos h0] at e
   rw [if_neg (nw x (.inl (.inr ⟨R, e, z⟩))), if_neg fun ⟨T, e', z'⟩ => d0 e' e z' z, if_pos ⟨R, e, z⟩, h0]
  ·rw [if_neg h0] at e
   obtain ⟨a, b⟩ := ny (x := x) (.inr ⟨R, e, z⟩)
   rw [if_neg (nw x (.inr (.inr ⟨R, e, z⟩))), if_neg a, if_neg b, if_neg fun ⟨T, e', z'⟩ => d1 e' e z' z, if_pos ⟨R, e, z⟩, show i = 1 by omega]
 ·have hx : (if x = wb then 1 else if ∃ T, t0 = some T ∧ T.Z x then 6 else if ∃ R, r0 = some R ∧ R.Z x then 7 else if ∃ T, t1 = some T ∧ T.Z x then 8 else if ∃ R, r1 = some R ∧ R.Z x then 9 else 0) ≠ 0 := hx
  by_cases h1 : x = wb
  ·subst h1; exact o.lt rfl
  ·rw [if_neg h1] at hx
   by_cases h2 : ∃ T, t0 = some T ∧ T.Z x
   ·exact p0.in (.inl h2)
   ·rw [if_neg h2] at hx
    by_cases h3 : ∃ R, r0 = some R ∧ R.Z x
    ·exact p0.in (.inr h3)
    ·rw [if_neg h3] at hx
     by_cases h4 : ∃ T, t1 = some T ∧ T.Z x
     ·exact p1.in (.inl h4)
     ·rw [if_neg h4] at hx
      by_cases h5 : ∃ R, r1 = some R ∧ R.Z x
      ·exact p1.in (.inr h5)
      ·rw [if_neg h5] at hx; exact absurd rfl hx
abbrev PlaySh : Sh := .str (.pair (.arr (.pair (.int .i64) (.pair (.int .i64) .unit))) (.pair (.arr (.pair (.int .i64) (.pair (.int .i64) .unit))) (.pair (.arr (.pair (.list (.int .u8)) (.pair (.list (.int .u8)) .unit))) (.pair (.list StepSh) .unit))))
abbrev PlayD := (Int × Int × Unit) × (Int × Int × Unit) × ((Sl × List Int) × (Sl × List Int) × Unit) × (Sl × List StepD) × Unit
abbrev playA (y : PlayD) : BT := (y.1.1, y.1.2.1, y.2.1.1, y.2.1.2.1, y.2.2.1.1.1, y.2.2.1.2.1.1, y.2.2.2.1.1, ())
abbrev stepP (x : StepD) : Nat := (putsOf x.2.2.2.2.1.2).length
theorem step_wt (x : StepD) : stepP x ≤ StepSh.wt x ∧ (Sh.list EdSh).wt x.2.2.2.2.1 ≤ StepSh.wt x := by
 have h1 := (eds_wt x.2.2.2.2.1).2.1
 have h2 : StepSh.wt x = (1 + (1 + (1 + (1 + ((Sh.list EdSh).wt x.2.2.2.2.1 + 0))))) + 1 := rfl
 exact ⟨by show (putsOf x.2.2.2.2.1.2).length ≤ _; omega, by omega⟩
theorem play_wt {y : PlayD} (h : PlaySh.wt y ≤ 1048577) : y.2.2.1.1.2.length ≤ 1048576 ∧ y.2.2.1.2.1.2.length ≤ 1048576 ∧ y.2.2.2.1.2.length ≤ 1048576 ∧ (y.2.2.2.1.2.map stepP).sum ≤ 1048576 ∧ ∀ x, x ∈ y.2.2.2.1.2 → (Sh.list EdSh).wt x.2.2.2.2.1 ≤ 1048576 := by
 have e : PlaySh.wt y = ((1 + (1 + 0)) + 1 + (((1 + (1 + 0)) + 1) + (((Sh.list (.int .u8)).wt y.2.2.1.1 + ((Sh.list (.int .u8)).wt y.2.2.1.2.1 + 0)) + 1 + ((Sh.list StepSh).wt y.2.2.2.1 + 0)))) + 1 := rfl
 have h1 := ints_wt (k := .u8) y.2.2.1.1
 have h2 := ints_wt (k := .u8) y.2.2.1.2.1
 have h3 := Sh.wt_len (e := StepSh) y.2.2.2.1 fun x => by have := (step_wt x).2; have h2 : StepSh.wt x = (1 + (1 + (1 + (1 + ((Sh.list EdSh).wt x.2.2.2.2.1 + 0))))) + 1 := rfl; omega
 have e2 : (Sh.list StepSh).wt y.2.2.2.1 = (y.2.2.2.1.2.map StepSh.wt).sum + 1 := rfl
 have h4 := sum_le_sum stepP StepSh.wt y.2.2.2.1.2 fun x _ => (step_wt x).1
 refine ⟨by omega, by omega, by omega, by omega, fun x hx => ?_⟩
 have h5 := sum_mem_le StepSh.wt hx
 have h6 := (step_wt x).2
 omega
theorem s_ldP {m c d : Nat} {a : Addr} {y : BT} {K : BT → Prog} (o : Own m 1 h ⟨some a, c, d⟩ (Bs.inj [.int .i64, .int .i64, .int .i64, .int .i64, .sl, .sl, .sl] y)) (hk : wp P (K y) h Q) : wp P (.load (.agg [.int .i64, .int .i64, .int .i64, .int .i64, .sl, .sl, .sl]) (some a) K) h Q := ⟨a, rfl, y, o.cells, hk⟩
theorem c_plays (M : Meth0 P S) (C : Cl P S) (Wc : ClW P S) {y : PlayD} (ok : PlaySh.ok h y) (hw : PlaySh.wt y ≤ 1048577) (lo hi : Int) : Gives P (F_law5_plays S (playA y) lo hi) [.one .bool] h fun (x : Bool × Unit) _ => x.1 = true := by
 obtain ⟨w1, w2, w3, w4, w5⟩ := play_wt hw
 obtain ⟨⟨en0, en1, _⟩, ⟨li0, li1, _⟩, ⟨⟨b0, l0⟩, ⟨b1, l1⟩, _⟩, ⟨st, steps⟩, _⟩ := y
 obtain ⟨⟨f1, f2, _⟩, ⟨f3, f4, _⟩, ⟨ok0, ok1, _⟩, okS, _⟩ := ok
 dsimp only at w1 w2 w3 w4 w5 ok0 ok1 okS f1 f2 f3 f4 ⊢
 have lb0 : Lst .u8 h b0 l0 := Sh.lst (x := (b0, l0)) ok0
 have lb1 : Lst .u8 h b1 l1 := Sh.lst (x := (b1, l1)) ok1
 have okS : (Sh.list StepSh).ok h (st, steps) := okS
 unfold F_law5_plays Gives
 refine s_newO (bs := [.int .i64, .int .i64, .int .i64, .int .i64, .sl, .sl, .sl]) (en0, en1, li0, li1, b0, b1, st, ()) (by decide) fun h1 e1 o1 => ?_
 refine wp_call (c_able M) fun ⟨(ab : Bool), _⟩ h2 e2 hab => ?_
 have hab : ab = true := hab
 subst hab
 refine s_ifF (s_newO (bs := [.ptr, .ptr, .ptr, .ptr, .sl, .sl, .sl, .ptr]) (none, none, none, none, ⟨none, 0, 0⟩, ⟨none, 0, 0⟩, ⟨none, 0, 0⟩, none, ()) (by decide) fun h3 e3 o3 => ?_)
 have o3 : Own h2.size 1 h3 ⟨some (at0 h2.size), 8, 8⟩ (wCells none none none none [.slice none 0 0, .slice none 0 0, .slice none 0 0, .pointer none]) := o3
 have q1 := e1.size; have q2 := e2.size; have q3 := e3.size
 have l3 : h2.size < h3.size := (o3.lt rfl).2
 have e02 := e1.trans e2
 have e03 := e02.trans e3
 have o1' := (o1.ext e2).ext e3
 refine s_ldP (y := (en0, en1, li0, li1, b0, b1, st, ())) o1' ?_
 have hlt : ∀ {b : Sl} {l : List Int}, Lst .u8 h b l → ∀ a, b.base = some a → a.block ≠ h2.size ∨ l = [] := fun {b l} hb a ha => by
  cases l with
  | nil => exact .inr rfl
  | cons y l' =>
   obtain ⟨b', eb, cb⟩ := hb.rd.at (i := 0) (by simp)
   rw [ha] at eb; cases eb
   have := cell_lt cb
   rw [add_block] at this
   exact .inl (by omega)
 refine wp_callW (c_begin M (en := fun i => if i = 0 then en0 else en1) (li := fun i => if i = 0 then li0 else li1) (bs := fun i => if i = 0 then b0 else b1) (ls := fun i => if i = 0 then l0 else l1) (steps := st) o3 rfl (fun i hi => ?_) fun i hi a ha => ?_) fun tag vs h4 ⟨ht, hv, c4, t0, t1, r0, r1, o4, pa, pb, far, ya, yb⟩ => ⟨ht, (true, ()), hv, ?_⟩
 ·split
  ·exact ⟨lb0.ext e03, by omega⟩
  ·exact ⟨lb1.ext e03, by omega⟩
 ·split at ha
  ·rename_i h0; rw [if_pos h0]; exact hlt lb0 a ha
  ·rename_i h0; rw [if_neg h0]; exact hlt lb1 a ha
 have k24 : Keep h2.size h2 h4 := Keep.trans e3 (c4.keep q3 fun i hi f => by omega)
 have q4 := k24.size
 obtain ⟨ρ, W0⟩ := world0 (n := h2.size) (wb := h2.size) o4 (pa.mono q3) (pb.mono q3) far ya yb fun x hx => by
  rcases hx with hx | hx
  ·have := (pa.in hx).1; omega
  ·have := (pb.in hx).1; omega
 refine s_ifF ?_
 have fr : ∀ {h' : Heap}, Keep h2.size h2 h' → Ext h h' := fun k => Keep.trans e02 (k.mono e02.size)
 refine wp_while (fun (r : Int × Unit) h' => ∃ k : Nat, k ≤ steps.length ∧ r.1 = (k : Int) ∧ Keep h2.size h2 h' ∧ ∃ w, WorldR S h2.size h' h2.size w (4 * ((steps.take k).map stepP).sum) k) (fun r _ => (steps.length - r.1).toNat)
  (fun tag vs h' => tag = 2 ∧ vs = [] ∧ Ext h h') ⟨0, Nat.zero_le _, rfl, k24, _, W0⟩ ?_ ?_
 ·rintro ⟨(r : Int), u⟩ h5 ⟨k, hk, hr, k5, w, W⟩
  dsimp only at hr ⊢
  subst hr
  have q5 := k5.size
  have own1 : ∀ {h' : Heap}, Keep h2.size h2 h' → Own h.size 1 h' ⟨some (at0 h.size), 7, 7⟩ (Bs.inj [.int .i64, .int .i64, .int .i64, .int .i64, .sl, .sl, .sl] ((en0, en1, li0, li1, b0, b1, st, ()) : BT)) := fun k => (o1.ext e2).ext k
  have okk : ∀ {h' : Heap}, Keep h2.size h2 h' → (Sh.list StepSh).ok h' (st, steps) := fun k => Sh.ok.ext (s := .list StepSh) (fr k) okS
  have ok5 := okk k5
  have sl := ok5.len
  dsimp only at sl
  refine s_cell (b := .sl) st rfl (own1 k5).cells rfl (wp_ifB (fun hc => ?_) fun hc => s_ret ⟨fun hh => absurd hh (by decide), fun _ => ⟨rfl, rfl, fr k5⟩⟩)
  rw [ltI_iff, natI_def, sl] at hc
  obtain ⟨x, hx⟩ : ∃ x, steps[k]? = some x := ⟨steps[k]'(by omega), List.getElem?_eq_getElem (by omega)⟩
  have hxm := List.mem_of_getElem? hx
  have hx' : steps[((k : Int)).toNat]? = some x := hx
  have s1 := sum_take stepP hx
  have s2 := sum_take_le stepP steps (k + 1)
  refine s_cell (b := .sl) st rfl (own1 k5).cells rfl (s_atSh (e := StepSh) (x := (st, steps)) (y := x) (z := (x.1, x.2.1, x.2.2.1, x.2.2.2.1, x.2.2.2.2.1.1, ())) ok5 (by omega) hx' rfl rfl ?_)
  have el : ∀ {h' : Heap}, Keep h2.size h2 h' → StepSh.ok h' x := fun k => Sh.ok.el (okk k) hx
  refine wp_callW (c_world_step M C Wc (x := x) W (by omega) ⟨(el k5).2.2.1, (el k5).2.2.2.1⟩ (fun h' k => (el (Keep.trans k5 k)).2.2.2.2.1) (w5 x hxm) (by have : (putsOf x.2.2.2.2.1.2).length = stepP x := rfl; omega) (by omega)) fun tag vs h6 ⟨ht, hv, k6, w', W6⟩ => ⟨ht, (true, ()), hv, ?_⟩
  have k26 := Keep.trans k5 k6
  have ok6 := okk k26
  refine s_cell (b := .sl) st rfl (own1 k26).cells rfl (s_fieldSh (e := StepSh) (b := .int .i64) (x := (st, steps)) (y := x) (z := x.1) ok6 (by omega) hx' rfl rfl ?_)
  refine bind_bool False ?_ fun bb h7 e7 hb7 => wp_ifB (fun hx => (hb7.1 hx).elim) fun _ => ?_
  ·exact s_ifF (s_ret ⟨rfl, Ext.refl _, false, rfl, Iff.intro (fun h => by cases h) False.elim⟩)
  ·rw [add_ok (by omega) (by omega)]
   refine s_ret ⟨fun _ => ⟨((k : Int) + 1, ()), rfl, ⟨k + 1, by omega, by dsimp only; omega, Keep.trans k26 (e7.keep k26.size), w', ?_⟩, by dsimp only; omega⟩, fun hh => absurd rfl hh⟩
   exact (W6.ext e7).more (by rw [s1]; show _ ≤ 4 * (_ + (putsOf x.2.2.2.2.1.2).length); omega) (Nat.le_refl _)
 ·rintro tag vs h5 ⟨rfl, rfl, e5⟩
  exact s_tag (s_cast0 (s_ret ⟨rfl, e5, (true, ()), rfl, rfl⟩))
section laws
variable {y : PlayD}
theorem c_PieceSnaps (M : Meth0 P S) (C : Cl P S) (Wc : ClW P S) (ok : PlaySh.ok h y) (hw : PlaySh.wt y ≤ 1048577) : Gives P (F_law5_PieceSnaps S (playA y)) [.one .bool] h fun (x : Bool × Unit) _ => x.1 = true := by
 unfold F_law5_PieceSnaps Gives
 refine s_newO (bs := [.int .i64, .int .i64, .int .i64, .int .i64, .sl, .sl, .sl]) (playA y) (by decide) fun h1 e1 o1 => ?_
 refine bind_bool True ?_ fun bb h2 e2 hb2 => s_ret ⟨rfl, e1.trans e2, (bb, ()), rfl, hb2.2 trivial⟩
 refine s_ldP o1 (wp_call (c_plays M C Wc (Sh.ok.ext (s := PlaySh) e1 ok) hw _ _) fun ⟨(b : Bool), _⟩ h2 e2 hb => ?_)
 have hb : b = true := hb
 subst hb
 refine s_ifT (s_ldP (o1.ext e2) (wp_call (c_plays M C Wc (Sh.ok.ext (s := PlaySh) (e1.trans e2) ok) hw _ _) fun ⟨(b : Bool), _⟩ h3 e3 hb => s_ret ⟨rfl, e2.trans e3, b, rfl, ?_⟩))
 have hb : b = true := hb
 rw [hb]; exact Iff.intro (fun _ => trivial) fun _ => rfl
end laws
end Go.Sw.Piece
