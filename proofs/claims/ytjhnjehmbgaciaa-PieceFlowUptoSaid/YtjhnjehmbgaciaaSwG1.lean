/-
  A text: heads and tails of pieces; what a text shows; replace.
-/
import Derived.Test.YtjhnjehmbgaciaaSwG0
import Derived.Test.YtjhnjehmbgaciaaSwCD
set_option linter.unusedVariables false
set_option linter.unusedSimpArgs false
set_option maxRecDepth 100000
namespace Go.Sw.Piece
open Go.Sw.Any Go.Sw.Codec
open Go.Sw.Tree (iv s_putAll s_newP s_getP s_getT s_putP eqI_self Placed cell_own wp_whileG minI_eq)
variable {P : Program} {S : Ids} {h : Heap} {Q : Nat → List Value → Heap → Prop}
def headPc (enc : Int) (q : Pc) (n : Nat) : Pc := (headP enc q.1 q.2 n, q.2.take (offs ((toks enc q.2).take n)))
def tailPc (enc : Int) (q : Pc) (n : Nat) : Pc := (tailP enc q.1 q.2 n, q.2.drop (offs ((toks enc q.2).take n)))
theorem elsP_head {enc : Int} {q : Pc} (hb : isBytes q.2) {n : Nat} (hn : n ≤ (toks enc q.2).length) : elsP enc (headPc enc q n) = (elsP enc q).take n := by
 unfold elsP headPc
 dsimp only
 rw [toks_take hb n hn, elsF_take]; rfl
theorem elsP_tail {enc : Int} {q : Pc} (hb : isBytes q.2) {n : Nat} (hn : n ≤ (toks enc q.2).length) : elsP enc (tailPc enc q n) = (elsP enc q).drop n := by
 unfold elsP tailPc
 dsimp only
 rw [(toks_at hb n hn).2, elsF_drop]
 show elsF (tagF q.1.2.1 _) 0 _ = _
 rw [elsF_tag]
theorem offs_pos {ts : List (Int × Int)} (h : okT ts) (hl : 0 < ts.length) : 0 < offs ts := by
 cases ts with
 | nil => simp at hl
 | cons t ts => have := h t (List.mem_cons_self ..); rw [offs_cons]; omega
theorem PcR.base {T : TX} {q : Pc} (r : PcR h T q) : ∃ a, q.1.1.base = some a := by
 obtain ⟨a, e, _⟩ := r.lst.rd.at (i := 0) r.ne
 exact ⟨a, e⟩
theorem PcR.head {T : TX} {q : Pc} (r : PcR h T q) {n : Nat} (h0 : 0 < n) (hn : n ≤ (toks T.enc q.2).length) : PcR h T (headPc T.enc q n) := by
 have hb := r.bytes
 have okt := okT_toks (enc := T.enc) hb
 have hk := (toks_at (enc := T.enc) hb n hn).1.le hb
 have hpos := offs_pos (okt.take n) (by rw [List.length_take]; omega)
 have htt := toks_take (enc := T.enc) hb n hn
 have hlen := r.lst.len
 have hcap := r.lst.cap
 have hmax := r.lst.max
 have htag := r.tag
 have hl := r.len
 unfold headPc headP
 generalize hkk : offs ((toks T.enc q.2).take n) = k at *
 have hlt : (q.2.take k).length = k := by rw [List.length_take]; omega
 refine ⟨r.lst.take hk (Nat.le_refl _) (by omega), by dsimp only; omega, ?_, ?_, by dsimp only; omega, fun a ha => ?_⟩
 ·dsimp only; rw [htt]; rfl
 ·dsimp only; rw [hlt]
  show -1 ≤ q.1.2.1 ∧ q.1.2.1 + (k : Int) ≤ 65536
  omega
 ·obtain ⟨b1, b2, b3⟩ := r.blk a ha
  refine ⟨b1, b2, fun b hb hab => ?_⟩
  obtain ⟨b4, b5⟩ := b3 b hb hab
  exact ⟨b4, by dsimp only; omega⟩
theorem PcR.tail {T : TX} {q : Pc} (r : PcR h T q) {n : Nat} (hn : n < (toks T.enc q.2).length) : PcR h T (tailPc T.enc q n) := by
 have hb := r.bytes
 have okt := okT_toks (enc := T.enc) hb
 have hk := (toks_at (enc := T.enc) hb n (by omega)).1.le hb
 have htd := (toks_at (enc := T.enc) hb n (by omega)).2
 have hoff := toks_offs (enc := T.enc) hb
 have hsp := offs_append ((toks T.enc q.2).take n) ((toks T.enc q.2).drop n)
 rw [List.take_append_drop] at hsp
 have hpos := offs_pos (okt.drop n) (by rw [List.length_drop]; omega)
 have hlen := r.lst.len
 have hcap := r.lst.cap
 have hmax := r.lst.max
 have htag := r.tag
 have hl := r.len
 unfold tailPc tailP
 generalize hkk : offs ((toks T.enc q.2).take n) = k at *
 have hlt : (q.2.drop k).length = q.2.length - k := List.length_drop
 obtain ⟨a0, ha0⟩ := r.base
 have hcut : cutBase q.1.1.base q.1.1.cap k 1 = some (a0.add k) := by unfold cutBase; rw [if_neg (by omega), ha0]; simp
 refine ⟨r.lst.tail (i := k) hk, by dsimp only; omega, ?_, ?_, by dsimp only; omega, fun a ha => ?_⟩
 ·dsimp only; rw [htd]; rfl
 ·dsimp only; rw [hlt]
  show -1 ≤ tagF q.1.2.1 k ∧ tagF q.1.2.1 k + ((q.2.length - k : Nat) : Int) ≤ 65536
  unfold tagF; split <;> omega
 ·have ha : cutBase q.1.1.base q.1.1.cap k 1 = some a := ha
  rw [hcut] at ha
  cases ha
  obtain ⟨b1, b2, b3⟩ := r.blk a0 ha0
  rw [add_block]
  refine ⟨b1, b2, fun b hb hab => ?_⟩
  obtain ⟨b4, b5⟩ := b3 b hb hab
  refine ⟨add_spot b4 _, ?_⟩
  rw [add_off]
  show a0.off + k + (q.2.drop k).length ≤ _
  omega
theorem els_append (enc : Int) (a b : List Pc) : els enc (a ++ b) = els enc a ++ els enc b := by simp [els]
theorem els_one (enc : Int) (q : Pc) : els enc [q] = elsP enc q := by simp [els]
theorem els_split {enc : Int} {ps : List Pc} {i : Nat} {q : Pc} (hq : ps[i]? = some q) : els enc ps = els enc (ps.take i) ++ elsP enc q ++ els enc (ps.drop (i + 1)) := by
 have hlt := (List.getElem?_eq_some_iff.1 hq).1
 have he := (List.getElem?_eq_some_iff.1 hq).2
 have h2 : ps = ps.take i ++ [q] ++ ps.drop (i + 1) := by
  rw [← he, List.append_assoc]
  show ps = ps.take i ++ (ps[i] :: ps.drop (i + 1))
  rw [← List.drop_eq_getElem_cons hlt, List.take_append_drop]
 conv => lhs; rw [h2]
 rw [els_append, els_append, els_one]
theorem elsP_len (enc : Int) (q : Pc) : (elsP enc q).length = (toks enc q.2).length := elsF_len ..
theorem els_take {enc : Int} {ps : List Pc} {at_ : Int} {i n : Nat} (f : FindR enc ps at_ i n) (h0 : 0 ≤ at_) : (els enc ps).take at_.toNat = els enc (ps.take i) ++ (match ps[i]? with | some q => (elsP enc q).take n | none => []) ∧
  (els enc ps).drop at_.toNat = (match ps[i]? with | some q => (elsP enc q).drop n | none => []) ++ els enc (ps.drop (i + 1)) ∧ (∀ q, ps[i]? = some q → n ≤ (toks enc q.2).length) := by
 obtain ⟨f1, f2, f3, f4⟩ := f
 have hat : at_.toNat = (els enc (ps.take i)).length + n := by rw [els_len]; omega
 cases hq : ps[i]? with
 | none =>
  by_cases h : 0 < at_
  ·obtain ⟨q, hq', _⟩ := f4 h; rw [hq] at hq'; cases hq'
  ·obtain ⟨rfl, rfl⟩ := f3 (by omega)
   have : ps = [] := by
    cases ps with
    | nil => rfl
    | cons q ps => simp at hq
   subst this
   exact ⟨by simp [els], by simp [els], fun q hq => (by cases hq)⟩
 | some q =>
  have hn : n ≤ (elsP enc q).length := by
   rw [elsP_len]
   by_cases h : 0 < at_
   ·obtain ⟨q', hq', _, h3⟩ := f4 h; rw [hq] at hq'; cases hq'; exact h3
   ·obtain ⟨_, rfl⟩ := f3 (by omega); exact Nat.zero_le _
  have hs := els_split (enc := enc) hq
  refine ⟨?_, ?_, fun q' hq' => by cases hq'; rw [← elsP_len]; exact hn⟩
  ·rw [hs, hat, List.append_assoc, List.take_append, List.take_of_length_le (by omega), Nat.add_sub_cancel_left, List.take_append_of_le_length hn]
  ·rw [hs, hat, List.append_assoc, List.drop_append, List.drop_of_length_le (by omega), Nat.add_sub_cancel_left, List.drop_append_of_le_length hn, List.nil_append]
theorem find_mono {enc : Int} {ps : List Pc} {a b : Int} {i n j m : Nat} (f : FindR enc ps a i n) (g : FindR enc ps b j m) (h0 : 0 ≤ a) (hab : a ≤ b) : i ≤ j := by
 obtain ⟨f1, f2, f3, f4⟩ := f
 obtain ⟨g1, g2, g3, g4⟩ := g
 by_cases ha : 0 < a
 ·obtain ⟨q, hq, n0, n1⟩ := f4 ha
  obtain ⟨r, hr, m0, m1⟩ := g4 (by omega)
  by_cases hij : i ≤ j
  ·exact hij
  ·have h1 := toksL_succ (enc := enc) hr
   have h2 : (toksL enc (ps.take (j + 1))).length ≤ (toksL enc (ps.take i)).length := by
    have : ps.take (j + 1) = (ps.take i).take (j + 1) := by rw [List.take_take, Nat.min_eq_left (by omega)]
    rw [this]; exact toksL_take_le _ _
   rw [h1, List.length_append] at h2
   omega
 ·have := (f3 (by omega)).1; omega
theorem elsF_fst (tag : Int) : ∀ (ts : List (Int × Int)) (o : Nat), (elsF tag o ts).map (·.1) = ts.map (·.1)
 | [], _ => rfl
 | t :: ts, o => by simp only [elsF, List.map_cons, elsF_fst tag ts]
theorem toksL_els {enc : Int} (he : known enc) : ∀ {ps : List Pc}, (∀ q, q ∈ ps → isBytes q.2) → toksL enc ps = ((els enc ps).map (·.1)).map (tk enc) ∧ bytesL ps = ((els enc ps).map (·.1)).flatMap (putF enc) ∧ ∀ a, a ∈ (els enc ps).map (·.1) → 0 < sizeF enc a
 | [], _ => ⟨rfl, rfl, fun a ha => (by cases ha)⟩
 | q :: ps, hb => by
  have hq := toks_is he (hb q (List.mem_cons_self ..))
  obtain ⟨i1, i2, i3⟩ := toksL_els he (ps := ps) fun x hx => hb x (List.mem_cons_of_mem _ hx)
  have e : els enc (q :: ps) = elsP enc q ++ els enc ps := by simp [els]
  have e1 : (elsP enc q).map (·.1) = (toks enc q.2).map (·.1) := by unfold elsP; rw [elsF_fst]
  have e2 : toks enc q.2 = ((toks enc q.2).map (·.1)).map (tk enc) := by
   rw [List.map_map]
   conv => lhs; rw [← List.map_id (toks enc q.2)]
   refine List.map_congr_left fun t ht => ?_
   show t = (t.1, sizeF enc t.1)
   rw [← (hq.1 t ht).2]
  rw [e, List.map_append, List.map_append, List.flatMap_append, e1]
  refine ⟨?_, ?_, fun a ha => ?_⟩
  ·rw [← e2, ← i1]; simp [toksL]
  ·rw [← i2, List.flatMap_map, hq.2]; simp [bytesL]
  ·rcases List.mem_append.1 ha with ha | ha
   ·obtain ⟨t, ht, rfl⟩ := List.mem_map.1 ha
    exact (hq.1 t ht).1
   ·exact i3 a ha
theorem elsP_new {enc : Int} {q : Pc} (h : q.1.2.1 = -1) : elsP enc q = (toks enc q.2).map fun t => (t.1, -1) := by
 unfold elsP
 rw [h]
 have : ∀ (ts : List (Int × Int)) (o : Nat), elsF (-1) o ts = ts.map fun t => (t.1, -1) := by
  intro ts
  induction ts with
  | nil => intro o; rfl
  | cons t ts ih => intro o; simp only [elsF, List.map_cons, ih]; rw [if_pos (by decide)]
 exact this _ _
theorem els_new {enc : Int} : ∀ {qs : List Pc}, (∀ q, q ∈ qs → q.1.2.1 = -1) → els enc qs = (toksL enc qs).map fun t => (t.1, -1)
 | [], _ => rfl
 | q :: qs, h => by
  have := els_new (enc := enc) (qs := qs) fun x hx => h x (List.mem_cons_of_mem _ hx)
  unfold els toksL at this ⊢
  rw [List.flatMap_cons, List.flatMap_cons, List.map_append, this, elsP_new (h q (List.mem_cons_self ..))]
structure Nxt (T T' : TX) (m : Nat) : Prop where
 p : T'.p = T.p
 enc : T'.enc = T.enc
 limit : T'.limit = T.limit
 kept : T'.kept = T.kept
 zm : ∀ i, T.Z i → T'.Z i
 zn : ∀ i, T'.Z i → T.Z i ∨ m ≤ i
 adc : ∀ b, T'.ad.base = some b → T.ad.base = some b ∨ m ≤ b.block
theorem Nxt.refl (T : TX) (m : Nat) : Nxt T T m := ⟨rfl, rfl, rfl, rfl, fun _ h => h, fun _ h => .inl h, fun _ h => .inl h⟩
theorem Nxt.trans {T T' T'' : TX} {m m' : Nat} (a : Nxt T T' m) (b : Nxt T' T'' m') (hm : m ≤ m') : Nxt T T'' m :=
 ⟨b.p.trans a.p, b.enc.trans a.enc, b.limit.trans a.limit, b.kept.trans a.kept, fun i hi => b.zm i (a.zm i hi), fun i hi => (b.zn i hi).elim (a.zn i) fun h => .inr (Nat.le_trans hm h),
  fun x hx => (b.adc x hx).elim (a.adc x) fun h => .inr (Nat.le_trans hm h)⟩
theorem Nxt.foot {T T' : TX} {m i : Nat} (a : Nxt T T' m) (hi : wfoot T' i) : wfoot T i ∨ m ≤ i := by
 rcases hi with rfl | ⟨b, hb, rfl⟩
 ·rw [a.p]; exact .inl (.inl rfl)
 ·exact (a.adc b hb).imp (fun h => .inr ⟨b, h, rfl⟩) id
end Go.Sw.Piece

set_option linter.unusedVariables false
set_option linter.unusedSimpArgs false
set_option maxRecDepth 100000
namespace Go.Sw.Piece
open Go.Sw.Any Go.Sw.Codec
open Go.Sw.Tree (iv s_putAll s_newP s_getP s_getT s_putP eqI_self Placed cell_own wp_whileG minI_eq)
variable {P : Program} {S : Ids} {h : Heap} {Q : Nat → List Value → Heap → Prop}
theorem wp_callW {m : Prog} {tys : List Ty} {K : Ts.den tys → Prog} {R : Nat → List Value → Heap → Prop} (g : wp P m h R) (hk : ∀ t vs h', R t vs h' → t = 0 ∧ ∃ x, vs = Ts.inj tys x ∧ wp P (K x) h' Q) : wp P (.call m tys K) h Q := wp_mono m hk g
theorem its_own {n : Nat} {Z : Nat → Prop} {s : Sl} {l : List Part} (o : OwnPs n h s l) (hw : ∀ x, x ∈ l → VS (wtP x) (sumP x)) : Its (part S Z) h s l := ⟨o.rd, o.2.1, o.2.2.1, hw⟩
theorem pcs_le {T : TX} : ∀ {ps : List Pc}, (∀ q, q ∈ ps → PcR h T q) → ps.length ≤ (bytesL ps).length
 | [], _ => Nat.le_refl _
 | q :: ps, hq => by
  have h1 := pcs_le (ps := ps) fun x hx => hq x (List.mem_cons_of_mem _ hx)
  have h2 := (hq q (List.mem_cons_self ..)).ne
  unfold bytesL at h1 ⊢
  rw [List.flatMap_cons, List.length_append, List.length_cons]; omega
theorem bytesL_append (a b : List Pc) : bytesL (a ++ b) = bytesL a ++ bytesL b := by simp [bytesL]
theorem bytes_sub {ps qs : List Pc} (hs : qs.Sublist ps) : (bytesL qs).length ≤ (bytesL ps).length := by
 induction hs with
 | slnil => exact Nat.le_refl _
 | cons q hs ih => unfold bytesL at ih ⊢; rw [List.flatMap_cons, List.length_append]; omega
 | cons_cons q hs ih => unfold bytesL at ih ⊢; rw [List.flatMap_cons, List.flatMap_cons, List.length_append, List.length_append]; omega
theorem set_state {n : Nat} {T : TX} {h2 : Heap} {m : Nat} {root : Option Addr} {t' : Bt Part} {ps' : List Pc} (t : TextR S n h T) (hm : ∀ i, T.Z i → i < m) (hmh : n ≤ m ∧ m ≤ h.size)
  (nd : Nd (part S fun i => T.Z i ∨ m ≤ i) h root t') (ls : t'.list = ps'.map (·.1)) (pcs : ∀ q, q ∈ ps' → PcR h T q) (small : (bytesL ps').length ≤ 1099511627776)
  (o2 : Own n 1 h2 ⟨some T.p, 4, 4⟩ [i64v T.enc, i64v T.limit, .pointer root, slv T.ad]) (u2 : Upd ⟨some T.p, 4, 4⟩ h h2) :
  TextR S n h2 { T with cur := ⟨root, t', ps'⟩, Z := fun i => (T.Z i ∨ m ≤ i) ∧ i < h2.size } := by
 have hp : T.p.block < h.size := (t.lo _ t.zp).2
 have hpe : (⟨T.p.block, 0, none⟩ : Addr) = T.p := by
  obtain ⟨_, _, _, o4⟩ := t.ob
  obtain ⟨e0, e1, _⟩ := o4
  show (⟨T.p.block, 0, none⟩ : Addr) = ⟨T.p.block, T.p.off, T.p.spot⟩
  rw [e0, e1]
 have ku : ∀ b, (⟨some T.p, 4, 4⟩ : Sl).base = some b → ∃ k x, Sw.cell h ⟨b.block, 0, none⟩ = some (.int k x) := fun b hb => by
  cases hb
  have c := t.c0
  rw [add_zero'] at c
  rw [hpe]; exact ⟨_, _, c⟩
 have hs2 := u2.1
 have pc : ∀ {q}, PcR h T q → PcR h2 { T with cur := ⟨root, t', ps'⟩, Z := fun i => (T.Z i ∨ m ≤ i) ∧ i < h2.size } q := fun {q} pq =>
  ⟨pq.lst.blocks fun a ha hl => u2.2.1 _ hl fun b hb => by cases hb; exact fun e => (pq.blk a ha).2.1 e.symm, pq.ne, pq.is, pq.tag, pq.len, fun a ha => ⟨⟨.inl (pq.blk a ha).1, by have := (t.lo _ (pq.blk a ha).1).2; omega⟩, (pq.blk a ha).2⟩⟩
 have st : ∀ {s}, StR S h T s → StR S h2 { T with cur := ⟨root, t', ps'⟩, Z := fun i => (T.Z i ∨ m ≤ i) ∧ i < h2.size } s := fun {s} hs => ⟨part_mono (hs.nd.updK u2 ku) fun i hi hz => ⟨.inl hz, hi⟩, hs.ls, fun q hq => pc (hs.pcs q hq), hs.small⟩
 refine ⟨t.enc, t.lim, o2, t.ad.upd u2 fun a b ha hb => by cases hb; exact fun e => t.adp a ha e.symm, t.adp, t.adk, ⟨part_mono (nd.updK u2 ku) fun i hi hz => ⟨hz, hi⟩, ls, fun q hq => pc (pcs q hq), small⟩, fun s hs => st (t.kept s hs), ⟨.inl t.zp, show T.p.block < h2.size by omega⟩, fun b hb => ⟨.inl (t.za b hb), by have := (t.lo _ (t.za b hb)).2; omega⟩, fun i hi => ?_⟩
 obtain ⟨hi | hi, hlt⟩ := hi
 ·exact ⟨(t.lo i hi).1, hlt⟩
 ·exact ⟨by omega, hlt⟩
def leftL (enc : Int) (ps : List Pc) (i n : Nat) : List Pc := match ps[i]? with | some q => if 0 < n then [headPc enc q n] else [] | none => []
def rightL (enc : Int) (ps : List Pc) (j m : Nat) : List Pc := match ps[j]? with | some q => if m < (toks enc q.2).length then [tailPc enc q m] else [] | none => []
theorem c_replace (M : Meth0 P S) {n : Nat} {T : TX} {from_ to : Int} {put : Sl} {l : List Int} (t : TextR S n h T) (hn : n ≤ h.size) (hp : Lst .i64 h put l) (hf : ∀ a, a ∈ l → 0 < sizeF T.enc a) (hA : T.A.length + 4 * l.length ≤ 1099511627776)
  (hz : l ≠ [] → ∀ a, put.base = some a → ¬ T.Z a.block) (h0 : 0 ≤ from_) (h1 : from_ ≤ to) (h2 : to ≤ (els T.enc T.cur.ps).length) (hroom : (bytesL T.cur.ps).length + 4 * l.length ≤ 500000000000) :
  wp P (F_Text_replace S (some T.p) from_ to put) h fun tg vs h' => tg = 0 ∧ vs = [] ∧ Chg (wfoot T) h h' ∧ ∃ T', TextR S n h' T' ∧ Nxt T T' h.size ∧ T'.A = T.A ++ l.flatMap (putF T.enc) ∧
   els T.enc T'.cur.ps = (els T.enc T.cur.ps).take from_.toNat ++ l.map (fun a => (a, -1)) ++ (els T.enc T.cur.ps).drop to.toNat := by
 unfold F_Text_replace
 have htl : (toksL T.enc T.cur.ps).length = (els T.enc T.cur.ps).length := (els_len ..).symm
 have hpsl := pcs_le t.cur.pcs
 have hput := put_le hf
 refine wp_call (c_find t h0 (by omega)) fun ⟨(i' : Int), (n' : Int), _⟩ ha ea ⟨i, ni, hi, hni, fi⟩ => wp_call (c_find (t.ext ea) (by omega) (by omega)) fun ⟨(j' : Int), (m' : Int), _⟩ hb eb ⟨j, mj, hj, hmj, fj⟩ => ?_
 have hi : i' = i := hi
 have hni : n' = ni := hni
 have hj : j' = j := hj
 have hmj : m' = mj := hmj
 subst hi; subst hni; subst hj; subst hmj
 dsimp only
 have hij := find_mono fi fj h0 h1
 obtain ⟨eT, _, hniq⟩ := els_take fi h0
 obtain ⟨_, eD, hmjq⟩ := els_take fj (by omega : 0 ≤ to)
 have e0b := ea.trans eb
 have tb := t.ext e0b
 have O : ∀ Z, (part S Z).Ok P := fun Z => part_ok S Z
 have hil := fi.1
 have hjl := fj.1
 have hbT := t.cur.bytes
 have hleft : ∀ q, q ∈ leftL T.enc T.cur.ps i ni → PcR h T q := fun q hq => by
  unfold leftL at hq
  cases hqi : T.cur.ps[i]? with
  | none => rw [hqi] at hq; cases hq
  | some x =>
   rw [hqi] at hq
   dsimp only at hq
   split at hq
   ·rw [List.mem_singleton.1 hq]; exact (t.cur.pcs x (List.mem_of_getElem? hqi)).head (by omega) (hniq x hqi)
   ·cases hq
 refine wp_bind (fun tg vs h' => tg = 0 ∧ Ext hb h' ∧ ∃ s, vs = [slv s] ∧ OwnPs hb.size h' s ((leftL T.enc T.cur.ps i ni).map (·.1))) ?_ ?_
 ·cases hq : T.cur.ps[i]? with
  | none =>
   have hll : leftL T.enc T.cur.ps i ni = [] := by unfold leftL; rw [hq]
   refine s_root tb (wp_call (R := fun (y : Part × Bool × Unit) _ => y.1 = zP ∧ y.2.1 = false) (c_AtNo (O T.Z) tb.cur.nd (Nat.le_of_lt (tb.cur.room tb.lim.2)) (by omega) (.inr ?_)) fun ⟨(y : Part), (ok : Bool), _⟩ h5 e5 ⟨hy, hok⟩ => ?_)
   ·have h1 : T.cur.t.list.length ≤ i := by rw [t.cur.ls, List.length_map]; exact List.getElem?_eq_none_iff.1 hq
    show ((List.length T.cur.t.list : Nat) : Int) ≤ _
    omega
   ·have hok : ok = false := hok
    subst hok
    dsimp only
    refine s_newO (bs := PB) zP (by decide) fun h6 e6 o6 => s_stoO (bs := PB) y o6 (flatP _) fun h7 o7 u7 => ?_
    have e57 : Ext hb h7 := Upd.extN (e5.trans e6) u7 (by intro x hx; cases hx; exact e5.size)
    refine bind_bool False (s_ifF (s_ret ⟨rfl, Ext.refl _, false, rfl, Iff.intro (fun h => by cases h) False.elim⟩)) fun bb h8 e8 hb8 => wp_ifB (fun hx => (hb8.1 hx).elim) fun _ => s_ret ⟨rfl, e57.trans e8, ⟨none, 0, 0⟩, rfl, ?_⟩
    rw [hll]; exact Own.nil _ _ _
  | some q =>
   have hx : T.cur.t.list[((i : Int)).toNat]? = some q.1 := by rw [Int.toNat_natCast, t.cur.ls, List.getElem?_map, hq]; rfl
   refine s_root tb (wp_call (R := fun (y : Part × Bool × Unit) _ => y.1 = q.1 ∧ y.2.1 = true) (c_At (O T.Z) tb.cur.nd tb.cur.wf (Nat.le_of_lt (tb.cur.room tb.lim.2)) (by omega) hx) fun ⟨(y : Part), (ok : Bool), _⟩ h5 e5 ⟨hy, hok⟩ => ?_)
   have hok : ok = true := hok
   have hy : y = q.1 := hy
   subst hok; subst hy
   dsimp only
   refine s_newO (bs := PB) zP (by decide) fun h6 e6 o6 => s_stoO (bs := PB) q.1 o6 (flatP _) fun h7 o7 u7 => ?_
   have e57 : Ext hb h7 := Upd.extN (e5.trans e6) u7 (by intro x hx; cases hx; exact e5.size)
   have t7 := tb.ext e57
   have hqm := List.mem_of_getElem? hq
   refine bind_bool (0 < ni) (s_ifT (s_ret ⟨rfl, Ext.refl _, _, rfl, by rw [gtI_iff]; omega⟩)) fun bb h8 e8 hb8 => wp_ifB (fun hx => ?_) fun hx => ?_
   ·have hpos := hb8.1 hx
    have hll : leftL T.enc T.cur.ps i ni = [headPc T.enc q ni] := by unfold leftL; rw [hq]; dsimp only; rw [if_pos hpos]
    have t8 := t7.ext e8
    have pc := t8.cur.pcs q hqm
    refine wp_bind (fun tg vs h' => tg = 0 ∧ Ext h8 h' ∧ ∃ A : Addr, vs = [.pointer (some A)] ∧ OwnP h8.size h' A (headP T.enc q.1 q.2 ni)) ?_ ?_
    ·refine c_cutB M (fin := fun A B => .ret 0 [.pointer (some A)]) t8 (x := q.1) (bs := q.2) pc (o7.ext e8) (by omega) (by have := hniq q hq; omega) fun h9 A B e9 oA oB => s_ret ⟨rfl, e9, A, rfl, ?_⟩
     rw [Int.toNat_natCast] at oA; exact oA
    ·rintro tg vs h9 ⟨rfl, e9, A, rfl, oA⟩
     refine s_tag (wp_cast (tys := [.one .ptr]) (some A, ()) rfl ?_)
     dsimp only
     refine s_getO (bs := PB) oA ?_
     have e09 := (e57.trans e8).trans e9
     refine wp_push (n := hb.size) (old := []) (new := Bs.inj PB (headP T.enc q.1 q.2 ni)) (Own.nil _ _ _) e09.size rfl (flatP _) rfl (by decide) (by decide) fun r h10 a10 b10 u10 d10 => s_ret ⟨rfl, ?_, r, rfl, ?_⟩
     ·exact Upd.extN e09 u10 (by intro x hx; cases hx)
     ·rw [hll]
      show Own hb.size 7 h10 r (cP [headP T.enc q.1 q.2 ni])
      rw [cP_one]; simpa using a10
   ·have hll : leftL T.enc T.cur.ps i ni = [] := by unfold leftL; rw [hq]; dsimp only; rw [if_neg fun k => by rw [hb8.2 k] at hx; cases hx]
    refine s_ret ⟨rfl, e57.trans e8, ⟨none, 0, 0⟩, rfl, ?_⟩
    rw [hll]; exact Own.nil _ _ _
 rintro tg vs hc ⟨rfl, ec, s, rfl, os⟩
 refine s_tag (wp_cast (tys := [.one .sl]) (s, ()) rfl ?_)
 dsimp only
 have e0c := e0b.trans ec
 have tc := t.ext e0c
 have hnc : n ≤ hc.size := Nat.le_trans hn e0c.size
 refine wp_callW (c_fresh M tc hnc (hp.ext e0c) hf hA hz) fun tg vs h' hx => ?_
 obtain ⟨rfl, cd, g, rfl, F⟩ := hx
 refine ⟨rfl, (g.ps, ()), rfl, ?_⟩
 dsimp only
 have td := F.t
 have cT : Chg (wfoot T) h h' := Chg.pre e0c cd
 have hs0 : ∀ {x : Addr}, hb.size ≤ x.block → ¬ wfoot T x.block := fun {x} hx hw => by have := (tb.lo _ (wfoot_Z tb hw)).2; omega
 have osd : OwnPs hb.size h' s ((leftL T.enc T.cur.ps i ni).map (·.1)) := cd.own os fun x hx hw => hs0 (os.lt hx).1 hw
 have hll1 : (leftL T.enc T.cur.ps i ni).length ≤ 1 := by unfold leftL; split; split <;> simp; simp
 have hsl := OwnPs.len os
 rw [List.length_map] at hsl
 have hgl := OwnPs.len F.op
 rw [List.length_map] at hgl
 have hqn : g.qs.length ≤ 4 * l.length := by
  have h1 := pcs_le fun q hq => (F.pcs q hq).1
  rw [F.put] at h1; omega
 refine wp_append osd (Nat.le_trans ec.size cd.1) F.op.rd (cP_flat _) rfl (by show (s.len + g.ps.len) * 64 ≤ _; omega) (by omega) fun r1 he a1 b1 u1 d1 => ?_
 rw [← cP_append, ← List.map_append] at a1
 have ce : Chg (fun i => ∃ b, s.base = some b ∧ b.block = i) h' he := Chg.of_upd u1 fun x hx _ => ⟨x, hx, rfl⟩
 have snz : ∀ b, s.base = some b → ¬ g.Z b.block := fun b hb hz => by
  have h1 := (os.lt hb)
  rcases F.zn _ hz with hx | hx
  ·have := (tb.lo _ hx).2; omega
  ·omega
 have te : TextR S n he (T.at_ g) := td.chg ce fun i hi ⟨b, hb, e⟩ => snz b hb (e ▸ hi)
 have pcsE : ∀ q, q ∈ g.qs → PcR he (T.at_ g) q := fun q hq => (F.pcs q hq).1.chg ce fun i hi ⟨b, hb, e⟩ => snz b hb (e ▸ hi)
 have r1nz : ∀ b, r1.base = some b → ¬ g.Z b.block ∧ hb.size ≤ b.block := fun b hb => by
  refine ⟨fun hz => ?_, (a1.lt hb).1⟩
  rcases d1 b hb with hx | hx
  ·exact snz b hx hz
  ·have := (td.lo _ hz).2; omega
 refine wp_bind (fun tg vs h' => tg = 0 ∧ Chg (fun i => ∃ b, r1.base = some b ∧ b.block = i) he h' ∧ ∃ r2, vs = [slv r2] ∧ OwnPs hb.size h' r2 ((leftL T.enc T.cur.ps i ni ++ g.qs ++ rightL T.enc T.cur.ps j mj).map (·.1)) ∧ ∀ b, r2.base = some b → ¬ g.Z b.block) ?_ ?_
 ·cases hq : T.cur.ps[j]? with
  | none =>
   have hrr : rightL T.enc T.cur.ps j mj = [] := by unfold rightL; rw [hq]
   refine s_root (T := T.at_ g) te (wp_call (R := fun (y : Part × Bool × Unit) _ => y.1 = zP ∧ y.2.1 = false) (c_AtNo (O g.Z) te.cur.nd (Nat.le_of_lt (te.cur.room te.lim.2)) (by omega) (.inr ?_)) fun ⟨(y : Part), (ok : Bool), _⟩ h5 e5 ⟨hy, hok⟩ => ?_)
   ·have h1 : T.cur.t.list.length ≤ j := by rw [t.cur.ls, List.length_map]; exact List.getElem?_eq_none_iff.1 hq
    show ((List.length T.cur.t.list : Nat) : Int) ≤ _
    omega
   ·have hok : ok = false := hok
    subst hok
    dsimp only
    refine s_newO (bs := PB) zP (by decide) fun h6 e6 o6 => s_stoO (bs := PB) y o6 (flatP _) fun h7 o7 u7 => ?_
    have e57 : Ext he h7 := Upd.extN (e5.trans e6) u7 (by intro x hx; cases hx; exact e5.size)
    refine s_ifF (s_ret ⟨rfl, Chg.of_ext e57, r1, rfl, ?_, fun b hb => (r1nz b hb).1⟩)
    rw [hrr, List.append_nil]; exact a1.ext e57
  | some q =>
   have hx : T.cur.t.list[((j : Int)).toNat]? = some q.1 := by rw [Int.toNat_natCast, t.cur.ls, List.getElem?_map, hq]; rfl
   refine s_root (T := T.at_ g) te (wp_call (R := fun (y : Part × Bool × Unit) _ => y.1 = q.1 ∧ y.2.1 = true) (c_At (O g.Z) te.cur.nd te.cur.wf (Nat.le_of_lt (te.cur.room te.lim.2)) (by omega) hx) fun ⟨(y : Part), (ok : Bool), _⟩ h5 e5 ⟨hy, hok⟩ => ?_)
   have hok : ok = true := hok
   have hy : y = q.1 := hy
   subst hok; subst hy
   dsimp only
   refine s_newO (bs := PB) zP (by decide) fun h6 e6 o6 => s_stoO (bs := PB) q.1 o6 (flatP _) fun h7 o7 u7 => s_ifT ?_
   have e57 : Ext he h7 := Upd.extN (e5.trans e6) u7 (by intro x hx; cases hx; exact e5.size)
   have t7 := te.ext e57
   have hqm := List.mem_of_getElem? hq
   have pc := t7.cur.pcs q hqm
   have hmq := hmjq q hq
   refine wp_bind (fun tg vs h' => tg = 0 ∧ Ext h7 h' ∧ ∃ B : Addr, vs = [.pointer (some B)] ∧ OwnP h7.size h' B (tailP T.enc q.1 q.2 mj)) ?_ ?_
   ·refine c_cutB M (T := T.at_ g) (fin := fun A B => .ret 0 [.pointer (some B)]) t7 (x := q.1) (bs := q.2) pc o7 (by omega) (show ((mj : Nat) : Int) ≤ ((toks T.enc q.2).length : Nat) by omega) fun h9 A B e9 oA oB => s_ret ⟨rfl, e9, B, rfl, ?_⟩
    rw [Int.toNat_natCast] at oB; exact oB
   ·rintro tg vs h9 ⟨rfl, e9, B, rfl, oB⟩
    refine s_tag (wp_cast (tys := [.one .ptr]) (some B, ()) rfl ?_)
    dsimp only
    have e09 := e57.trans e9
    have okt := okT_toks (enc := T.enc) (hbT q hqm)
    have hcell : Sw.cell h9 ((B.add 2).add 0) = some (i64v ((toks T.enc q.2).drop mj).length) := by
     rw [add_zero']
     have := cells_iff.1 oB.cells 2 _ rfl
     rw [this]
     show some (Value.int .i64 (sumT ((toks T.enc q.2).drop mj)).1) = _
     rw [(sumT_is (okt.drop mj)).1]
    refine wp_grd rfl (wp_grd rfl (wp_load1 (b := .int .i64) ((B.add 2).add 0) _ rfl hcell (wp_ifB (fun hx => ?_) fun hx => ?_)))
    ·rw [gtI_iff, List.length_drop] at hx
     have hrr : rightL T.enc T.cur.ps j mj = [tailPc T.enc q mj] := by unfold rightL; rw [hq]; dsimp only; rw [if_pos (by omega)]
     refine s_getO (bs := PB) oB ?_
     have hr1 := OwnPs.len a1
     rw [List.length_map, List.length_append] at hr1
     refine wp_push (n := hb.size) (new := Bs.inj PB (tailP T.enc q.1 q.2 mj)) (a1.ext e09) (Nat.le_trans (Nat.le_trans ec.size cd.1) (Nat.le_trans ce.1 e09.size)) rfl (flatP _) rfl (by show (r1.len + 1) * 64 ≤ _; omega) (by omega) fun r2 h10 a10 b10 u10 d10 => s_ret ⟨rfl, ?_, r2, rfl, ?_, fun b hb => ?_⟩
     ·exact (Chg.of_ext e09).trans (Chg.of_upd u10 fun x hx _ => ⟨x, hx, rfl⟩) fun i _ x => x
     ·rw [hrr, List.map_append]
      show Own hb.size 7 h10 r2 (cP (_ ++ [tailP T.enc q.1 q.2 mj]))
      rw [cP_append, cP_one]; exact a10
     ·rcases d10 b hb with hx | hx
      ·exact (r1nz b hx).1
      ·intro hz; have := (te.lo _ hz).2; have := e09.size; omega
    ·rw [gtI_not, List.length_drop] at hx
     have hrr : rightL T.enc T.cur.ps j mj = [] := by unfold rightL; rw [hq]; dsimp only; rw [if_neg (by omega)]
     refine s_ret ⟨rfl, Chg.of_ext e09, r1, rfl, ?_, fun b hb => (r1nz b hb).1⟩
     rw [hrr, List.append_nil]; exact a1.ext e09
 rintro tg vs hf ⟨rfl, cf, r2, rfl, a2, z2⟩
 refine s_tag (wp_cast (tys := [.one .sl]) (r2, ()) rfl ?_)
 dsimp only
 have tf : TextR S n hf (T.at_ g) := te.chg cf fun i hi ⟨b, hb, e⟩ => (r1nz b hb).1 (e ▸ hi)
 have pcsF : ∀ q, q ∈ g.qs → PcR hf (T.at_ g) q := fun q hq => (pcsE q hq).chg cf fun i hi ⟨b, hb, e⟩ => (r1nz b hb).1 (e ▸ hi)
 have hright : ∀ q, q ∈ rightL T.enc T.cur.ps j mj → PcR hf (T.at_ g) q := fun q hq => by
  unfold rightL at hq
  cases hqi : T.cur.ps[j]? with
  | none => rw [hqi] at hq; cases hq
  | some x =>
   rw [hqi] at hq
   dsimp only at hq
   split at hq
   ·rename_i hlt
    rw [List.mem_singleton.1 hq]
    exact PcR.tail (T := T.at_ g) (tf.cur.pcs x (List.mem_of_getElem? hqi)) hlt
   ·cases hq
 have hleftF : ∀ q, q ∈ leftL T.enc T.cur.ps i ni → PcR hf (T.at_ g) q := fun q hq => by
  unfold leftL at hq
  cases hqi : T.cur.ps[i]? with
  | none => rw [hqi] at hq; cases hq
  | some x =>
   rw [hqi] at hq
   dsimp only at hq
   split at hq
   ·rename_i hlt
    rw [List.mem_singleton.1 hq]
    exact PcR.head (T := T.at_ g) (tf.cur.pcs x (List.mem_of_getElem? hqi)) hlt (hniq x hqi)
   ·cases hq
 have hmid : ∀ q, q ∈ leftL T.enc T.cur.ps i ni ++ g.qs ++ rightL T.enc T.cur.ps j mj → PcR hf (T.at_ g) q := fun q hq => by
  rcases List.mem_append.1 hq with hq | hq
  ·rcases List.mem_append.1 hq with hq | hq
   ·exact hleftF q hq
   ·exact pcsF q hq
  ·exact hright q hq
 have hsize : T.cur.t.list.length = T.cur.ps.length := by rw [t.cur.ls, List.length_map]
 refine s_root (T := T.at_ g) tf (s_root (T := T.at_ g) tf (wp_call (R := fun (x : Int × Unit) _ => x.1 = ((T.cur.t.list.length : Nat) : Int)) (Any.c_Size (I := part S g.Z) tf.cur.nd) fun ⟨(sz : Int), _⟩ hg eg hsz => ?_))
 have hsz : sz = _ := hsz
 rw [hsize] at hsz
 subst hsz
 dsimp only
 have tg := tf.ext eg
 refine s_ckC tg.c2 ?_
 rw [add_ok (by omega) (by omega), minI_eq]
 have hJ : min ((j : Int) + 1) (T.cur.ps.length : Int) = ((min (j + 1) T.cur.ps.length : Nat) : Int) := by omega
 rw [hJ]
 let Z2 : Nat → Prop := fun i => g.Z i ∨ hg.size ≤ i
 have hfr : Fresh (part S Z2) hg := fun i hi => .inr hi
 have nd2 : Nd (part S Z2) hg T.cur.root T.cur.t := part_mono tg.cur.nd fun i _ hi => .inl hi
 have hwM : ∀ x, x ∈ (leftL T.enc T.cur.ps i ni ++ g.qs ++ rightL T.enc T.cur.ps j mj).map (·.1) → VS (wtP x) (sumP x) := fun x hx => by
  obtain ⟨q, hq, rfl⟩ := List.mem_map.1 hx
  exact (hmid q hq).wt.2
 have its : Its (part S Z2) hg r2 ((leftL T.enc T.cur.ps i ni ++ g.qs ++ rightL T.enc T.cur.ps j mj).map (·.1)) := its_own (a2.ext eg) hwM
 have hWm := W_ps hmid
 have hmb : (bytesL (leftL T.enc T.cur.ps i ni ++ g.qs ++ rightL T.enc T.cur.ps j mj)).length ≤ 131072 + 4 * l.length := by
  have h1 : (bytesL (leftL T.enc T.cur.ps i ni)).length ≤ 65536 := by
   unfold leftL
   split
   ·rename_i q hq
    split
    ·have := (t.cur.pcs q (List.mem_of_getElem? hq)).len
     show (bytesL [headPc T.enc q ni]).length ≤ _
     unfold bytesL headPc; simp only [List.flatMap_cons, List.flatMap_nil, List.append_nil, List.length_take]; omega
    ·simp [bytesL]
   ·simp [bytesL]
  have h2 : (bytesL (rightL T.enc T.cur.ps j mj)).length ≤ 65536 := by
   unfold rightL
   split
   ·rename_i q hq
    split
    ·have := (t.cur.pcs q (List.mem_of_getElem? hq)).len
     show (bytesL [tailPc T.enc q mj]).length ≤ _
     unfold bytesL tailPc; simp only [List.flatMap_cons, List.flatMap_nil, List.append_nil, List.length_drop]; omega
    ·simp [bytesL]
   ·simp [bytesL]
  rw [bytesL_append, bytesL_append, List.length_append, List.length_append, F.put]; omega
 have hmt := (toksL_le (enc := T.enc) fun q hq => (hmid q hq).bytes).1
 have hfew := (t.cur.few t.lim.2).2
 have hWr : (part S Z2).W T.cur.t.list + (part S Z2).W ((leftL T.enc T.cur.ps i ni ++ g.qs ++ rightL T.enc T.cur.ps j mj).map (·.1)) ≤ 4398046511104 := by
  have h1 : (part S Z2).W T.cur.t.list ≤ 1099511627776 := hfew
  have h2 : (part S Z2).W ((leftL T.enc T.cur.ps i ni ++ g.qs ++ rightL T.enc T.cur.ps j mj).map (·.1)) = (toksL T.enc (leftL T.enc T.cur.ps i ni ++ g.qs ++ rightL T.enc T.cur.ps j mj)).length := hWm
  rw [h2]
  refine Nat.le_trans (Nat.add_le_add h1 (Nat.le_trans hmt hmb)) ?_
  omega
 have hrep := c_Replace (O Z2) (i := (i : Int)) (j := ((min (j + 1) T.cur.ps.length : Nat) : Int)) nd2 its tg.cur.wf (by omega) (by omega) (by show _ ≤ ((T.cur.t.list.length : Nat) : Int); omega) hWr hfr
 rw [← g_Replace S Z2] at hrep
 refine wp_call (R := fun (y : TR × Int × Unit) h' => y.2.1 = 0 ∧ ∃ t' : Bt Part, Nd (part S Z2) h' y.1.1 t' ∧ t'.list = T.cur.t.list.take ((i : Int)).toNat ++ (leftL T.enc T.cur.ps i ni ++ g.qs ++ rightL T.enc T.cur.ps j mj).map (·.1) ++ T.cur.t.list.drop (((min (j + 1) T.cur.ps.length : Nat) : Int)).toNat) (Gives.mono hrep fun y h' e ⟨h1, t', h2, h3, _⟩ => ⟨h1, t', h2, h3⟩) fun ⟨⟨(root' : Option Addr), _⟩, (er : Int), _⟩ hh eh ⟨_, t', nd', hl'⟩ => ?_
 have nd' : Nd (part S Z2) hh root' t' := nd'
 dsimp only
 have th := tg.ext eh
 refine wp_grd rfl (wp_grd rfl (s_setC' (.pointer root') (show Own n 1 hh ⟨some T.p, 4, 4⟩ [i64v T.enc, i64v T.limit, .pointer T.cur.root, slv g.ad] from th.ob) (by simp) rfl fun hk ok uk => s_ret ⟨rfl, rfl, ?_, ?_⟩))
 ·have c1 : Chg (wfoot T) h hf := (cT.trans ce fun i hi ⟨b, hb, e⟩ => by have := (os.lt hb).1; have := e0b.size; omega).trans cf fun i hi ⟨b, hb, e⟩ => by have := (r1nz b hb).2; have := e0b.size; omega
  exact (c1.ext (eg.trans eh)).trans (upd_chg uk) fun i _ e => .inl e
 ·have ok : Own n 1 hk ⟨some T.p, 4, 4⟩ [i64v T.enc, i64v T.limit, .pointer root', slv g.ad] := ok
  have hdJ : T.cur.ps.drop (min (j + 1) T.cur.ps.length) = T.cur.ps.drop (j + 1) := by
   by_cases hx : j + 1 ≤ T.cur.ps.length
   ·rw [Nat.min_eq_left hx]
   ·rw [Nat.min_eq_right (by omega), List.drop_length, List.drop_of_length_le (by omega)]
  have hls : t'.list = (T.cur.ps.take i ++ (leftL T.enc T.cur.ps i ni ++ g.qs ++ rightL T.enc T.cur.ps j mj) ++ T.cur.ps.drop (j + 1)).map (·.1) := by
   rw [hl', t.cur.ls, Int.toNat_natCast, Int.toNat_natCast, ← List.map_take, ← List.map_drop, hdJ]
   simp only [List.map_append]
  have hb1 := bytes_sub (List.take_sublist i T.cur.ps)
  have hb2 := bytes_sub (List.drop_sublist (j + 1) T.cur.ps)
  have hs := set_state (T := T.at_ g) (ps' := T.cur.ps.take i ++ (leftL T.enc T.cur.ps i ni ++ g.qs ++ rightL T.enc T.cur.ps j mj) ++ T.cur.ps.drop (j + 1)) th (m := hg.size) (fun i hi => (tg.lo i hi).2) ⟨by have := e0c.size; have := cd.1; have := ce.1; have := cf.1; have := eg.size; omega, eh.size⟩ nd' hls
   (fun q hq => by
    rcases List.mem_append.1 hq with hq | hq
    ·rcases List.mem_append.1 hq with hq | hq
     ·exact th.cur.pcs q (List.mem_of_mem_take hq)
     ·exact (hmid q hq).chg (Chg.of_ext (F := fun _ => False) (eg.trans eh)) fun _ _ x => x
    ·exact th.cur.pcs q (List.mem_of_mem_drop hq))
   (by rw [bytesL_append, bytesL_append, List.length_append, List.length_append]; omega) ok uk
  refine ⟨_, hs, ⟨rfl, rfl, rfl, rfl, fun i hi => ⟨.inl (F.zm i hi), ?_⟩, fun i hi => ?_, fun b hb => ?_⟩, F.all, ?_⟩
  ·have h1 := (t.lo i hi).2; have := e0c.size; have := cd.1; have := ce.1; have := cf.1; have := eg.size; have := eh.size; have := uk.1; omega
  ·rcases hi.1 with hx | hx
   ·exact (F.zn i hx).imp id fun h => by have := e0c.size; omega
   ·right; have := e0c.size; have := cd.1; have := ce.1; have := cf.1; have := eg.size; omega
  ·exact (F.adc b hb).imp id fun h => by have := e0c.size; omega
  ·show els T.enc (T.cur.ps.take i ++ (leftL T.enc T.cur.ps i ni ++ g.qs ++ rightL T.enc T.cur.ps j mj) ++ T.cur.ps.drop (j + 1)) = _
   have hq1 : els T.enc g.qs = l.map fun a => (a, -1) := by
    rw [els_new fun q hq => (F.pcs q hq).2, F.tks, List.map_map]; rfl
   have hl1 : els T.enc (leftL T.enc T.cur.ps i ni) = (match T.cur.ps[i]? with | some q => (elsP T.enc q).take ni | none => []) := by
    unfold leftL
    cases hq : T.cur.ps[i]? with
    | none => rfl
    | some q =>
     dsimp only
     by_cases hx : 0 < ni
     ·rw [if_pos hx, els_one, elsP_head (hbT q (List.mem_of_getElem? hq)) (hniq q hq)]
     ·rw [if_neg hx, show ni = 0 by omega]; simp [els]
   have hr1 : els T.enc (rightL T.enc T.cur.ps j mj) = (match T.cur.ps[j]? with | some q => (elsP T.enc q).drop mj | none => []) := by
    unfold rightL
    cases hq : T.cur.ps[j]? with
    | none => rfl
    | some q =>
     dsimp only
     by_cases hx : mj < (toks T.enc q.2).length
     ·rw [if_pos hx, els_one, elsP_tail (hbT q (List.mem_of_getElem? hq)) (hmjq q hq)]
     ·rw [if_neg hx, List.drop_of_length_le (by rw [elsP_len]; omega)]; simp [els]
   rw [els_append, els_append, els_append, els_append, hq1, hl1, hr1, eT, eD]
   simp only [List.append_assoc]
   all_goals rfl
end Go.Sw.Piece

set_option linter.unusedVariables false
set_option linter.unusedSimpArgs false
set_option maxRecDepth 100000
namespace Go.Sw.Piece
open Go.Sw.Any Go.Sw.Codec
open Go.Sw.Tree (iv s_putAll s_newP s_getP s_getT s_putP eqI_self Placed cell_own wp_whileG minI_eq)
variable {P : Program} {S : Ids} {h : Heap} {Q : Nat → List Value → Heap → Prop}
abbrev El := Int × Int
def one1 (E : List El) (e : EdD) : List El := E.take e.1.toNat ++ e.2.2.1.2.map (fun a => (a, -1)) ++ E.drop e.2.1.toNat
def allE (E : List El) (es : List EdD) : List El := es.foldr (fun e E => one1 E e) E
theorem allE_cons (E : List El) (e : EdD) (es : List EdD) : allE E (e :: es) = one1 (allE E es) e := rfl
def blen (enc : Int) (E : List El) : Nat := ((E.map (·.1)).flatMap (putF enc)).length
theorem blen_append (enc : Int) (a b : List El) : blen enc (a ++ b) = blen enc a + blen enc b := by simp [blen]
theorem blen_state {T : TX} {s : St} (r : StR S h T s) (he : known T.enc) : blen T.enc (els T.enc s.ps) = (bytesL s.ps).length := by
 unfold blen; rw [← (toksL_els he r.bytes).2.1]
theorem blen_one {enc : Int} {E : List El} {e : EdD} (hf : fitsE enc e.2.2.1.2) (h0 : 0 ≤ e.1) (h1 : e.1 ≤ e.2.1) : blen enc (one1 E e) ≤ blen enc E + 4 * e.2.2.1.2.length := by
 unfold one1
 have h2 := blen_append enc (E.take e.1.toNat) (E.drop e.1.toNat)
 rw [List.take_append_drop] at h2
 have h3 := blen_append enc ((E.drop e.1.toNat).take (e.2.1.toNat - e.1.toNat)) ((E.drop e.1.toNat).drop (e.2.1.toNat - e.1.toNat))
 rw [List.take_append_drop, List.drop_drop, show e.1.toNat + (e.2.1.toNat - e.1.toNat) = e.2.1.toNat by omega] at h3
 have h4 : blen enc (e.2.2.1.2.map fun a => ((a, -1) : El)) ≤ 4 * e.2.2.1.2.length := by
  have := (put_le hf).2
  unfold blen
  rw [List.map_map]
  have e2 : (List.map ((fun x : El => x.1) ∘ fun a => ((a, -1) : El)) e.2.2.1.2) = e.2.2.1.2 := by
   conv => rhs; rw [← List.map_id e.2.2.1.2]
   rfl
  rw [e2]; exact this
 rw [blen_append, blen_append]; omega
theorem puts_split {es : List EdD} {i : Nat} {e : EdD} (hi : es[i]? = some e) : (putsOf (es.drop i)).length = e.2.2.1.2.length + (putsOf (es.drop (i + 1))).length := by
 have hlt := (List.getElem?_eq_some_iff.1 hi).1
 have he := (List.getElem?_eq_some_iff.1 hi).2
 rw [List.drop_eq_getElem_cons hlt, he]; simp [putsOf]
theorem puts_drop_le (es : List EdD) (i : Nat) : (putsOf (es.drop i)).length ≤ (putsOf es).length := by
 have : putsOf es = putsOf (es.take i) ++ putsOf (es.drop i) := by unfold putsOf; rw [← List.flatMap_append, List.take_append_drop]
 rw [this, List.length_append]; omega
structure ChangeR (S : Ids) (n : Nat) (T : TX) (h0 h : Heap) (es : List EdD) (r : Int) (T' : TX) : Prop where
 ref : RefR T.enc T.limit (toksL T.enc T.cur.ps) es r
 t : TextR S n h T'
 nx : Nxt T T' h0.size
 els : els T.enc T'.cur.ps = if r = 0 then allE (els T.enc T.cur.ps) es else els T.enc T.cur.ps
 len : T'.A.length ≤ T.A.length + 4 * (putsOf es).length
theorem c_Change (M : Meth0 P S) {n : Nat} {T : TX} {x : Eds} (t : TextR S n h T) (hn : n ≤ h.size) (hok : ∀ h', Chg (wfoot T) h h' → (Sh.list EdSh).ok h' x) (hz : ∀ e, e ∈ x.2 → e.2.2.1.2 ≠ [] → ∀ a, e.2.2.1.1.base = some a → ¬ T.Z a.block)
  (hA : T.A.length + 4 * (putsOf x.2).length ≤ 400000000000) (hsm : (bytesL T.cur.ps).length ≤ T.limit) :
  wp P (F_Text_Change S (some T.p) x.1) h fun tg vs h' => tg = 0 ∧ Chg (wfoot T) h h' ∧ ∃ r T', vs = [i64v r] ∧ ChangeR S n T h h' x.2 r T' := by
 unfold F_Text_Change
 have ho := hok h (Chg.refl _ _)
 have hxl := ho.len
 have hcap := ho.2.1
 have hmax := ho.2.2.1
 refine wp_call (c_refuse M t ho (by omega) hsm) fun ⟨(r : Int), _⟩ h1 e1 hr => ?_
 have hr : RefR T.enc T.limit (toksL T.enc T.cur.ps) x.2 r := hr
 dsimp only
 refine wp_ifB (fun hc => ?_) fun hc => ?_
 ·rw [neI_iff] at hc
  exact s_ret ⟨rfl, Chg.of_ext e1, r, T, rfl, hr, t.ext e1, Nxt.refl _ _, by rw [if_neg hc], by omega⟩
 rw [neI_not] at hc
 subst hc
 obtain ⟨hmany, hpl, hfit, _⟩ : x.2.length ≤ 70000 ∧ Plc (toksL T.enc T.cur.ps).length 0 x.2 ∧ fitsE T.enc (putsOf x.2) ∧ True := by
  cases hr with
  | ok a b c d => exact ⟨a, b, c, trivial⟩
 have hlen : (toksL T.enc T.cur.ps).length = (els T.enc T.cur.ps).length := (els_len ..).symm
 have hbl := blen_state t.cur t.enc
 have hlim := t.lim
 have hlenI : subI .i64 (natI x.1.len) 1 = (x.2.length : Int) - 1 := by rw [natI_def, hxl, sub_ok (by omega) (by omega)]
 rw [hlenI]
 refine wp_whileG (G := Nat × TX) (fun g (s : Int × Unit) h' => s.1 = (g.1 : Int) - 1 ∧ g.1 ≤ x.2.length ∧ Chg (wfoot T) h h' ∧ TextR S n h' g.2 ∧ Nxt T g.2 h.size ∧ els T.enc g.2.cur.ps = allE (els T.enc T.cur.ps) (x.2.drop g.1) ∧
   lastTo 0 (x.2.take g.1) ≤ (els T.enc g.2.cur.ps).length ∧ (bytesL g.2.cur.ps).length ≤ (bytesL T.cur.ps).length + 4 * (putsOf (x.2.drop g.1)).length ∧ g.2.A.length ≤ T.A.length + 4 * (putsOf (x.2.drop g.1)).length) (fun g => g.1)
  (fun tg vs h' => tg = 2 ∧ vs = [] ∧ Chg (wfoot T) h h' ∧ ∃ T', TextR S n h' T' ∧ Nxt T T' h.size ∧ els T.enc T'.cur.ps = allE (els T.enc T.cur.ps) x.2 ∧ T'.A.length ≤ T.A.length + 4 * (putsOf x.2).length)
  (x.2.length, T) ⟨rfl, Nat.le_refl _, Chg.of_ext e1, t.ext e1, Nxt.refl _ _, by rw [List.drop_length]; rfl, ?_, Nat.le_add_right _ _, Nat.le_add_right _ _⟩ ?_ ?_
 ·rw [List.take_length, ← hlen]
  have : ∀ (es : List EdD) (a L : Int), a ≤ L → Plc L a es → lastTo a es ≤ L := by
   intro es
   induction es with
   | nil => intro a L h _; exact h
   | cons e es ih => intro a L h ⟨_, _, h3, h4⟩; exact ih _ _ h3 h4
  exact this _ _ _ (by omega) hpl
 ·rintro ⟨k, T1⟩ ⟨(s : Int), u⟩ h2 ⟨hs, hk, c2, t2, nx, hE, hlo, hby, hA1⟩
  dsimp only at hs hk t2 nx hE hlo hby hA1 ⊢
  subst hs
  refine wp_ifB (fun hc => ?_) fun hc => ?_
  ·rw [geI_iff] at hc
   obtain ⟨i, rfl⟩ : ∃ i, k = i + 1 := ⟨k - 1, by omega⟩
   have hi : ((i + 1 : Nat) : Int) - 1 = (i : Int) := by omega
   rw [hi]
   obtain ⟨e, hie⟩ : ∃ e, x.2[i]? = some e := ⟨x.2[i]'(by omega), List.getElem?_eq_getElem (by omega)⟩
   have hem := List.mem_of_getElem? hie
   have hpe := hpl.at hie
   have hlo0 := lastTo_lo (hpl.take i)
   have htk : x.2.take (i + 1) = x.2.take i ++ [e] := by rw [List.take_add_one, hie]; rfl
   rw [htk, lastTo_snoc] at hlo
   have hdr : x.2.drop i = e :: x.2.drop (i + 1) := by
    have hlt := (List.getElem?_eq_some_iff.1 hie).1
    have he := (List.getElem?_eq_some_iff.1 hie).2
    rw [List.drop_eq_getElem_cons hlt, he]
   have hps := puts_split hie
   have hpd := puts_drop_le x.2 i
   have hfe : fitsE T.enc e.2.2.1.2 := fun a ha => hfit a (by unfold putsOf; exact List.mem_flatMap.2 ⟨e, hem, ha⟩)
   have hsucc : allE (els T.enc T.cur.ps) (x.2.drop i) = one1 (els T.enc T1.cur.ps) e := by rw [hdr, allE_cons, ← hE]
   have hlo' : lastTo 0 (x.2.take i) ≤ (one1 (els T.enc T1.cur.ps) e).length := by
    unfold one1; rw [List.length_append, List.length_append, List.length_take]; omega
   refine wp_bind (fun tg vs h' => tg = 0 ∧ vs = [] ∧ Chg (wfoot T) h h' ∧ ∃ T2, TextR S n h' T2 ∧ Nxt T T2 h.size ∧ els T.enc T2.cur.ps = allE (els T.enc T.cur.ps) (x.2.drop i) ∧ (bytesL T2.cur.ps).length ≤ (bytesL T.cur.ps).length + 4 * (putsOf (x.2.drop i)).length ∧ T2.A.length ≤ T.A.length + 4 * (putsOf (x.2.drop i)).length) ?_ ?_
   ·refine s_edit (hok h2 c2) hie fun a h3 e3 _ o3 => ?_
    have l0 : ∀ {K : Int → Prog} {Q : Nat → List Value → Heap → Prop} {h'}, Ext h3 h' → wp P (K e.1) h' Q → wp P (.load (.one (.int .i64)) (shiftTo (some a) 0) K) h' Q := fun q hk => wp_load1 (b := .int .i64) _ e.1 rfl (cells_iff.1 (o3.ext q).cells 0 _ rfl) hk
    have l1 : ∀ {K : Int → Prog} {Q : Nat → List Value → Heap → Prop} {h'}, Ext h3 h' → wp P (K e.2.1) h' Q → wp P (.load (.one (.int .i64)) (shiftTo (some a) 1) K) h' Q := fun q hk => wp_load1 (b := .int .i64) _ e.2.1 rfl (cells_iff.1 (o3.ext q).cells 1 _ rfl) hk
    have l2 : ∀ {K : Sl → Prog} {Q : Nat → List Value → Heap → Prop} {h'}, Ext h3 h' → wp P (K e.2.2.1.1) h' Q → wp P (.load (.one .sl) (shiftTo (some a) 2) K) h' Q := fun q hk => wp_load1 (b := .sl) _ e.2.2.1.1 rfl (cells_iff.1 (o3.ext q).cells 2 _ rfl) hk
    have hlst : ∀ {h'}, Chg (wfoot T) h h' → Lst .i64 h' e.2.2.1.1 e.2.2.1.2 := fun c => Sh.lst ((hok _ c).el hie).2.2.1
    have hll := (hlst c2).len
    have c3 := c2.ext e3
    have E3 := Ext.refl h3
    refine bind_bool (e.1 < e.2.1 ∨ 0 < e.2.2.1.2.length) ?_ fun bb h4 e4 hb => wp_ifB (fun hx => ?_) fun hx => ?_
    ·refine l0 E3 (l1 E3 (wp_ifB (fun hx => s_ret ⟨rfl, Ext.refl _, true, rfl, ?_⟩) fun hx => l2 E3 (s_ret ⟨rfl, Ext.refl _, _, rfl, ?_⟩)))
     ·rw [ltI_iff] at hx; exact Iff.intro (fun _ => .inl hx) fun _ => rfl
     ·rw [ltI_not] at hx; rw [gtI_iff, natI_def]; omega
    ·have c4 := c3.ext e4
     have t4 := (t2.ext e3).ext e4
     have hp1 : T1.p = T.p := nx.p
     have he1 : T1.enc = T.enc := nx.enc
     refine l0 e4 (l1 e4 (l2 e4 ?_))
     rw [← hp1]
     refine wp_callW (c_replace M (T := T1) t4 (Nat.le_trans hn c4.1) (hlst c4) (by rw [he1]; exact hfe) (by omega) (fun hne b hb hzb => ?_) (by omega) hpe.2.1 (by rw [he1]; omega) (by omega)) fun tg vs h5 hx5 => ?_
     ·have h0 : b.block < h.size := by
       have hl0 := hlst (Chg.refl _ _)
       obtain ⟨y, l', hyl⟩ : ∃ y l', e.2.2.1.2 = y :: l' := by
        cases hh : e.2.2.1.2 with
        | nil => exact absurd hh hne
        | cons y l' => exact ⟨y, l', rfl⟩
       obtain ⟨b', eb, cb⟩ := hl0.rd.at (i := 0) (by rw [hyl]; simp)
       rw [hb] at eb; cases eb
       have := cell_lt cb
       rw [add_block] at this; exact this
      rcases nx.zn _ hzb with hy | hy
      ·exact hz e hem hne b hb hy
      ·omega
     ·obtain ⟨rfl, rfl, c5, T2, t5, nx5, hA5, hE5⟩ := hx5
      refine ⟨rfl, (), rfl, s_ret ⟨rfl, rfl, ?_, T2, t5, nx.trans nx5 c4.1, ?_, ?_, ?_⟩⟩
      ·exact c4.trans c5 fun i hi hw => (nx.foot hw).elim id fun h => by omega
      ·rw [hsucc]; rw [he1] at hE5; exact hE5
      ·have h6 := blen_state t5.cur t5.enc
       have h7 := blen_state t2.cur t2.enc
       rw [nx5.enc, he1] at h6
       rw [he1] at h7 hE5
       rw [← h6, hE5]
       have h8 := blen_one (E := els T.enc T1.cur.ps) hfe (by omega) hpe.2.1
       unfold one1 at h8
       rw [h7] at h8
       omega
      ·rw [hA5, List.length_append]
       have := (put_le hfe).2
       rw [he1]; omega
    ·have hno : ¬ (e.1 < e.2.1 ∨ 0 < e.2.2.1.2.length) := fun k => by rw [hb.2 k] at hx; cases hx
     have hnil : e.2.2.1.2 = [] := List.eq_nil_of_length_eq_zero (by omega)
     refine s_ret ⟨rfl, rfl, c3.ext e4, T1, (t2.ext e3).ext e4, nx, ?_, by omega, by omega⟩
     rw [hsucc]
     unfold one1
     rw [hnil, show e.2.1 = e.1 by omega]
     simp
   ·rintro tg vs h3 ⟨rfl, rfl, c3, T2, t3, nx3, hE3, hb3, hA3⟩
    refine s_tag (s_cast0 ?_)
    rw [sub_ok (by omega) (by omega)]
    exact s_ret ⟨fun _ => ⟨(i, T2), ((i : Int) - 1, ()), rfl, ⟨rfl, by dsimp only; omega, c3, t3, nx3, hE3, by dsimp only; rw [hE3, hsucc]; exact hlo', hb3, hA3⟩, by dsimp only; omega⟩, fun h => absurd rfl h⟩
  ·rw [geI_not] at hc
   have : k = 0 := by omega
   subst this
   exact s_ret ⟨fun h => absurd h (by decide), fun _ => ⟨rfl, rfl, c2, T1, t2, nx, hE, hA1⟩⟩
 ·rintro tg vs h2 ⟨rfl, rfl, c2, T1, t2, nx, hE, hA1⟩
  exact s_tag (s_cast0 (s_ret ⟨rfl, c2, 0, T1, rfl, hr, t2, nx, by rw [if_pos rfl]; exact hE, hA1⟩))
end Go.Sw.Piece

set_option linter.unusedVariables false
set_option linter.unusedSimpArgs false
set_option maxRecDepth 100000
namespace Go.Sw.Piece
open Go.Sw.Any Go.Sw.Codec
open Go.Sw.Tree (iv s_putAll s_newP s_getP s_getT s_putP eqI_self Placed cell_own wp_whileG minI_eq)
variable {P : Program} {S : Ids} {h : Heap} {Q : Nat → List Value → Heap → Prop}
structure Cl (P : Program) (S : Ids) : Prop where
 it : ∀ (y : Value) (a b : Option Addr), Dyn P (.func (.func S.f_Tree_part_Items_1) #[] #[.pointer a, .pointer b]) [y] (F_Tree_part_Items_1 S y a b)
 wk : ∀ (p : Option Addr) (i : Int) (a b : Option Addr), Dyn P (.func (.func S.f_Tree_part_Items_1_1) #[] #[.pointer a, .pointer b]) [.pointer p, iv i] (F_Tree_part_Items_1_1 S p i a b)
 atoms : ∀ (a t : Int) (p : Option Addr), Dyn P (.func (.func S.f_Text_Atoms_1) #[] #[.pointer p]) [iv a, iv t] (F_Text_Atoms_1 S a t p)
 tags : ∀ (a t : Int) (p : Option Addr), Dyn P (.func (.func S.f_Text_Tags_1) #[] #[.pointer p]) [iv a, iv t] (F_Text_Tags_1 S a t p)
 chunks : ∀ (y : Value) (a b : Option Addr), Dyn P (.func (.func S.f_Text_Chunks_1) #[] #[.pointer a, .pointer b]) [y] (F_Text_Chunks_1 S y a b)
theorem Cl.clos (C : Cl P S) (Z : Nat → Prop) : Clos P (part S Z) := ⟨fun y a b => C.it y a b, fun p i a b => C.wk p i a b⟩
structure ItR (h : Heap) (root : Option Addr) (i : Int) (a b : Addr) : Prop where
 ca : Sw.cell h a = some (.pointer root)
 cb : Sw.cell h b = some (iv i)
theorem s_copyAt {n : Nat} {k : IntKind} {s x : Sl} {pre mid post l : List Int} {i : Nat} {K : Nat → Prog} (ho : OwnL n k h s (pre ++ mid ++ post)) (hx : Lst k h x l) (hl : l.length = mid.length) (h0 : 0 < l.length) (hi : i = pre.length)
  (hk : ∀ h', OwnL n k h' s (pre ++ l ++ post) → Upd s h h' → h'.size = h.size → wp P (K l.length) h' Q) : wp P (.copy 1 ⟨cutBase s.base s.cap i 1, subN s.len i, subN s.cap i⟩ x K) h Q := by
 subst hi
 have hxl := hx.len
 have hsl := ho.len
 simp only [List.length_append] at hsl
 obtain ⟨o1, o2, o3, o4⟩ := ho.own
 cases hb : s.base with
 | none => rw [hb] at o4; simp only at o4; omega
 | some a =>
  rw [hb] at o4
  obtain ⟨b, off, spot⟩ := a
  obtain ⟨e0, e1, e2, cs, elem, e3, e4, e5⟩ := o4
  simp only at e0 e1 e2 e3
  subst e0; subst e1
  have hcut : cutBase (some (⟨b, 0, none⟩ : Addr)) s.cap pre.length 1 = some ⟨b, pre.length, none⟩ := by
   unfold cutBase; rw [if_neg (by omega)]; simp [add_mk]
  rw [hcut]
  have hmin : min x.len (subN s.len pre.length) = l.length := by unfold subN; omega
  obtain ⟨w, cs', c1, c2, c3, c4, c5, c6⟩ := puts_block (vs := l.map (.int k)) (i := 0) (off := pre.length) e3 (by intro y hy; obtain ⟨z, _, rfl⟩ := List.mem_map.1 hy; rfl) (by rw [List.length_map]; simp at e4; omega)
  refine ⟨l.map (.int k), ?_, ?_⟩
  ·rw [hmin]
   have := hx.rd.firsts
   rw [hxl] at this; exact this
  ·dsimp only
   rw [hmin]
   refine ⟨w, hk _ ⟨⟨by simp at o1 ⊢; omega, o2, o3, ?_⟩, ?_⟩ ⟨by unfold puts; omega, fun j hj hne => c6 j fun e => (hne _ hb) e.symm, fun a e => by unfold puts; rw [thaw_putFrom]; exact e⟩ (by unfold puts; omega)⟩
   ·rw [hb]
    refine ⟨rfl, rfl, e2, cs', elem, c1, by rw [c2, e4], fun j v hj => ?_⟩
    rw [List.map_append, List.map_append] at hj
    by_cases hj1 : j < pre.length
    ·rw [List.append_assoc, List.getElem?_append_left (by rw [List.length_map]; exact hj1)] at hj
     rw [c4 j (by omega)]
     exact e5 j v (by rw [List.map_append, List.map_append, List.append_assoc, List.getElem?_append_left (by rw [List.length_map]; exact hj1)]; exact hj)
    ·by_cases hj2 : j < pre.length + l.length
     ·rw [List.getElem?_append_left (by simp; omega), List.getElem?_append_right (by simp; omega), List.length_map] at hj
      have := c3 (j - pre.length) v hj
      rw [show pre.length + 0 + (j - pre.length) = j by omega] at this; exact this
     ·rw [List.getElem?_append_right (by simp; omega)] at hj
      rw [c4 j (by simp; omega)]
      refine e5 j v ?_
      rw [List.map_append, List.map_append, List.getElem?_append_right (by simp; omega)]
      simp only [List.length_append, List.length_map] at hj ⊢
      rw [show j - (pre.length + mid.length) = j - (pre.length + l.length) by omega]; exact hj
   ·intro y hy
    rcases List.mem_append.1 hy with hy | hy
    ·rcases List.mem_append.1 hy with hy | hy
     ·exact ho.wf y (List.mem_append_left _ (List.mem_append_left _ hy))
     ·exact hx.wf y hy
    ·exact ho.wf y (List.mem_append_right _ hy)
end Go.Sw.Piece

set_option linter.unusedVariables false
set_option linter.unusedSimpArgs false
set_option maxRecDepth 100000
namespace Go.Sw.Piece
open Go.Sw.Any Go.Sw.Codec
open Go.Sw.Tree (iv s_putAll s_newP s_getP s_getT s_putP eqI_self Placed cell_own wp_whileG minI_eq)
variable {P : Program} {S : Ids} {h : Heap} {Q : Nat → List Value → Heap → Prop}
theorem s_mkZ {k : IntKind} {bytes n : Nat} {K : Sl → Prog} (h1 : n < 2 ^ 63) (h2 : bytes * n ≤ 2 ^ 48) (hk : ∀ h' r, Ext h h' → OwnL h.size k h' r (List.replicate n 0) → wp P (K r) h' Q) : wp P (.mk bytes [.int k 0] (n : Int) (n : Int) K) h Q := by
 refine ⟨⟨by omega, Int.le_refl _, by omega, by exact_mod_cast h2⟩, fun elem => hk _ _ (Ext.push ..) ⟨⟨by simp, by simp, by dsimp only; omega, ?_⟩, fun x hx => by rw [(List.mem_replicate.1 hx).2]; exact fits_zero k⟩⟩
 refine ⟨rfl, rfl, Nat.le_refl _, _, elem, Array.getElem?_push_size, ?_, fun i v hi => ?_⟩
 ·rw [zeros_one]; simp
 ·rw [zeros_one]
  rw [List.map_replicate] at hi
  rw [List.getElem?_toArray]
  simpa using hi
theorem s_new1 (v : Value) {K : Addr → Prog} (hk : ∀ h', Ext h h' → Own h.size 1 h' ⟨some ⟨h.size, 0, none⟩, 1, 1⟩ [v] → h'.size = h.size + 1 → wp P (K ⟨h.size, 0, none⟩) h' Q) : wp P (.alloc [v] K) h Q :=
 fun el => hk _ (Ext.push ..) (own_alloc rfl (by decide) (by decide)) (by simp)
abbrev Cel (n : Nat) (h : Heap) (a : Addr) (v : Value) : Prop := Own n 1 h ⟨some a, 1, 1⟩ [v]
theorem s_cel {n : Nat} {a : Addr} {b : B} {x : b.den} {K : b.den → Prog} (o : Cel n h a (b.inj x)) (hk : wp P (K x) h Q) : wp P (.load (.one b) (some a) K) h Q := wp_load1 a x rfl (cell_own o) hk
theorem s_celput {n : Nat} {a : Addr} {v : Value} (w : Value) {K : Prog} (o : Cel n h a v) (hw : flat w = true) (hk : ∀ h', Cel n h' a w → Upd ⟨some a, 1, 1⟩ h h' → wp P K h' Q) : wp P (.store (some a) [w] K) h Q :=
 s_putAll [w] o rfl (by intro u hu; rw [List.mem_singleton.1 hu]; exact hw) hk
theorem s_newput (z w : Value) {K : Addr → Prog} (hw : flat w = true) (hk : ∀ h', Ext h h' → Cel h.size h' ⟨h.size, 0, none⟩ w → wp P (K ⟨h.size, 0, none⟩) h' Q) : wp P (.alloc [z] fun a => .store (some a) [w] (K a)) h Q :=
 s_new1 z fun h1 e1 o1 _ => s_celput w o1 hw fun h2 o2 u2 => hk h2 (Upd.extN e1 u2 (by intro x hx; cases hx; exact Nat.le_refl _)) o2
end Go.Sw.Piece

set_option linter.unusedVariables false
set_option linter.unusedSimpArgs false
set_option maxRecDepth 100000
namespace Go.Sw.Piece
open Go.Sw.Any Go.Sw.Codec
open Go.Sw.Tree (iv s_putAll s_newP s_getP s_getT s_putP eqI_self Placed cell_own wp_whileG minI_eq)
variable {P : Program} {S : Ids} {h : Heap} {Q : Nat → List Value → Heap → Prop}
structure See (P : Program) (see : Value) (f : El → Int) (cc : Addr) : Prop where
 flat : flat see = true
 go : ∀ (h : Heap) (m : Nat) (e : El) (s : Sl) (l : List Int) (Q : Nat → List Value → Heap → Prop) (K : Unit → Prog), m ≤ h.size → Cel m h cc (slv s) → OwnL m .i64 h s l → fitsI .i64 e.1 → fitsI .i64 e.2 → l.length ≤ 1099511627776 → (∀ x, s.base = some x → x.block ≠ cc.block) →
  (∀ h' s', Cel m h' cc (slv s') → OwnL m .i64 h' s' (l ++ [f e]) → Chg (fun i => i = cc.block ∨ ∃ x, s.base = some x ∧ x.block = i) h h' → (∀ x, s'.base = some x → s.base = some x ∨ h.size ≤ x.block) → wp P (K ()) h' Q) → wp P (.callv see [iv e.1, iv e.2] [] K) h Q
structure WJ (S : Ids) (P : Program) (n : Nat) (T : TX) (h0 : Heap) (hr m0 : Nat) (a1 a2 a7 a8 cc : Addr) (see : Value) (f : El → Int) (R : List El) (m cnt v : Nat) (h : Heap) (s : Sl) : Prop where
 c : Chg (fun i => i = cc.block) h0 h
 sz : hr ≤ h.size
 t : TextR S n h T
 o1 : Cel h0.size h a1 (.pointer (some T.p))
 o2 : Cel h0.size h a2 see
 o7 : Cel h0.size h a7 (i64v ((m - v : Nat) : Int))
 o8 : Cel h0.size h a8 (i64v ((cnt - (v - m) : Nat) : Int))
 oc : Cel m0 h cc (slv s)
 ol : OwnL m0 .i64 h s (((R.take v).drop m).map f)
 sb : ∀ x, s.base = some x → hr + 4 ≤ x.block ∧ 0 < ((R.take v).drop m).length
 lt : a1.block < hr ∧ a2.block < hr ∧ a7.block < hr ∧ a8.block < hr ∧ cc.block < h0.size ∧ h0.size ≤ hr
variable {n : Nat} {T : TX} {h0 : Heap} {hr m0 : Nat} {a1 a2 a7 a8 cc : Addr} {see : Value} {f : El → Int} {R : List El} {m cnt v : Nat} {s : Sl}
end Go.Sw.Piece

set_option linter.unusedVariables false
set_option linter.unusedSimpArgs false
set_option maxRecDepth 100000
namespace Go.Sw.Piece
open Go.Sw.Any Go.Sw.Codec
open Go.Sw.Tree (iv s_putAll s_newP s_getP s_getT s_putP eqI_self Placed cell_own wp_whileG minI_eq)
variable {P : Program} {S : Ids} {h : Heap} {Q : Nat → List Value → Heap → Prop}
end Go.Sw.Piece

set_option linter.unusedVariables false
set_option linter.unusedSimpArgs false
set_option maxRecDepth 100000
namespace Go.Sw.Piece
open Go.Sw.Any Go.Sw.Codec
open Go.Sw.Tree (iv s_putAll s_newP s_getP s_getT s_putP eqI_self Placed cell_own wp_whileG minI_eq)
variable {P : Program} {S : Ids} {h : Heap} {Q : Nat → List Value → Heap → Prop}
theorem s_copyAll {n : Nat} {k : IntKind} {s x : Sl} {old l : List Int} {K : Nat → Prog} (ho : OwnL n k h s old) (hx : Lst k h x l) (hl : l.length = old.length)
  (hk : ∀ h', OwnL n k h' s l → Upd s h h' → wp P (K l.length) h' Q) : wp P (.copy 1 s x K) h Q := by
 cases l with
 | nil =>
  have h0 : old = [] := List.eq_nil_of_length_eq_zero hl.symm
  subst h0
  have hs : s.len = 0 := ho.len
  have hxl : x.len = 0 := hx.len
  have hmin : min x.len s.len = 0 := by omega
  refine ⟨[], ?_, ?_⟩
  ·rw [hmin]; have := hx.rd.firsts; rw [hxl] at this; exact this
  ·rw [hmin]
   cases hb : s.base with
   | none => exact hk h ho ⟨Nat.le_refl _, fun _ _ _ => rfl, fun _ e => e⟩
   | some a => exact ⟨trivial, hk h ho ⟨Nat.le_refl _, fun _ _ _ => rfl, fun _ e => e⟩⟩
 | cons y l =>
  have := s_copyAt (P := P) (Q := Q) (K := K) (s := s) (x := x) (pre := []) (mid := old) (post := []) (l := y :: l) (i := 0) (by simpa using ho) hx hl (by simp) rfl fun h' o u z => hk h' (by simpa using o) u
  rw [cutBase_zero, show subN s.len 0 = s.len from rfl, show subN s.cap 0 = s.cap from rfl] at this
  exact this
theorem elsF_append (tag : Int) : ∀ (a b : List (Int × Int)) (o : Nat), elsF tag o (a ++ b) = elsF tag o a ++ elsF tag (o + offs a) b
 | [], b, o => by simp [elsF, offs]
 | x :: a, b, o => by simp only [List.cons_append, elsF, elsF_append tag a b, offs_cons, Nat.add_assoc]
def Ld (enc : Int) (lo : Sl) (l : List Int) (q : Pc) : Prop := ∃ a e : Nat, a < e ∧ e ≤ l.length ∧ q.2 = (l.take e).drop a ∧ q.1 = mkP ⟨cutBase lo.base e a 1, e - a, e - a⟩ a (toks enc q.2)
theorem ld_pcr {m : Nat} {T : TX} {enc : Int} {lo : Sl} {l : List Int} {q : Pc} (ol : OwnL m .u8 h lo l) (hT : T.enc = enc) (had : T.ad = ⟨none, 0, 0⟩) (hz : ∀ b, lo.base = some b → T.Z b.block ∧ b.block ≠ T.p.block) (hlen : l.length ≤ 65536) (ld : Ld enc lo l q) : PcR h T q := by
 obtain ⟨a, e, hae, hel, h2, h1⟩ := ld
 have hlol := ol.len
 have hcap := ol.lst.cap
 have hmax := ol.lst.max
 have hl1 := (ol.lst.take (n := e) (m := e) hel (Nat.le_refl _) (by omega)).tail (i := a) (by rw [List.length_take]; omega)
 dsimp only at hl1
 have hl2 : q.2.length = e - a := by rw [h2, List.length_drop, List.length_take]; omega
 have hb : q.1.1 = ⟨cutBase lo.base e a 1, e - a, e - a⟩ := by rw [h1]; rfl
 have ht : q.1.2.1 = a := by rw [h1]; rfl
 refine ⟨by rw [hb, h2]; exact hl1, by omega, by rw [hT, hb, ht]; exact h1, by rw [ht]; omega, by omega, fun x hx => ?_⟩
 rw [hb] at hx
 have hx : cutBase lo.base e a 1 = some x := hx
 unfold cutBase at hx
 rw [if_neg (by omega)] at hx
 cases hlb : lo.base with
 | none => rw [hlb] at hx; simp at hx
 | some b =>
  rw [hlb] at hx
  have hx : b.add (a * 1) = x := Option.some.inj hx
  subst hx
  rw [add_block]
  exact ⟨(hz b hlb).1, (hz b hlb).2, fun c hc => by rw [had] at hc; cases hc⟩
inductive OpenR (S : Ids) (h0 h : Heap) (enc limit : Int) (l : List Int) : Option Addr → Int → Prop where
 | enc : ¬ known enc → OpenR S h0 h enc limit l none 10
 | arg : known enc → ¬ (0 ≤ limit ∧ limit ≤ 65536) → OpenR S h0 h enc limit l none 1
 | full : known enc → 0 ≤ limit ∧ limit ≤ 65536 → limit < l.length → OpenR S h0 h enc limit l none 50
 | ok (T : TX) : known enc → 0 ≤ limit ∧ limit ≤ 65536 → l.length ≤ limit → TextR S h0.size h T → T.enc = enc → T.limit = limit → T.kept = [] → T.A = [] → els enc T.cur.ps = elsF 0 0 (toks enc l) → bytesL T.cur.ps = l → (∀ i, T.Z i → h0.size ≤ i) → OpenR S h0 h enc limit l (some T.p) 0
theorem c_Open (M : Meth0 P S) {enc limit : Int} {b : Sl} {l : List Int} (hb : Lst .u8 h b l) :
  Gives P (F_piece_Open S enc b limit) [.one .ptr, .one (.int .i64)] h fun (y : Option Addr × Int × Unit) h' => OpenR S h h' enc limit l y.1 y.2.1 := by
 unfold F_piece_Open Gives
 have hbl := hb.len
 have hby : isBytes l := hb.wf
 refine bind_bool (¬ known enc) ?_ fun bb h1 e1 h1b => wp_ifB (fun hx => s_ret ⟨rfl, e1, (none, 10, ()), rfl, .enc (h1b.1 hx)⟩) fun hx => ?_
 ·unfold known
  refine wp_ifB (fun hc => s_ret ⟨rfl, Ext.refl _, true, rfl, ?_⟩) fun hc => s_ret ⟨rfl, Ext.refl _, _, rfl, ?_⟩
  ·rw [ltI_iff] at hc; exact Iff.intro (fun _ => by omega) fun _ => rfl
  ·rw [ltI_not] at hc; rw [gtI_iff]; omega
 have he : known enc := by
  by_cases hk : known enc
  ·exact hk
  ·rw [h1b.2 hk] at hx; cases hx
 refine bind_bool (¬ (0 ≤ limit ∧ limit ≤ 65536)) ?_ fun bb h2 e2 h2b => wp_ifB (fun hx => s_ret ⟨rfl, e1.trans e2, (none, 1, ()), rfl, .arg he (h2b.1 hx)⟩) fun hx => ?_
 ·refine wp_ifB (fun hc => s_ret ⟨rfl, Ext.refl _, true, rfl, ?_⟩) fun hc => s_ret ⟨rfl, Ext.refl _, _, rfl, ?_⟩
  ·rw [ltI_iff] at hc; exact Iff.intro (fun _ => by omega) fun _ => rfl
  ·rw [ltI_not] at hc; rw [gtI_iff]; omega
 have hlim : 0 ≤ limit ∧ limit ≤ 65536 := by
  by_cases hk : 0 ≤ limit ∧ limit ≤ 65536
  ·exact hk
  ·rw [h2b.2 hk] at hx; cases hx
 have e02 := e1.trans e2
 refine wp_ifB (fun hc => s_ret ⟨rfl, e02, (none, 50, ()), rfl, .full he hlim (by rw [gtI_iff, natI_def, hbl] at hc; omega)⟩) fun hc => ?_
 rw [gtI_not, natI_def, hbl] at hc
 have hnat : natI b.len = (l.length : Int) := by rw [natI_def, hbl]
 rw [hnat]
 have okt := okT_toks (enc := enc) hby
 have htl := toks_len (enc := enc) hby
 have hto := toks_offs (enc := enc) hby
 refine s_mkZ (k := .u8) (by omega) (by omega) fun h3 lo e3 olo => s_copyAll olo (hb.ext (e02.trans e3)) (by simp) fun h4 ol4 u4 => ?_
 have e24 : Ext h2 h4 := Upd.extN e3 u4 (fun a ha => (olo.own.lt ha).1)
 have hlol := ol4.len
 refine fun el => ?_
 have e5 : Ext h4 (h4.push (.cells [i64v enc, i64v limit, .pointer none, .slice none 0 0].toArray el)) := Ext.push ..
 have o5 : Own h4.size 1 (h4.push (.cells [i64v enc, i64v limit, .pointer none, .slice none 0 0].toArray el)) ⟨some ⟨h4.size, 0, none⟩, 4, 4⟩ [i64v enc, i64v limit, .pointer none, .slice none 0 0] := own_alloc rfl (by decide) (by decide)
 generalize h4.push (.cells [i64v enc, i64v limit, .pointer none, .slice none 0 0].toArray el) = h5 at e5 o5 ⊢
 have e05 := (e02.trans e24).trans e5
 have ol5 := ol4.ext e5
 have hcapL := ol5.lst.cap
 have hmaxL := ol5.lst.max
 refine wp_whileG (G := Nat × List Pc) (fun g (r : Sl × Int × Unit) h' => g.1 ≤ (toks enc l).length ∧ r.2.1 = offs ((toks enc l).take g.1) ∧ Ext h5 h' ∧ OwnPs h5.size h' r.1 (g.2.map (·.1)) ∧ (∀ q, q ∈ g.2 → Ld enc lo l q) ∧ els enc g.2 = elsF 0 0 ((toks enc l).take g.1) ∧ bytesL g.2 = l.take (offs ((toks enc l).take g.1)) ∧ g.2.length ≤ g.1) (fun g => (toks enc l).length - g.1)
  (fun tg vs h' => tg = 3 ∧ Ext h5 h' ∧ ∃ (s : Sl) (ps : List Pc), vs = [slv s] ∧ OwnPs h5.size h' s (ps.map (·.1)) ∧ (∀ q, q ∈ ps → Ld enc lo l q) ∧ els enc ps = elsF 0 0 (toks enc l) ∧ bytesL ps = l) (0, []) ⟨Nat.zero_le _, rfl, Ext.refl _, Own.nil _ _ _, (fun q hq => by cases hq), rfl, by simp [bytesL, offs], Nat.le_refl _⟩ ?_ ?_
 ·rintro ⟨k, ps⟩ ⟨(s : Sl), (at_ : Int), u⟩ h6 ⟨hk, hat, e6, os, hld, hel, hbs, hpn⟩
  dsimp only at hk hat os hld hel hbs hpn ⊢
  subst hat
  have hbk := toks_at (enc := enc) hby k hk
  have hkl := hbk.1.le hby
  have hLn : natI lo.len = (l.length : Int) := by rw [natI_def, hlol]
  rw [hLn]
  refine wp_ifB (fun hc => ?_) fun hc => ?_
  ·rw [ltI_iff] at hc
   have hklt : k < (toks enc l).length := by
    by_cases hx : k < (toks enc l).length
    ·exact hx
    ·rw [List.take_of_length_le (by omega), hto] at hc; omega
   have ol6 := ol5.ext e6
   refine wp_whileG (G := Nat) (fun w (r : Int × Int × Unit) h' => k + w ≤ (toks enc l).length ∧ w ≤ 128 ∧ r.1 = offs ((toks enc l).take (k + w)) ∧ r.2.1 = w ∧ Ext h6 h') (fun w => (toks enc l).length - w)
    (fun tg vs h' => tg = 5 ∧ Ext h6 h' ∧ ∃ w, 1 ≤ w ∧ k + w ≤ (toks enc l).length ∧ vs = [i64v (offs ((toks enc l).take (k + w)))]) 0 ⟨by omega, by omega, rfl, rfl, Ext.refl _⟩ ?_ ?_
   ·rintro w ⟨(en : Int), (n : Int), u⟩ h7 ⟨hkw, hw, hen, hn, e7⟩
    dsimp only at hen hn ⊢
    subst hen; subst hn
    obtain ⟨hbn, htk⟩ := toks_at (enc := enc) hby (k + w) hkw
    have hle := hbn.le hby
    have hmono : offs ((toks enc l).take k) ≤ offs ((toks enc l).take (k + w)) := by
     have : (toks enc l).take k = ((toks enc l).take (k + w)).take k := by rw [List.take_take, Nat.min_eq_left (by omega)]
     rw [this]; exact offs_take_le _ _
    refine bind_bool (offs ((toks enc l).take (k + w)) < l.length ∧ w < 128) ?_ fun bb h8 e8 hb8 => wp_ifB (fun hx => ?_) fun hx => ?_
    ·refine wp_ifB (fun hc => s_ret ⟨rfl, Ext.refl _, _, rfl, ?_⟩) fun hc => s_ret ⟨rfl, Ext.refl _, false, rfl, ?_⟩
     ·rw [ltI_iff] at hc ⊢; omega
     ·rw [ltI_not] at hc; exact Iff.intro (fun h => by cases h) fun h => by omega
    ·obtain ⟨hlt, hw128⟩ := hb8.1 hx
     have hwlt : k + w < (toks enc l).length := by
      by_cases hx : k + w < (toks enc l).length
      ·exact hx
      ·rw [List.take_of_length_le (by omega), hto] at hlt; omega
     have htc := toks_cons (enc := enc) (hby.drop (offs ((toks enc l).take (k + w)))) (by rw [List.length_drop]; omega)
     rw [htk, List.drop_eq_getElem_cons hwlt, List.cons.injEq] at htc
     have hsz := okt _ (List.getElem_mem hwlt)
     have hoff : offs ((toks enc l).take (k + (w + 1))) = offs ((toks enc l).take (k + w)) + (toks enc l)[k + w].2.toNat := by
      rw [show k + (w + 1) = (k + w) + 1 by omega, List.take_add_one, List.getElem?_eq_getElem hwlt, offs_append]; simp [offs]
     refine wp_call (c_Next M (ol6.ext (e7.trans e8)).lst) fun ⟨(x : Int), (sz : Int), _⟩ h9 e9 hx9 => ?_
     have hx9 : (x, sz) = firstF enc (l.drop (offs ((toks enc l).take (k + w)))) := by
      rcases hx9 with ⟨hno, _, _⟩ | ⟨_, _, _, hx⟩
      ·rcases hno with h | h | h
       ·exact absurd he h
       ·omega
       ·omega
      ·rw [Int.toNat_natCast] at hx; exact hx
     rw [← htc.1] at hx9
     have hx2 : sz = (toks enc l)[k + w].2 := congrArg Prod.snd hx9
     dsimp only
     rw [add_ok (by omega) (by omega), add_ok (a := (w : Int)) (by omega) (by omega)]
     refine s_ret ⟨fun _ => ⟨w + 1, (_, _, ()), rfl, ⟨by omega, by omega, ?_, by dsimp only; omega, (e7.trans e8).trans e9⟩, by omega⟩, fun h => absurd rfl h⟩
     dsimp only
     rw [hoff]; omega
    ·have hno : ¬ (offs ((toks enc l).take (k + w)) < l.length ∧ w < 128) := fun k => by rw [hb8.2 k] at hx; cases hx
     refine s_ret ⟨fun h => absurd h (by decide), fun _ => ⟨rfl, e7.trans e8, w, ?_, hkw, rfl⟩⟩
     by_cases h0 : w = 0
     ·subst h0; exact absurd ⟨by rw [Nat.add_zero]; omega, by omega⟩ hno
     ·omega
   ·rintro tg vs h7 ⟨rfl, e7, w, hw1, hkw, rfl⟩
    refine s_tag (s_castI ?_)
    have hbn := (toks_at (enc := enc) hby (k + w) hkw).1
    have hle := hbn.le hby
    have htt := toks_take (enc := enc) hby (k + w) hkw
    have hsub : ((toks enc l).take (k + w)).take k = (toks enc l).take k := by rw [List.take_take, Nat.min_eq_left (by omega)]
    have hoapp := offs_append (((toks enc l).take (k + w)).take k) (((toks enc l).take (k + w)).drop k)
    rw [List.take_append_drop, hsub] at hoapp
    have hpos := offs_pos (((okt.take (k + w)).drop k)) (by rw [List.length_drop, List.length_take]; omega)
    have htd := (toks_at (enc := enc) (hby.take (offs ((toks enc l).take (k + w)))) k (by rw [htt, List.length_take]; omega)).2
    rw [htt, hsub] at htd
    generalize hA : offs ((toks enc l).take k) = A at *
    generalize hE : offs ((toks enc l).take (k + w)) = E at *
    have hAE : A < E := by omega
    have tA : toN (A : Int) = A := by rw [toN_def]; omega
    have tE : toN (E : Int) = E := by rw [toN_def]; omega
    dsimp only
    refine s_grd (andB_iff.2 ⟨leB_ok (by omega) (by omega), andB_iff.2 ⟨leB_ok (by omega) (by rw [tE]; omega), leB_ok (by omega) (by rw [tE]; omega)⟩⟩) ?_
    rw [tA, tE]
    have ol7 := (ol5.ext e6).ext e7
    have hl1 := (ol7.lst.take (n := E) (m := E) hle (Nat.le_refl _) (by omega)).tail (i := A) (by rw [List.length_take]; omega)
    dsimp only at hl1
    refine wp_call (c_newPart M he (tag := (A : Int)) hl1 (by rw [List.length_drop, List.length_take]; omega)) fun ⟨(y : Part), _⟩ h8 e8 hy => ?_
    have hy : y = mkP ⟨cutBase lo.base E A 1, E - A, E - A⟩ A (toks enc ((l.take E).drop A)) := hy
    dsimp only
    have e68 := e7.trans e8
    have hsl := OwnPs.len os
    rw [List.length_map] at hsl
    refine wp_push (n := h5.size) (new := Bs.inj PB y) (os.ext e68) (Nat.le_trans e6.size e68.size) rfl (flatP _) rfl (by show (s.len + 1) * 64 ≤ _; omega) (by omega) fun r h9 a9 b9 u9 d9 => s_ret ⟨fun _ => ⟨(k + w, ps ++ [(y, (l.take E).drop A)]), (r, (E : Int), ()), rfl, ⟨hkw, by dsimp only; rw [hE], ?_, ?_, ?_, ?_, ?_, by dsimp only; rw [List.length_append]; simp; omega⟩, by dsimp only; omega⟩, fun h => absurd rfl h⟩
    ·exact Upd.extN (e6.trans e68) u9 (fun a ha => (os.lt ha).1)
    ·rw [List.map_append]
     show Own h5.size 7 h9 r (cP (_ ++ [y]))
     rw [cP_append, cP_one]; exact a9
    ·intro q hq
     rcases List.mem_append.1 hq with hq | hq
     ·exact hld q hq
     ·rw [List.mem_singleton.1 hq]
      exact ⟨A, E, hAE, hle, rfl, hy⟩
    ·dsimp only
     rw [els_append, els_one, hel]
     have h1 : (toks enc l).take (k + w) = (toks enc l).take k ++ ((toks enc l).take (k + w)).drop k := by rw [← hsub, List.take_append_drop]
     conv => rhs; rw [h1]
     rw [elsF_append, hA]
     congr 1
     unfold elsP
     dsimp only
     rw [htd, hy]
     show elsF (A : Int) 0 _ = _
     have : (A : Int) = tagF 0 A := by unfold tagF; simp
     rw [this, elsF_tag]
    ·dsimp only
     rw [bytesL_append, hbs, hE]
     have : l.take A = (l.take E).take A := by rw [List.take_take, Nat.min_eq_left (by omega)]
     rw [this]
     simp [bytesL, List.take_append_drop]
  ·rw [ltI_not] at hc
   have hke : k = (toks enc l).length := by
    by_cases hx : k < (toks enc l).length
    ·have h1 := offs_append ((toks enc l).take k) ((toks enc l).drop k)
     rw [List.take_append_drop, hto] at h1
     have := offs_pos (okt.drop k) (by rw [List.length_drop]; omega)
     omega
    ·omega
   subst hke
   rw [List.take_length] at hel hbs
   rw [hto, List.take_length] at hbs
   exact s_ret ⟨fun h => absurd h (by decide), fun _ => ⟨rfl, e6, s, ps, rfl, os, hld, hel, hbs⟩⟩
 ·rintro tg vs h6 ⟨rfl, e6, s, ps, rfl, os, hld, hel, hbs⟩
  refine s_tag (wp_cast (tys := [.one .sl]) (s, ()) rfl ?_)
  dsimp only
  have e06 := e05.trans e6
  have hlo : ∀ b, lo.base = some b → h.size ≤ b.block ∧ b.block < h4.size := fun b hb => by have := ol4.own.lt hb; have := e02.size; omega
  have e04 := e02.trans e24
  let Z : Nat → Prop := fun i => h.size ≤ i
  let T0 : TX := { p := ⟨h4.size, 0, none⟩, enc := enc, limit := limit, cur := ⟨none, .nil, ps⟩, kept := [], ad := ⟨none, 0, 0⟩, A := [], Z := Z }
  have pc6 : ∀ q, q ∈ ps → PcR h6 T0 q := fun q hq => ld_pcr (ol5.ext e6) rfl rfl (fun b hb => ⟨(hlo b hb).1, by show b.block ≠ h4.size; have := (hlo b hb).2; omega⟩) (by omega) (hld q hq)
  have hwM : ∀ x, x ∈ ps.map (·.1) → VS (wtP x) (sumP x) := fun x hx => by
   obtain ⟨q, hq, rfl⟩ := List.mem_map.1 hx
   exact (pc6 q hq).wt.2
  have its : Its (part S Z) h6 s (ps.map (·.1)) := its_own os hwM
  have hfr : Fresh (part S Z) h6 := fun i hi => Nat.le_trans e06.size hi
  have hWm : ((ps.map (·.1)).map wtP).sum = (toksL enc ps).length := W_ps pc6
  have hmt := (toksL_le (enc := enc) fun q hq => (pc6 q hq).bytes).1
  rw [hbs] at hmt
  have hof := c_Of (part_ok S Z (P := P)) its (show (part S Z).W (ps.map (·.1)) ≤ 4398046511104 from by
   have : (part S Z).W (ps.map (·.1)) = (toksL enc ps).length := hWm
   rw [this]; omega) hfr
  rw [← g_Of S Z] at hof
  refine wp_call (R := fun (y : TR × Unit) h' => ∃ t' : Bt Part, Nd (part S Z) h' y.1.1 t' ∧ t'.list = ps.map (·.1)) (Gives.mono hof fun y h' e ⟨t', q1, q2, _⟩ => ⟨t', q1, q2⟩) fun ⟨⟨(root : Option Addr), _⟩, _⟩ h7 e7 ⟨t', nd, hl'⟩ => ?_
  have nd : Nd (part S Z) h7 root t' := nd
  dsimp only
  have o7 := o5.ext (e6.trans e7)
  refine s_setC' (.pointer root) o7 (by simp) rfl fun h8 o8 u8 => ?_
  have o8 : Own h4.size 1 h8 ⟨some ⟨h4.size, 0, none⟩, 4, 4⟩ [i64v enc, i64v limit, .pointer root, .slice none 0 0] := o8
  have e08 : Ext h h8 := Upd.extN (e06.trans e7) u8 (by intro x hx; cases hx; exact e04.size)
  have ol8 : OwnL h2.size .u8 h8 lo l := ((ol5.ext e6).ext e7).upd u8 fun x y hx hy => by cases hy; have := (hlo x hx).2; show h4.size ≠ x.block; omega
  have hp8 : h4.size < h8.size := (o8.lt rfl).2
  let T : TX := { p := ⟨h4.size, 0, none⟩, enc := enc, limit := limit, cur := ⟨root, t', ps⟩, kept := [], ad := ⟨none, 0, 0⟩, A := [], Z := fun i => h.size ≤ i ∧ i < h8.size }
  have nd8 : Nd (part S Z) h8 root t' := nd.updK u8 fun b hb => by
   cases hb
   have := cells_iff.1 o7.cells 0 _ rfl
   rw [add_zero'] at this
   exact ⟨_, _, this⟩
  refine s_ret ⟨rfl, e08, (some ⟨h4.size, 0, none⟩, 0, ()), rfl, .ok T he hlim (by omega) ⟨he, hlim, o8.mono e04.size, OwnL.nil _ _ _, fun b hb => (by cases hb), fun b hb => (by cases hb), ⟨part_mono nd8 fun i hi hz => ⟨hz, hi⟩, hl', fun q hq => ld_pcr ol8 rfl rfl (fun b hb => ⟨⟨(hlo b hb).1, by have := (hlo b hb).2; omega⟩, by show b.block ≠ h4.size; have := (hlo b hb).2; omega⟩) (by omega) (hld q hq), ?_⟩, fun s hs => (by cases hs), ⟨e04.size, hp8⟩, fun b hb => (by cases hb), fun i hi => hi⟩ rfl rfl rfl rfl hel hbs fun i hi => hi.1⟩
  show (bytesL ps).length ≤ _
  rw [hbs]; omega
end Go.Sw.Piece

set_option linter.unusedVariables false
set_option linter.unusedSimpArgs false
set_option maxRecDepth 100000
namespace Go.Sw.Piece
open Go.Sw.Any Go.Sw.Codec
open Go.Sw.Tree (iv s_putAll s_newP s_getP s_getT s_putP eqI_self Placed cell_own wp_whileG minI_eq)
variable {P : Program} {S : Ids} {h : Heap} {Q : Nat → List Value → Heap → Prop}
abbrev SnapR (n : Nat) (h : Heap) (a : Addr) (of : Addr) (s : St) : Prop := Own n 1 h ⟨some a, 2, 2⟩ [.pointer (some of), .pointer s.root]
end Go.Sw.Piece

set_option linter.unusedVariables false
set_option linter.unusedSimpArgs false
set_option maxRecDepth 100000
namespace Go.Sw.Piece
open Go.Sw.Any Go.Sw.Codec
open Go.Sw.Tree (iv s_putAll s_newP s_getP s_getT s_putP eqI_self Placed cell_own wp_whileG minI_eq)
variable {P : Program} {S : Ids} {h : Heap} {Q : Nat → List Value → Heap → Prop}
def edit1 (a1 : Addr) (at_ a : Int) : EdD := (at_, at_, (⟨some a1, 1, 1⟩, [a]), ())
theorem ok_edit1 {m : Nat} {a1 a2 : Addr} {at_ a : Int} (o1 : OwnL m .i64 h ⟨some a1, 1, 1⟩ [a]) (o2 : Own m 1 h ⟨some a2, 3, 3⟩ [i64v at_, i64v at_, slv ⟨some a1, 1, 1⟩]) (hf : fitsI .i64 at_) :
  (Sh.list EdSh).ok h (⟨some a2, 1, 1⟩, [edit1 a1 at_ a]) := by
 have hl : (Sh.list (.int .i64)).ok h ((⟨some a1, 1, 1⟩, [a]) : Sl × List Int) := by
  refine ⟨rfl, Nat.le_refl _, (by decide : 1 < 2 ^ 63), fun i y hi => ?_⟩
  have hlt := (List.getElem?_eq_some_iff.1 hi).1
  simp at hlt
  subst hlt
  simp at hi
  subst hi
  refine ⟨a1, rfl, cells_iff.2 fun j v hj => ?_, o1.wf a (List.mem_singleton.2 rfl)⟩
  cases j with
  | zero =>
   simp [Sh.cells] at hj; subst hj
   have := o1.lst.cell (j := 0) (by simp)
   simpa [Sh.size, add_zero'] using this
  | succ j => simp [Sh.cells] at hj
 refine ⟨rfl, Nat.le_refl _, (by decide : 1 < 2 ^ 63), fun i y hi => ?_⟩
 have hlt := (List.getElem?_eq_some_iff.1 hi).1
 simp at hlt
 subst hlt
 simp at hi
 subst hi
 refine ⟨a2, rfl, cells_iff.2 fun j v hj => ?_, ⟨hf, hf, hl, trivial⟩⟩
 rw [Nat.zero_mul, add_zero']
 refine cells_iff.1 o2.cells _ _ ?_
 match j, hj with
 | 0, hj => exact hj
 | 1, hj => exact hj
 | 2, hj => exact hj
 | j + 3, hj => simp [Sh.cells, edit1] at hj
theorem c_put1 (M : Meth0 P S) {n : Nat} {T : TX} {at_ a : Int} {K : Int × Unit → Prog} (t : TextR S n h T) (hn : n ≤ h.size) (hfa : fitsI .i64 a) (hs : 0 < sizeF T.enc a) (h0 : 0 ≤ at_) (hle : at_ ≤ (els T.enc T.cur.ps).length) (hA : T.A.length ≤ 399999999990) (hsm : (bytesL T.cur.ps).length + sizeF T.enc a ≤ T.limit)
  (hk : ∀ h' T', Chg (wfoot T) h h' → TextR S n h' T' → Nxt T T' h.size → els T.enc T'.cur.ps = (els T.enc T.cur.ps).take at_.toNat ++ [(a, -1)] ++ (els T.enc T.cur.ps).drop at_.toNat → T'.A.length ≤ T.A.length + 4 → wp P (K (0, ())) h' Q) :
  wp P (.alloc [i64v a] fun (a1 : Addr) => .alloc [i64v at_, i64v at_, .slice (some a1) 1 1] fun (a2 : Addr) => .call (F_Text_Change S (some T.p) ⟨some a2, 1, 1⟩) [.one (.int .i64)] K) h Q := by
 have lo := t.lo
 have hpos := sizeF_pos T.enc a
 have hlim := t.lim
 have hbig : (els T.enc T.cur.ps).length ≤ 65536 := by
  have h2 := (toksL_le (enc := T.enc) t.cur.bytes).1
  rw [els_len]; omega
 refine s_allocL (k := .i64) [a] (by intro x hx; rw [List.mem_singleton.1 hx]; exact hfa) (by simp) fun h1 e1 o1 => fun el => ?_
 have e2 : Ext h1 (h1.push (.cells [i64v at_, i64v at_, .slice (some ⟨h.size, 0, none⟩) 1 1].toArray el)) := Ext.push ..
 have o2 : Own h1.size 1 (h1.push (.cells [i64v at_, i64v at_, .slice (some ⟨h.size, 0, none⟩) 1 1].toArray el)) ⟨some ⟨h1.size, 0, none⟩, 3, 3⟩ [i64v at_, i64v at_, .slice (some ⟨h.size, 0, none⟩) 1 1] := own_alloc rfl (by decide) (by decide)
 generalize h1.push (.cells [i64v at_, i64v at_, .slice (some ⟨h.size, 0, none⟩) 1 1].toArray el) = h2 at e2 o2 ⊢
 have e02 := e1.trans e2
 have t2 := t.ext e02
 have hfit : fitsI .i64 at_ := fits_i64.2 (by omega)
 have nW : ∀ i, h.size ≤ i → ¬ wfoot T i := fun i hi hw => by have := (lo i (wfoot_Z t hw)).2; omega
 have hok : ∀ h', Chg (wfoot T) h2 h' → (Sh.list EdSh).ok h' (⟨some ⟨h1.size, 0, none⟩, 1, 1⟩, [edit1 ⟨h.size, 0, none⟩ at_ a]) := fun h' c =>
  ok_edit1 (c.ownL (o1.ext e2) fun x hx hw => by cases hx; exact nW h.size (Nat.le_refl _) hw) ((c.own o2 fun x hx hw => by cases hx; exact nW h1.size e1.size hw).mono e1.size) hfit
 have hpo : putsOf [edit1 ⟨h.size, 0, none⟩ at_ a] = [a] := rfl
 refine wp_callW (c_Change M (x := (⟨some ⟨h1.size, 0, none⟩, 1, 1⟩, [edit1 ⟨h.size, 0, none⟩ at_ a])) t2 (Nat.le_trans hn e02.size) hok (fun e he hne b hb hz => ?_) (by show T.A.length + 4 * (putsOf [edit1 ⟨h.size, 0, none⟩ at_ a]).length ≤ _; rw [hpo]; simp; omega) (by omega)) fun tg vs h3 hx => ?_
 ·rw [List.mem_singleton.1 he] at hb
  have hb : some (⟨h.size, 0, none⟩ : Addr) = some b := hb
  cases hb
  have : h.size < h.size := (lo _ hz).2
  omega
 ·obtain ⟨rfl, c3, r, T', rfl, R⟩ := hx
  have hr : r = 0 := by
   have hts := toksL_els t.enc t.cur.bytes
   have hoff := (toksL_le (enc := T.enc) t.cur.bytes).2
   have hplc : Plc (toksL T.enc T.cur.ps).length 0 [edit1 ⟨h.size, 0, none⟩ at_ a] := ⟨h0, Int.le_refl _, by show at_ ≤ _; rw [← els_len]; exact hle, trivial⟩
   have hfe : fitsE T.enc (putsOf [edit1 ⟨h.size, 0, none⟩ at_ a]) := by rw [hpo]; intro b hb; rw [List.mem_singleton.1 hb]; exact hs
   have hg : goneE (toksL T.enc T.cur.ps) [edit1 ⟨h.size, 0, none⟩ at_ a] = 0 := by simp [goneE, edit1]
   have hz : sizeL T.enc (putsOf [edit1 ⟨h.size, 0, none⟩ at_ a]) = sizeF T.enc a := by rw [hpo]; simp [sizeL]
   cases R.ref with
   | many h => simp at h
   | place _ h => exact absurd hplc h
   | fit _ _ h => exact absurd hfe h
   | full _ _ _ hfull =>
    have hfull : T.limit < offs (toksL T.enc T.cur.ps) + sizeL T.enc (putsOf [edit1 ⟨h.size, 0, none⟩ at_ a]) - goneE (toksL T.enc T.cur.ps) [edit1 ⟨h.size, 0, none⟩ at_ a] := hfull
    rw [hg, hz] at hfull; omega
   | ok => rfl
  subst hr
  refine ⟨rfl, (0, ()), rfl, hk h3 T' (Chg.pre e02 c3) R.t ⟨R.nx.p, R.nx.enc, R.nx.limit, R.nx.kept, R.nx.zm, fun i hi => (R.nx.zn i hi).imp id fun h => by have := e02.size; omega, fun b hb => (R.nx.adc b hb).imp id fun h => by have := e02.size; omega⟩ ?_ ?_⟩
  ·rw [R.els, if_pos rfl]; rfl
  ·have := R.len
   have h4 : (putsOf [edit1 ⟨h.size, 0, none⟩ at_ a]).length = 1 := by rw [hpo]; rfl
   have this : T'.A.length ≤ T.A.length + 4 * (putsOf [edit1 ⟨h.size, 0, none⟩ at_ a]).length := this
   omega
end Go.Sw.Piece

set_option linter.unusedVariables false
set_option linter.unusedSimpArgs false
set_option maxRecDepth 100000
namespace Go.Sw.Piece
open Go.Sw.Any Go.Sw.Codec
open Go.Sw.Tree (iv s_putAll s_newP s_getP s_getT s_putP eqI_self Placed cell_own wp_whileG minI_eq)
variable {P : Program} {S : Ids} {h : Heap} {Q : Nat → List Value → Heap → Prop}
theorem known1 : known 1 := by unfold known; omega
theorem c_able (M : Meth0 P S) : Gives P (F_law5_able S) [.one .bool] h fun (y : Bool × Unit) _ => y.1 = true := by
 unfold F_law5_able Gives
 have hb97 : ∀ x, x ∈ [(97 : Int)] → fitsI .u8 x := bytes_fit rfl
 refine s_allocL (k := .u8) [97] hb97 (by simp) fun h1 e1 o1 => wp_call (c_Next M o1.lst) fun ⟨(a : Int), (n : Int), _⟩ h2 e2 hx => ?_
 have hx : (a, n) = ((97 : Int), (1 : Int)) := by
  rcases hx with ⟨hno, _, _⟩ | ⟨_, _, _, hx⟩
  ·rcases hno with h | h | h
   ·exact absurd known1 h
   ·exact absurd h (by decide)
   ·exact absurd h (by decide)
  ·have h3 : firstF 1 [97] = ((97 : Int), (1 : Int)) := by decide
   exact hx.trans h3
 have ha : a = 97 := congrArg Prod.fst hx
 have hn : n = 1 := congrArg Prod.snd hx
 subst ha; subst hn
 dsimp only
 have e02 := e1.trans e2
 refine bind_bool False (s_neF rfl (s_ret ⟨rfl, Ext.refl _, _, rfl, ?_⟩)) fun bb h3 e3 hb => wp_ifB (fun hx => (hb.1 hx).elim) fun _ => ?_
 ·rw [neI_iff]; exact Iff.intro (fun h => h rfl) False.elim
 refine s_allocL (k := .u8) [97] hb97 (by simp) fun h4 e4 o4 => wp_call (c_Open M (limit := Int.ofNat 2) (enc := Int.ofNat 1) o4.lst) fun ⟨(p : Option Addr), (er : Int), _⟩ h5 e5 hx => ?_
 have e05 := ((e02.trans e3).trans e4).trans e5
 have hx : OpenR S h4 h5 (Int.ofNat 1) (Int.ofNat 2) [97] p er := hx
 have hen : known (Int.ofNat 1) := known1
 cases hx with
 | enc h => exact absurd hen h
 | arg _ h => exact absurd (by decide : (0 : Int) ≤ Int.ofNat 2 ∧ Int.ofNat 2 ≤ 65536) h
 | full _ _ h => exact absurd h (by decide)
 | ok T _ _ _ t he hl hk hA hel hby hz =>
  have htk : toks (Int.ofNat 1) [97] = [((97 : Int), (1 : Int))] := by decide
  rw [htk] at hel
  have hlen : (els T.enc T.cur.ps).length = 1 := by rw [he, hel]; rfl
  have hbl : (bytesL T.cur.ps).length = 1 := by rw [hby]; rfl
  refine bind_bool False (s_ifF (s_neF rfl (wp_call (c_Len t) fun ⟨(L : Int), _⟩ h6 e6 hL => s_ret ⟨rfl, e6, _, rfl, ?_⟩))) fun bb h6 e6 hb => wp_ifB (fun hx => (hb.1 hx).elim) fun _ => ?_
  ·have hL : L = _ := hL
   rw [hL, hlen, neI_iff]; exact Iff.intro (fun h => absurd rfl h) False.elim
  have t6 := t.ext e6
  have e06 := e05.trans e6
  have h4s : h.size ≤ h4.size := ((e02.trans e3).trans e4).size
  have hs98 : sizeF T.enc 98 = 1 := by rw [he]; decide
  refine wp_bind (fun tg vs h' => tg = 0 ∧ vs = [.bool true] ∧ Ext h h') ?_ ?_
  ·refine c_put1 M t6 (by have := e5.size; have := e6.size; omega) (fits_i64.2 (by decide)) (by rw [hs98]; decide) (by decide) (by rw [hlen]; decide) (by rw [hA]; decide) (by rw [hbl, hs98, hl]; decide) fun h7 T' c7 t7 nx hE _ => ?_
   have cl := c_Len (P := P) t7
   rw [nx.p] at cl
   refine s_ifT (wp_call cl fun ⟨(L : Int), _⟩ h8 e8 hL => s_ret ⟨rfl, ?_, ?_⟩)
   ·have hL : L = _ := hL
    rw [nx.enc, hE] at hL
    have : L = 2 := by rw [hL, he, hel]; rfl
    rw [this]; rfl
   ·have : Keep h.size h6 h7 := c7.keep (by have := e06.size; omega) fun i hi hw => by have := hz i (wfoot_Z t6 hw); omega
    exact Keep.trans (Keep.trans e06 this) (e8.keep (by have := e06.size; have := c7.1; omega))
  ·rintro tg vs h7 ⟨rfl, rfl, e7⟩
   exact s_tag (s_castB (s_ret ⟨rfl, e7, (true, ()), rfl, rfl⟩))
end Go.Sw.Piece

set_option linter.unusedVariables false
set_option linter.unusedSimpArgs false
set_option maxRecDepth 100000
namespace Go.Sw.Piece
open Go.Sw.Any Go.Sw.Codec
open Go.Sw.Tree (iv s_putAll s_newP s_getP s_getT s_putP eqI_self Placed cell_own wp_whileG minI_eq)
variable {P : Program} {S : Ids} {h : Heap} {Q : Nat → List Value → Heap → Prop}
structure Opened (S : Ids) (h0 h : Heap) (enc limit : Int) (l : List Int) (T : TX) : Prop where
 t : TextR S h0.size h T
 en : T.enc = enc
 li : T.limit = limit
 kept : T.kept = []
 A : T.A = []
 el : Piece.els enc T.cur.ps = elsF 0 0 (toks enc l)
 bytes : bytesL T.cur.ps = l
 z : ∀ i, T.Z i → h0.size ≤ i
theorem c_opened (M : Meth0 P S) {enc : Int} {b : Sl} {l : List Int} (he : known enc) (hb : Lst .u8 h b l) (hl : l.length ≤ 65536) :
  Gives P (F_law5_opened S enc b) [.one .ptr] h fun (y : Option Addr × Unit) h' => ∃ T, y.1 = some T.p ∧ Opened S h h' enc 65536 l T := by
 unfold F_law5_opened Gives
 refine s_append (n := h.size) (k := .u8) (OwnL.nil _ _ _) (Nat.le_refl _) hb (by simp; omega) (by simp; omega) fun r h1 k1 o1 u1 b1 => ?_
 have e1 : Ext h h1 := k1
 rw [List.nil_append] at o1
 refine wp_call (c_Open M (enc := enc) (limit := Int.ofNat 65536) o1.lst) fun ⟨(p : Option Addr), (er : Int), _⟩ h2 e2 hx => ?_
 have hx : OpenR S h1 h2 enc (Int.ofNat 65536) l p er := hx
 have h65 : (Int.ofNat 65536 : Int) = 65536 := rfl
 cases hx with
 | enc h => exact absurd he h
 | arg _ h => exact absurd (by decide : (0 : Int) ≤ Int.ofNat 65536 ∧ Int.ofNat 65536 ≤ 65536) h
 | full _ _ h => rw [h65] at h; omega
 | ok T _ _ _ t he' hl' hk hA hel hby hz =>
  refine s_neF rfl (s_ret ⟨rfl, e1.trans e2, (some T.p, ()), rfl, T, rfl, ⟨?_, he', hl', hk, hA, ?_, hby, fun i hi => Nat.le_trans e1.size (hz i hi)⟩⟩)
  ·have lo := t.lo
   exact ⟨t.enc, t.lim, t.ob.mono e1.size, t.ad.mono e1.size, t.adp, t.adk, t.cur, t.kept, t.zp, t.za, fun i hi => ⟨Nat.le_trans e1.size (lo i hi).1, (lo i hi).2⟩⟩
  ·rw [← he'] at hel ⊢; exact hel
end Go.Sw.Piece

set_option linter.unusedVariables false
set_option linter.unusedSimpArgs false
set_option maxRecDepth 100000
namespace Go.Sw.Piece
open Go.Sw.Any Go.Sw.Codec
variable {P : Program} {S : Ids} {h : Heap} {Q : Nat → List Value → Heap → Prop}
theorem c_same5B {a b : Sl} {l m : List Int} (ha : Lst .u8 h a l) (hb : Lst .u8 h b m) : Gives P (F_law5_sameBytes S a b) [.one .bool] h fun (x : Bool × Unit) _ => x.1 = decide (l = m) := by
 have hla := ha.len
 have hlb := hb.len
 have hbd := ha.bound
 unfold F_law5_sameBytes Gives
 refine wp_ifB (fun hc => ?_) fun hc => ?_
 ·rw [neI_iff, natI_def, natI_def, hla, hlb] at hc
  refine s_ret ⟨rfl, Ext.refl h, (_, ()), rfl, ?_⟩
  have : l ≠ m := fun e => hc (by rw [e])
  show Bool.false = _
  simp [this]
 rw [neI_not, natI_def, natI_def, hla, hlb] at hc
 refine wp_while (fun (s : Int × Unit) h' => h' = h ∧ 0 ≤ s.1 ∧ s.1 ≤ l.length ∧ l.take s.1.toNat = m.take s.1.toNat) (fun s _ => l.length - s.1.toNat)
  (fun t vs h' => h' = h ∧ (t = 2 ∧ vs = [] ∧ l = m ∨ t = 1 ∧ vs = [.bool Bool.false] ∧ l ≠ m)) ⟨rfl, by simp, by simp, by simp⟩ ?_ ?_
 ·rintro ⟨(i : Int), u⟩ h' ⟨rfl, h0, h1, ht⟩
  dsimp only at h0 h1 ht ⊢
  refine wp_ifB (fun hc => ?_) fun hc => ?_
  ·rw [ltI_iff, natI_def, hla] at hc
   refine s_at ha h0 (by omega) fun _ => s_at hb h0 (by omega) fun _ => wp_ifB (fun hn => ?_) fun hn => ?_
   ·rw [neI_iff] at hn
    exact s_ret ⟨fun h => absurd h (by decide), fun _ => ⟨rfl, .inr ⟨rfl, rfl, fun e => hn (by rw [e])⟩⟩⟩
   ·rw [neI_not] at hn
    rw [add_ok (by omega) (by omega)]
    refine s_ret ⟨fun _ => ⟨(i + 1, ()), rfl, ⟨rfl, by dsimp only; omega, by dsimp only; omega, ?_⟩, by dsimp only; omega⟩, fun h => absurd rfl h⟩
    dsimp only
    rw [show (i + 1).toNat = i.toNat + 1 by omega]
    exact take_eq_succ (by omega) (by omega) ht hn
  ·rw [ltI_not, natI_def, hla] at hc
   refine s_ret ⟨fun h => absurd h (by decide), fun _ => ⟨rfl, .inl ⟨rfl, rfl, ?_⟩⟩⟩
   rwa [List.take_of_length_le (by omega), List.take_of_length_le (by omega)] at ht
 ·rintro t vs h' ⟨rfl, ⟨ht, hv, e⟩ | ⟨ht, hv, e⟩⟩
  ·exact s_exit ht () hv ⟨rfl, Ext.refl _, (_, ()), rfl, by show Bool.true = _; simp [e]⟩
  ·exact s_skip (by omega) (s_exit ht (Bool.false, ()) hv ⟨rfl, Ext.refl _, (_, ()), rfl, by show Bool.false = _; simp [e]⟩)
theorem c_same5I {a b : Sl} {l m : List Int} (ha : Lst .i64 h a l) (hb : Lst .i64 h b m) : Gives P (F_law5_sameInts S a b) [.one .bool] h fun (x : Bool × Unit) _ => x.1 = decide (l = m) := by
 have hla := ha.len
 have hlb := hb.len
 have hbd := ha.bound
 unfold F_law5_sameInts Gives
 refine wp_ifB (fun hc => ?_) fun hc => ?_
 ·rw [neI_iff, natI_def, natI_def, hla, hlb] at hc
  refine s_ret ⟨rfl, Ext.refl h, (_, ()), rfl, ?_⟩
  have : l ≠ m := fun e => hc (by rw [e])
  show Bool.false = _
  simp [this]
 rw [neI_not, natI_def, natI_def, hla, hlb] at hc
 refine wp_while (fun (s : Int × Unit) h' => h' = h ∧ 0 ≤ s.1 ∧ s.1 ≤ l.length ∧ l.take s.1.toNat = m.take s.1.toNat) (fun s _ => l.length - s.1.toNat)
  (fun t vs h' => h' = h ∧ (t = 2 ∧ vs = [] ∧ l = m ∨ t = 1 ∧ vs = [.bool Bool.false] ∧ l ≠ m)) ⟨rfl, by simp, by simp, by simp⟩ ?_ ?_
 ·rintro ⟨(i : Int), u⟩ h' ⟨rfl, h0, h1, ht⟩
  dsimp only at h0 h1 ht ⊢
  refine wp_ifB (fun hc => ?_) fun hc => ?_
  ·rw [ltI_iff, natI_def, hla] at hc
   refine s_at ha h0 (by omega) fun _ => s_at hb h0 (by omega) fun _ => wp_ifB (fun hn => ?_) fun hn => ?_
   ·rw [neI_iff] at hn
    exact s_ret ⟨fun h => absurd h (by decide), fun _ => ⟨rfl, .inr ⟨rfl, rfl, fun e => hn (by rw [e])⟩⟩⟩
   ·rw [neI_not] at hn
    rw [add_ok (by omega) (by omega)]
    refine s_ret ⟨fun _ => ⟨(i + 1, ()), rfl, ⟨rfl, by dsimp only; omega, by dsimp only; omega, ?_⟩, by dsimp only; omega⟩, fun h => absurd rfl h⟩
    dsimp only
    rw [show (i + 1).toNat = i.toNat + 1 by omega]
    exact take_eq_succ (by omega) (by omega) ht hn
  ·rw [ltI_not, natI_def, hla] at hc
   refine s_ret ⟨fun h => absurd h (by decide), fun _ => ⟨rfl, .inl ⟨rfl, rfl, ?_⟩⟩⟩
   rwa [List.take_of_length_le (by omega), List.take_of_length_le (by omega)] at ht
 ·rintro t vs h' ⟨rfl, ⟨ht, hv, e⟩ | ⟨ht, hv, e⟩⟩
  ·exact s_exit ht () hv ⟨rfl, Ext.refl _, (_, ()), rfl, by show Bool.true = _; simp [e]⟩
  ·exact s_skip (by omega) (s_exit ht (Bool.false, ()) hv ⟨rfl, Ext.refl _, (_, ()), rfl, by show Bool.false = _; simp [e]⟩)
end Go.Sw.Piece

set_option linter.unusedVariables false
set_option linter.unusedSimpArgs false
set_option maxRecDepth 100000
namespace Go.Sw.Piece
open Go.Sw.Any Go.Sw.Codec
open Go.Sw.Tree (iv s_putAll s_newP s_getP s_getT s_putP eqI_self Placed cell_own wp_whileG minI_eq)
variable {P : Program} {S : Ids} {h : Heap} {Q : Nat → List Value → Heap → Prop}
structure MI (S : Ids) (h0 : Heap) (p0 : Addr) (enc : Int) (i : Nat) (h : Heap) (T : TX) (s : Sl) (L : List Int) : Prop where
 k : Keep h0.size h0 h
 t : TextR S h0.size h T
 p : T.p = p0
 en : T.enc = enc
 li : T.limit = 65536
 A : T.A.length ≤ 4 * i
 z : ∀ i, T.Z i → h0.size ≤ i
 el : els enc T.cur.ps = L.map fun a => (a, -1)
 fit : ∀ a, a ∈ L → 0 < sizeF enc a
 len : L.length ≤ i
 ol : OwnL h0.size .i64 h s L
 nz : ∀ b, s.base = some b → ¬ T.Z b.block
end Go.Sw.Piece

set_option linter.unusedVariables false
set_option linter.unusedSimpArgs false
set_option maxRecDepth 100000
namespace Go.Sw.Piece
open Go.Sw.Any Go.Sw.Codec
open Go.Sw.Tree (iv s_putAll s_newP s_getP s_getT s_putP eqI_self Placed cell_own wp_whileG minI_eq)
variable {P : Program} {S : Ids} {h : Heap} {Q : Nat → List Value → Heap → Prop}
abbrev at0 (b : Nat) : Addr := ⟨b, 0, none⟩
abbrev slb (b k : Nat) : Sl := ⟨some (at0 b), k, k⟩
def Reg (n : Nat) (h : Heap) (b : Nat) (vs : List Value) : Prop :=
 n ≤ b ∧ ∃ (cs : Array Value) (elem : TypeId), h[b]? = some (.cells cs elem) ∧ vs.length ≤ cs.size ∧ ∀ (i : Nat) (v : Value), vs[i]? = some v → cs[i]? = some v
def Blk (n : Nat) (h : Heap) (b k : Nat) : Prop := n ≤ b ∧ ∃ (cs : Array Value) (elem : TypeId), h[b]? = some (.cells cs elem) ∧ k ≤ cs.size
def SChg (F : Nat → Prop) (h h' : Heap) : Prop := Chg F h h' ∧ ∀ (i : Nat) (cs : Array Value) (elem : TypeId), h[i]? = some (.cells cs elem) → ∃ cs', h'[i]? = some (.cells cs' elem) ∧ cs'.size = cs.size
theorem blk_lt {i : Nat} {o : Obj} (e : h[i]? = some o) : i < h.size := by
 by_cases hlt : i < h.size
 ·exact hlt
 ·rw [Array.getElem?_eq_none (by omega)] at e; cases e
theorem SChg.refl (F : Nat → Prop) (h : Heap) : SChg F h h := ⟨Chg.refl F h, fun i cs elem e => ⟨cs, e, rfl⟩⟩
theorem SChg.of_ext {F : Nat → Prop} {a b : Heap} (e : Ext a b) : SChg F a b := ⟨Chg.of_ext e, fun i cs elem k => ⟨cs, by rw [e.2.1 i (blk_lt k)]; exact k, rfl⟩⟩
theorem SChg.trans {F G : Nat → Prop} {a b c : Heap} (u : SChg F a b) (v : SChg G b c) (hg : ∀ i, i < a.size → G i → F i) : SChg F a c :=
 ⟨u.1.trans v.1 hg, fun i cs elem k => let ⟨cs1, k1, s1⟩ := u.2 i cs elem k; let ⟨cs2, k2, s2⟩ := v.2 i cs1 elem k1; ⟨cs2, k2, s2.trans s1⟩⟩
theorem Reg.lt {n b : Nat} {vs : List Value} (r : Reg n h b vs) : b < h.size := let ⟨_, _, _, e, _⟩ := r; blk_lt e
theorem Reg.keep {n b : Nat} {vs : List Value} {h' : Heap} (r : Reg n h b vs) (e : h'[b]? = h[b]?) : Reg n h' b vs := ⟨r.1, by rw [e]; exact r.2⟩
theorem Reg.chg {n b : Nat} {vs : List Value} {h' : Heap} {F : Nat → Prop} (r : Reg n h b vs) (c : Chg F h h') (hF : ¬ F b) : Reg n h' b vs := r.keep (c.2.1 b r.lt hF)
theorem Reg.ext {n b : Nat} {vs : List Value} {h' : Heap} (r : Reg n h b vs) (e : Ext h h') : Reg n h' b vs := r.keep (e.2.1 b r.lt)
theorem Reg.pre {n b : Nat} {vs ws : List Value} (r : Reg n h b (vs ++ ws)) : Reg n h b vs := by
 obtain ⟨h1, cs, elem, e, hl, hv⟩ := r
 rw [List.length_append] at hl
 exact ⟨h1, cs, elem, e, by omega, fun i v hi => hv i v (by rw [List.getElem?_append_left (List.getElem?_eq_some_iff.1 hi).1]; exact hi)⟩
theorem Reg.cell {n b i : Nat} {v : Value} {vs : List Value} (r : Reg n h b vs) (hi : vs[i]? = some v) : Sw.cell h ⟨b, i, none⟩ = some v := by
 obtain ⟨h1, cs, elem, e, hl, hv⟩ := r
 simp [Sw.cell, e, hv i v hi]
theorem Reg.lst {n b c : Nat} {k : IntKind} {l : List Int} {vs : List Value} (r : Reg n h b (l.map (.int k) ++ vs)) (hw : ∀ x, x ∈ l → fitsI k x) (hc : l.length ≤ c) (hm : c < 2 ^ 63) : Lst k h ⟨some (at0 b), l.length, c⟩ l :=
 ⟨⟨by simp, fun i v hi => ⟨at0 b, rfl, by rw [add_mk, Nat.zero_add]; exact r.pre.cell hi⟩⟩, hc, hm, hw⟩
theorem Reg.blk {n b : Nat} {vs : List Value} (r : Reg n h b vs) : Blk n h b vs.length := let ⟨h1, cs, elem, e, hl, _⟩ := r; ⟨h1, cs, elem, e, hl⟩
theorem Blk.reg {n b k : Nat} (r : Blk n h b k) : ∃ vs, vs.length = k ∧ Reg n h b vs := by
 obtain ⟨h1, cs, elem, e, hl⟩ := r
 refine ⟨cs.toList.take k, by rw [List.length_take]; simp; omega, h1, cs, elem, e, by rw [List.length_take]; simp; omega, fun i v hi => ?_⟩
 rw [List.getElem?_take] at hi
 split at hi
 ·simpa using hi
 ·cases hi
theorem Blk.lt {n b k : Nat} (r : Blk n h b k) : b < h.size := let ⟨_, _, _, e, _⟩ := r; blk_lt e
theorem Blk.le {n b k m : Nat} (r : Blk n h b k) (hm : m ≤ k) : Blk n h b m := let ⟨h1, cs, elem, e, hl⟩ := r; ⟨h1, cs, elem, e, Nat.le_trans hm hl⟩
theorem Blk.schg {n b k : Nat} {h' : Heap} {F : Nat → Prop} (r : Blk n h b k) (c : SChg F h h') : Blk n h' b k := by
 obtain ⟨h1, cs, elem, e, hl⟩ := r
 obtain ⟨cs', e', s⟩ := c.2 b cs elem e
 exact ⟨h1, cs', elem, e', by omega⟩
theorem Blk.keep {n b k : Nat} {h' : Heap} (r : Blk n h b k) (e : h'[b]? = h[b]?) : Blk n h' b k := ⟨r.1, by rw [e]; exact r.2⟩
theorem Blk.chg {n b k : Nat} {h' : Heap} {F : Nat → Prop} (r : Blk n h b k) (c : Chg F h h') (hF : ¬ F b) : Blk n h' b k := r.keep (c.2.1 b r.lt hF)
theorem s_putR {n b off : Nat} {pre mid post : List Value} (new : List Value) {K : Prog} (r : Reg n h b (pre ++ mid ++ post)) (ho : off = pre.length) (hl : new.length = mid.length) (hf : ∀ v ∈ new, flat v = true)
  (hk : ∀ h', Reg n h' b (pre ++ new ++ post) → SChg (fun i => i = b) h h' → h'.size = h.size → wp P K h' Q) : wp P (.store (some ⟨b, off, none⟩) new K) h Q := by
 subst ho
 obtain ⟨h1, cs, elem, e, hl2, hv⟩ := r
 simp only [List.length_append] at hl2
 obtain ⟨w, cs', c1, c2, c3, c4, c5, c6⟩ := puts_block (vs := new) (i := 0) (off := pre.length) e hf (by omega)
 refine ⟨⟨b, pre.length, none⟩, rfl, w, hk _ ⟨h1, cs', elem, c1, by simp only [List.length_append]; omega, fun j v hj => ?_⟩ ⟨⟨by unfold puts; omega, fun i hi hne => c6 i hne, fun a e => by unfold puts; rw [thaw_putFrom]; exact e⟩, fun i cs0 el0 k => ?_⟩ (by unfold puts; omega)⟩
 ·by_cases hj1 : j < pre.length
  ·rw [c4 j (.inl (by omega))]
   refine hv j v ?_
   rw [List.append_assoc, List.getElem?_append_left hj1] at hj ⊢; exact hj
  ·rw [List.append_assoc, List.getElem?_append_right (by omega)] at hj
   by_cases hj2 : j - pre.length < new.length
   ·rw [List.getElem?_append_left hj2] at hj
    have := c3 _ _ hj
    rwa [show pre.length + 0 + (j - pre.length) = j by omega] at this
   ·rw [List.getElem?_append_right (by omega)] at hj
    rw [c4 j (.inr (by omega))]
    refine hv j v ?_
    rw [List.append_assoc, List.getElem?_append_right (by omega), List.getElem?_append_right (by omega), ← hl]; exact hj
 ·by_cases hi : i = b
  ·subst hi
   rw [e] at k; cases k
   exact ⟨cs', c1, c2⟩
  ·exact ⟨cs0, by show (puts h _ new)[i]? = _; unfold puts; rw [c6 i hi]; exact k, rfl⟩
theorem s_copyR {n b c m : Nat} {k : IntKind} {x : Sl} {l : List Int} {mid post : List Value} {K : Nat → Prog} (r : Reg n h b (mid ++ post)) (hx : Lst k h x l) (hl : l.length = mid.length) (hm : l.length ≤ m)
  (hk : ∀ h', Reg n h' b (l.map (.int k) ++ post) → SChg (fun i => i = b) h h' → h'.size = h.size → wp P (K l.length) h' Q) : wp P (.copy 1 ⟨some (at0 b), m, c⟩ x K) h Q := by
 have hxl := hx.len
 obtain ⟨h1, cs, elem, e, hl2, hv⟩ := r
 simp only [List.length_append] at hl2
 have hmin : min x.len m = l.length := by omega
 obtain ⟨w, cs', c1, c2, c3, c4, c5, c6⟩ := puts_block (vs := l.map (.int k)) (i := 0) (off := 0) e (by intro y hy; obtain ⟨z, _, rfl⟩ := List.mem_map.1 hy; rfl) (by rw [List.length_map]; omega)
 rw [List.length_map] at c4
 refine ⟨l.map (.int k), ?_, ?_⟩
 ·dsimp only
  rw [hmin]
  have := hx.rd.firsts
  rw [hxl] at this; exact this
 ·dsimp only
  rw [hmin]
  refine ⟨w, hk _ ⟨h1, cs', elem, c1, by simp only [List.length_append, List.length_map]; omega, fun j v hj => ?_⟩ ⟨⟨Nat.le_of_eq c5.symm, fun i hi hne => c6 i hne, fun a e => by unfold puts; rw [thaw_putFrom]; exact e⟩, fun i cs0 el0 k => ?_⟩ c5⟩
  ·by_cases hj1 : j < l.length
   ·rw [List.getElem?_append_left (by rw [List.length_map]; exact hj1)] at hj
    have := c3 _ _ hj
    rwa [show 0 + 0 + j = j by omega] at this
   ·rw [List.getElem?_append_right (by rw [List.length_map]; omega), List.length_map] at hj
    rw [c4 j (.inr (by omega))]
    refine hv j v ?_
    rw [List.getElem?_append_right (by omega), ← hl]; exact hj
  ·by_cases hi : i = b
   ·subst hi
    rw [e] at k; cases k
    exact ⟨cs', c1, c2⟩
   ·exact ⟨cs0, by show (puts h _ _)[i]? = _; unfold puts; rw [c6 i hi]; exact k, rfl⟩
theorem s_mkB {bytes n size : Nat} {zero : List Value} {K : Sl → Prog} (hz : zero.length = size) (h1 : n < 2 ^ 63) (h2 : bytes * n ≤ 2 ^ 48) (hk : ∀ h', Ext h h' → Blk h.size h' h.size (n * size) → h'.size = h.size + 1 → wp P (K (slb h.size n)) h' Q) : wp P (.mk bytes zero (n : Int) (n : Int) K) h Q := by
 refine ⟨⟨by omega, Int.le_refl _, by omega, by exact_mod_cast h2⟩, fun elem => hk _ (Ext.push ..) ⟨Nat.le_refl _, _, elem, Array.getElem?_push_size, ?_⟩ (by simp)⟩
 simp only [List.size_toArray, zeros_len hz, Int.toNat_natCast]
 exact Nat.le_refl _
structure PenS where
 ob : Nat
 all : Option Nat
 pu : Sl
 ws : List Nat
def allSl : Option Nat → Sl
 | none => ⟨none, 0, 0⟩
 | some b => slb b 200
def penM (s : PenS) (i : Nat) : Prop := i = s.ob ∨ ∃ a, s.pu.base = some a ∧ a.block = i
def penW (s : PenS) (i : Nat) : Prop := s.all = some i ∨ i ∈ s.ws
structure PenR (n : Nat) (h : Heap) (s : PenS) : Prop where
 ob : Own n 1 h ⟨some (at0 s.ob), 2, 2⟩ [slv (allSl s.all), slv s.pu]
 all : ∀ b, s.all = some b → Blk n h b 600
 pu : Own n 1 h s.pu (s.ws.map fun b => slv (slb b 400))
 ws : ∀ b, b ∈ s.ws → Blk n h b 400
 nd : s.ws.Nodup
 na : ∀ b, s.all = some b → b ∉ s.ws
 mw : ∀ i, penM s i → ¬ penW s i
 mm : ∀ a, s.pu.base = some a → a.block ≠ s.ob
 few : s.ws.length ≤ 8
def PenO (n : Nat) (h : Heap) (p : Option Addr) : Option PenS → Prop
 | none => p = none
 | some s => p = some (at0 s.ob) ∧ PenR n h s
def oM : Option PenS → Nat → Prop
 | none, _ => False
 | some s, i => penM s i
def oZ : Option PenS → Nat → Prop
 | none, _ => False
 | some s, i => penM s i ∨ penW s i
theorem oM_Z {s : Option PenS} {i : Nat} (h : oM s i) : oZ s i := by cases s with | none => exact h | some s => exact .inl h
def RoleA (s : Option PenS) (b : Nat) : Prop := (∃ t, s = some t ∧ t.all = some b) ∨ ¬ oZ s b
def RoleW (s : Option PenS) (j b : Nat) : Prop := (∃ t, s = some t ∧ t.ws[j]? = some b) ∨ ¬ oZ s b
theorem PenR.in {n : Nat} {s : PenS} (r : PenR n h s) {i : Nat} (hi : penM s i ∨ penW s i) : n ≤ i ∧ i < h.size := by
 rcases hi with (rfl | ⟨a, ha, rfl⟩) | hi | hi
 ·exact r.ob.lt rfl
 ·exact r.pu.lt ha
 ·have := r.all i hi; exact ⟨this.1, this.lt⟩
 ·have := r.ws i hi; exact ⟨this.1, this.lt⟩
theorem PenO.in {n : Nat} {p : Option Addr} {s : Option PenS} (r : PenO n h p s) {i : Nat} (hi : oZ s i) : n ≤ i ∧ i < h.size := by
 cases s with
 | none => exact hi.elim
 | some s => exact r.2.in hi
theorem PenR.schg {n : Nat} {s : PenS} {h' : Heap} {F : Nat → Prop} (r : PenR n h s) (c : SChg F h h') (hF : ∀ i, penM s i → ¬ F i) : PenR n h' s where
 ob := c.1.own r.ob fun x hx => by cases hx; exact hF _ (.inl rfl)
 all := fun b hb => (r.all b hb).schg c
 pu := c.1.own r.pu fun x hx => hF _ (.inr ⟨x, hx, rfl⟩)
 ws := fun b hb => (r.ws b hb).schg c
 nd := r.nd
 na := r.na
 mw := r.mw
 mm := r.mm
 few := r.few
theorem PenO.schg {n : Nat} {p : Option Addr} {s : Option PenS} {h' : Heap} {F : Nat → Prop} (r : PenO n h p s) (c : SChg F h h') (hF : ∀ i, oM s i → ¬ F i) : PenO n h' p s := by
 cases s with
 | none => exact r
 | some s => exact ⟨r.1, r.2.schg c hF⟩
theorem PenO.ext {n : Nat} {p : Option Addr} {s : Option PenS} {h' : Heap} (r : PenO n h p s) (e : Ext h h') : PenO n h' p s := r.schg (SChg.of_ext (F := fun _ => False) e) fun _ _ x => x
theorem PenR.chg {n : Nat} {s : PenS} {h' : Heap} {F : Nat → Prop} (r : PenR n h s) (c : Chg F h h') (hF : ∀ i, penM s i ∨ penW s i → ¬ F i) : PenR n h' s where
 ob := c.own r.ob fun x hx => by cases hx; exact hF _ (.inl (.inl rfl))
 all := fun b hb => (r.all b hb).chg c (hF _ (.inr (.inl hb)))
 pu := c.own r.pu fun x hx => hF _ (.inl (.inr ⟨x, hx, rfl⟩))
 ws := fun b hb => (r.ws b hb).chg c (hF _ (.inr (.inr hb)))
 nd := r.nd
 na := r.na
 mw := r.mw
 mm := r.mm
 few := r.few
theorem PenO.chg {n : Nat} {p : Option Addr} {s : Option PenS} {h' : Heap} {F : Nat → Prop} (r : PenO n h p s) (c : Chg F h h') (hF : ∀ i, oZ s i → ¬ F i) : PenO n h' p s := by
 cases s with
 | none => exact r
 | some s => exact ⟨r.1, r.2.chg c hF⟩
theorem RoleA.notM {n : Nat} {p : Option Addr} {s : Option PenS} {b : Nat} (r : PenO n h p s) (ra : RoleA s b) : ¬ oM s b := by
 rcases ra with ⟨t, rfl, hb⟩ | hz
 ·exact fun hm => r.2.mw b hm (.inl hb)
 ·exact fun hm => hz (oM_Z hm)
theorem RoleW.notM {n j : Nat} {p : Option Addr} {s : Option PenS} {b : Nat} (r : PenO n h p s) (ra : RoleW s j b) : ¬ oM s b := by
 rcases ra with ⟨t, rfl, hb⟩ | hz
 ·exact fun hm => r.2.mw b hm (.inr (List.mem_of_getElem? hb))
 ·exact fun hm => hz (oM_Z hm)
end Go.Sw.Piece

set_option linter.unusedVariables false
set_option linter.unusedSimpArgs false
set_option maxRecDepth 100000
namespace Go.Sw.Piece
open Go.Sw.Any Go.Sw.Codec
open Go.Sw.Tree (iv s_putAll s_newP s_getP s_getT s_putP eqI_self Placed cell_own wp_whileG minI_eq)
variable {P : Program} {S : Ids} {h : Heap} {Q : Nat → List Value → Heap → Prop}
structure PenEd (n : Nat) (h h' : Heap) (p : Option Addr) (s s' : Option PenS) (b k : Nat) : Prop where
 pen : PenO n h' p s'
 chg : Chg (oM s) h h'
 blk : Blk n h' b (k * 3)
 zone : ∀ i, oZ s' i → oZ s i ∨ h.size ≤ i
 old : oZ s b ∨ h.size ≤ b
 role : RoleA s' b
theorem Blk.mono {n m b k : Nat} (r : Blk n h b k) (hm : m ≤ n) : Blk m h b k := ⟨Nat.le_trans hm r.1, r.2⟩
theorem PenEd.fresh {n : Nat} {h1 h' : Heap} {p : Option Addr} {s : Option PenS} {k : Nat} (hp : PenO n h p s) (hn : n ≤ h.size) (e1 : Ext h h1) (e2 : Ext h1 h') (bl : Blk h1.size h' h1.size (k * 3)) : PenEd n h h' p s s h1.size k :=
 ⟨hp.ext (e1.trans e2), Chg.of_ext (e1.trans e2), bl.mono (Nat.le_trans hn e1.size), fun i hi => .inl hi, .inr e1.size, .inr fun hz => by have := (hp.in hz).2; have := e1.size; omega⟩
theorem c_pen_edits {n : Nat} {p : Option Addr} {s : Option PenS} {k : Nat} (hp : PenO n h p s) (hn : n ≤ h.size) (hk : k ≤ 1099511627776) :
  wp P (F_pen_edits S p (k : Int)) h fun tg vs h' => tg = 0 ∧ ∃ b s', vs = [slv (slb b k)] ∧ PenEd n h h' p s s' b k := by
 unfold F_pen_edits
 refine bind_bool (p = none ∨ 200 < k) ?_ fun bb h1 e1 hb => wp_ifB (fun hx => ?_) fun hx => ?_
 ·cases p with
  | none => exact s_ifT (s_ret ⟨rfl, Ext.refl _, true, rfl, Iff.intro (fun _ => .inl rfl) fun _ => rfl⟩)
  | some a => exact s_ifF (s_ret ⟨rfl, Ext.refl _, _, rfl, by rw [gtI_iff]; exact Iff.intro (fun h => .inr (by omega)) fun h => h.elim (fun h => by cases h) fun h => by omega⟩)
 ·exact s_mkB (size := 3) rfl (by omega) (by omega) fun h2 e2 bl _ => s_ret ⟨rfl, h1.size, s, rfl, PenEd.fresh hp hn e1 e2 bl⟩
 ·have hno : ¬ (p = none ∨ 200 < k) := fun h => by rw [hb.2 h] at hx; cases hx
  cases s with
  | none => exact absurd (.inl hp) hno
  | some t =>
   obtain ⟨rfl, r⟩ := hp
   have r1 : PenR n h1 t := (PenO.ext (s := some t) ⟨rfl, r⟩ e1).2
   have hk2 : k ≤ 200 := by omega
   refine wp_bind (fun tg vs h' => tg = 0 ∧ vs = [] ∧ ∃ t' b, t'.all = some b ∧ t'.ob = t.ob ∧ PenR n h' t' ∧ Chg (penM t) h h' ∧ (∀ i, penM t' i ∨ penW t' i → oZ (some t) i ∨ h.size ≤ i) ∧ (oZ (some t) b ∨ h.size ≤ b)) ?_ ?_
   ·refine wp_grd rfl (wp_grd rfl (s_cell (b := .sl) (allSl t.all) rfl r1.ob.cells (by rfl) ?_))
    cases ha : t.all with
    | some b =>
     exact s_ifF (s_ret ⟨rfl, rfl, t, b, ha, rfl, r1, Chg.of_ext e1, fun i hi => .inl hi, .inl (.inr (.inl ha))⟩)
    | none =>
     refine s_ifT (s_mkB (n := 200) (size := 3) rfl (by decide) (by decide) fun h2 e2 bl _ => ?_)
     have e02 := e1.trans e2
     have r2 : PenR n h2 t := (PenO.ext (s := some t) ⟨rfl, r1⟩ e2).2
     refine wp_grd rfl (wp_grd rfl (s_setC' (.slice (some (at0 h1.size)) 200 200) r2.ob (by simp) rfl fun h3 o3 u3 => ?_))
     have c3 : Chg (fun i => i = t.ob) h2 h3 := upd_chg u3
     have inr := fun i (hi : penM t i ∨ penW t i) => r1.in hi
     refine s_ret ⟨rfl, rfl, { t with all := some h1.size }, h1.size, rfl, rfl, ?_, ?_, ?_, .inr e1.size⟩
     ·refine ⟨o3, ?_, ?_, ?_, r.nd, ?_, ?_, r.mm, r.few⟩
      ·intro b hb
       cases hb
       exact (bl.mono (Nat.le_trans hn e1.size)).chg c3 (by have := (inr t.ob (.inl (.inl rfl))).2; omega)
      ·exact c3.own r2.pu fun x hx => r.mm x hx
      ·exact fun b hb => (r2.ws b hb).chg c3 fun e => r.mw t.ob (.inl rfl) (.inr (e ▸ hb))
      ·intro b hb hw
       cases hb
       have := (inr h1.size (.inr (.inr hw))).2; omega
      ·intro i hi hw
       rcases hw with hw | hw
       ·cases hw
        have := (inr h1.size (.inl hi)).2; omega
       ·exact r.mw i hi (.inr hw)
     ·exact (Chg.of_ext e02).trans (c3.mono fun i _ e => .inl e) fun i _ x => x
     ·rintro i (hi | hi | hi)
      ·exact .inl (.inl hi)
      ·cases hi; exact .inr e1.size
      ·exact .inl (.inr (.inr hi))
   ·rintro tg vs h2 ⟨rfl, rfl, t', b, ha, hob, r2, c2, hz, hbo⟩
    refine s_tag (s_cast0 (wp_grd rfl (wp_grd rfl (s_cell (b := .sl) (slb b 200) (by rw [← hob]) r2.ob.cells (by rw [ha]; rfl) (wp_grd ?_ ?_)))))
    ·exact andB_iff.2 ⟨leB_ok (by omega) (by show (k : Int) ≤ ((200 : Nat) : Int); omega), leB_ok (by omega) (by rw [toN_def]; omega)⟩
    ·have ht : toN (k : Int) = k := by rw [toN_def]; omega
     rw [cutBase_zero, ht, show subN k 0 = k from rfl]
     exact s_ret ⟨rfl, b, some t', rfl, ⟨by rw [← hob], r2⟩, c2, (r2.all b ha).le (by omega), hz, hbo, .inl ⟨t', rfl, ha⟩⟩
structure PenPu (n : Nat) (h h' : Heap) (p : Option Addr) (s s' : Option PenS) (i b k : Nat) : Prop where
 pen : PenO n h' p s'
 chg : Chg (oM s) h h'
 blk : Blk n h' b k
 zone : ∀ i, oZ s' i → oZ s i ∨ h.size ≤ i
 old : oZ s b ∨ h.size ≤ b
 role : RoleW s' i b
 new : (∃ t, s' = some t ∧ t.ws[i]? = some b) ∨ h.size ≤ b
 ra : ∀ c, c < h.size → RoleA s c → RoleA s' c
 rw : ∀ j c, c < h.size → RoleW s j c → RoleW s' j c
theorem PenPu.fresh {n i : Nat} {h1 h' : Heap} {p : Option Addr} {s : Option PenS} {k : Nat} (hp : PenO n h p s) (hn : n ≤ h.size) (e1 : Ext h h1) (e2 : Ext h1 h') (bl : Blk h1.size h' h1.size k) : PenPu n h h' p s s i h1.size k :=
 ⟨hp.ext (e1.trans e2), Chg.of_ext (e1.trans e2), bl.mono (Nat.le_trans hn e1.size), fun i hi => .inl hi, .inr e1.size, .inr fun hz => by have := (hp.in hz).2; have := e1.size; omega, .inr e1.size, fun _ _ x => x, fun _ _ _ x => x⟩
theorem c_pen_put {n : Nat} {p : Option Addr} {s : Option PenS} {i k : Nat} (hp : PenO n h p s) (hn : n ≤ h.size) (hk : k ≤ 1099511627776) (hi : i < 2 ^ 62) :
  wp P (F_pen_put S p (i : Int) (k : Int)) h fun tg vs h' => tg = 0 ∧ ∃ b s', vs = [slv (slb b k)] ∧ PenPu n h h' p s s' i b k := by
 unfold F_pen_put
 refine bind_bool (p = none ∨ 8 ≤ i ∨ 400 < k) ?_ fun bb h1 e1 hb => wp_ifB (fun hx => ?_) fun hx => ?_
 ·cases p with
  | none => exact s_ifT (s_ret ⟨rfl, Ext.refl _, true, rfl, Iff.intro (fun _ => .inl rfl) fun _ => rfl⟩)
  | some a =>
   refine s_ifF (wp_ifB (fun hc => ?_) fun hc => ?_)
   ·rw [geI_iff] at hc
    exact s_ret ⟨rfl, Ext.refl _, true, rfl, Iff.intro (fun _ => .inr (.inl (by omega))) fun _ => rfl⟩
   ·rw [geI_not] at hc
    exact s_ret ⟨rfl, Ext.refl _, _, rfl, by rw [gtI_iff]; exact Iff.intro (fun h => .inr (.inr (by omega))) fun h => h.elim (fun h => by cases h) fun h => by omega⟩
 ·exact s_mkB (size := 1) rfl (by omega) (by omega) fun h2 e2 bl _ => s_ret ⟨rfl, h1.size, s, rfl, PenPu.fresh hp hn e1 e2 (by rw [Nat.mul_one] at bl; exact bl)⟩
 ·have hno : ¬ (p = none ∨ 8 ≤ i ∨ 400 < k) := fun h => by rw [hb.2 h] at hx; cases hx
  cases s with
  | none => exact absurd (.inl hp) hno
  | some t =>
   obtain ⟨rfl, r⟩ := hp
   have r1 : PenR n h1 t := (PenO.ext (s := some t) ⟨rfl, r⟩ e1).2
   have hk2 : k ≤ 400 := by omega
   have hi2 : i < 8 := by omega
   have slots := fun (t' : PenS) (h' : Heap) (r' : PenR n h' t') => (cells_iff.1 r'.ob.cells 1 _ rfl : Sw.cell h' ((at0 t'.ob).add 1) = some (slv t'.pu))
   refine wp_whileG (G := PenS) (fun g _ h' => PenR n h' g ∧ g.ob = t.ob ∧ g.all = t.all ∧ (∃ l, g.ws = t.ws ++ l ∧ ∀ x, x ∈ l → h.size ≤ x) ∧ Chg (penM t) h h' ∧ (∀ i, penM g i → penM t i ∨ h.size ≤ i)) (fun g => 8 - g.ws.length)
    (fun tg vs h' => tg = 2 ∧ vs = [] ∧ ∃ g : PenS, PenR n h' g ∧ g.ob = t.ob ∧ g.all = t.all ∧ (∃ l, g.ws = t.ws ++ l ∧ ∀ x, x ∈ l → h.size ≤ x) ∧ Chg (penM t) h h' ∧ (∀ i, penM g i → penM t i ∨ h.size ≤ i) ∧ i < g.ws.length)
    t ⟨r1, rfl, rfl, ⟨[], by simp, by simp⟩, Chg.of_ext e1, fun i hi => .inl hi⟩ ?_ ?_
   ·rintro g ⟨⟩ h2 ⟨rg, gob, gall, ⟨gl, gws, gfr⟩, cg, gm⟩
    have hlen : g.pu.len = g.ws.length := by have := rg.pu.1; simpa using this
    have hpc : at0 t.ob = at0 g.ob := by rw [gob]
    rw [hpc]
    refine wp_grd rfl (wp_grd rfl (s_cell (b := .sl) g.pu rfl rg.ob.cells rfl (wp_ifB (fun hc => ?_) fun hc => ?_)))
    ·rw [leI_iff, natI_def, hlen] at hc
     refine wp_grd rfl (wp_grd rfl (s_cell (b := .sl) g.pu rfl rg.ob.cells rfl (s_mkB (n := 400) (size := 1) rfl (by decide) (by decide) fun h3 e3 bl sz => ?_)))
     have r3 : PenR n h3 g := (PenO.ext (s := some g) ⟨rfl, rg⟩ e3).2
     refine s_ckC (slots g h3 r3) (fun el => ?_)
     have e4 : Ext h3 (h3.push (.cells [slv (slb h2.size 400)].toArray el)) := Ext.push ..
     have rd4 : Rd 1 (h3.push (.cells [slv (slb h2.size 400)].toArray el)) ⟨some ⟨h3.size, 0, none⟩, 1, 1⟩ [slv (slb h2.size 400)] := rd_alloc rfl
     generalize h3.push (.cells [slv (slb h2.size 400)].toArray el) = h4 at e4 rd4 ⊢
     have r4 : PenR n h4 g := (PenO.ext (s := some g) ⟨rfl, r3⟩ e4).2
     refine s_ckC (slots g h4 r4) ?_
     have s4 := e3.size; have s5 := e4.size; have s6 := cg.1
     refine wp_appendE r4.pu (by omega) rd4 (by intro v hv; rw [List.mem_singleton.1 hv]; rfl) rfl (by dsimp only; omega) (by dsimp only; omega) fun q h5 o5 l5 u5 b5 _ => ?_
     have c5 : Chg (fun i => ∃ a, g.pu.base = some a ∧ a.block = i) h4 h5 := Chg.of_upd u5 fun x hx _ => ⟨x, hx, rfl⟩
     have ob5 := c5.own r4.ob fun x hx ⟨y, hy, e⟩ => by cases hx; exact rg.mm y hy e
     refine wp_grd rfl (wp_grd rfl (s_setC' (slv q) ob5 (by simp) rfl fun h6 o6 u6 => ?_))
     have c6 : Chg (fun i => i = g.ob) h5 h6 := upd_chg u6
     have c46 : Chg (penM g) h4 h6 := (c5.mono fun i _ x => .inr x).trans (c6.mono fun i _ x => .inl x) fun i _ x => x
     have c26 : Chg (penM g) h2 h6 := (Chg.of_ext (e3.trans e4)).trans c46 fun i _ x => x
     have inr := fun i (hi : penM g i ∨ penW g i) => rg.in hi
     have qb : ∀ a, q.base = some a → (g.pu.base = some a ∨ h4.size ≤ a.block) := b5
     have qne : ∀ a, q.base = some a → a.block ≠ g.ob := fun a ha => by
      rcases qb a ha with h | h
      ·exact rg.mm a h
      ·have := (inr g.ob (.inl (.inl rfl))).2; omega
     refine s_ret ⟨fun _ => ⟨{ g with pu := q, ws := g.ws ++ [h2.size] }, (), rfl, ⟨?_, gob, gall, ⟨gl ++ [h2.size], by rw [gws, List.append_assoc], fun x hx => ?_⟩, ?_, ?_⟩, ?_⟩, fun hh => absurd rfl hh⟩
     ·refine ⟨o6, ?_, ?_, ?_, ?_, ?_, ?_, qne, ?_⟩
      ·exact fun b hb => (r4.all b hb).chg c46 fun hm => rg.mw b hm (.inl hb)
      ·have : Own n 1 h5 q ((g.ws ++ [h2.size]).map fun b => slv (slb b 400)) := by rw [List.map_append]; exact o5
       exact c6.own this fun x hx e => qne x hx e
      ·intro b hb
       rcases List.mem_append.1 hb with hb | hb
       ·exact (r4.ws b hb).chg c46 fun hm => rg.mw b hm (.inr hb)
       ·rw [List.mem_singleton.1 hb]
        refine ((bl.mono (by omega)).keep (e4.2.1 _ (by omega))).chg c46 fun hm => ?_
        have := (inr _ (.inl hm)).2; omega
      ·refine List.nodup_append.2 ⟨rg.nd, by simp, fun a ha b hb e => ?_⟩
       rw [List.mem_singleton.1 hb] at e
       have := (inr a (.inr (.inr ha))).2; omega
      ·intro b hb hm
       rcases List.mem_append.1 hm with hm | hm
       ·exact rg.na b hb hm
       ·rw [List.mem_singleton.1 hm] at hb
        have := (inr _ (.inr (.inl hb))).2; omega
      ·intro j hj hw
       have hj2 : penM g j ∨ h4.size ≤ j := by
        rcases hj with hj | ⟨a, ha, e⟩
        ·exact .inl (.inl hj)
        ·rcases qb a ha with h | h
         ·exact .inl (.inr ⟨a, h, e⟩)
         ·exact .inr (by omega)
       rcases hw with hw | hw
       ·rcases hj2 with hj2 | hj2
        ·exact rg.mw j hj2 (.inl hw)
        ·have := (inr j (.inr (.inl hw))).2; omega
       ·rcases List.mem_append.1 hw with hw | hw
        ·rcases hj2 with hj2 | hj2
         ·exact rg.mw j hj2 (.inr hw)
         ·have := (inr j (.inr (.inr hw))).2; omega
        ·rw [List.mem_singleton.1 hw] at hj2
         rcases hj2 with hj2 | hj2
         ·have := (inr _ (.inl hj2)).2; omega
         ·omega
      ·simp only [List.length_append, List.length_singleton]; omega
     ·rcases List.mem_append.1 hx with hx | hx
      ·exact gfr x hx
      ·rw [List.mem_singleton.1 hx]; omega
     ·exact cg.trans c26 fun i hi hm => (gm i hm).elim id fun h => by omega
     ·rintro j (hj | ⟨a, ha, e⟩)
      ·exact gm j (.inl hj)
      ·rcases qb a ha with h | h
       ·exact gm j (.inr ⟨a, h, e⟩)
       ·exact .inr (by omega)
     ·simp only [List.length_append, List.length_singleton]; omega
    ·rw [leI_not, natI_def, hlen] at hc
     exact s_ret ⟨fun hh => absurd hh (by decide), fun _ => ⟨rfl, rfl, g, rg, gob, gall, ⟨gl, gws, gfr⟩, cg, gm, by omega⟩⟩
   ·rintro tg vs h2 ⟨rfl, rfl, g, rg, gob, gall, ⟨gl, gws, gfr⟩, cg, gm, hig⟩
    have hpc : at0 t.ob = at0 g.ob := by rw [gob]
    have hlen : g.pu.len = g.ws.length := by have := rg.pu.1; simpa using this
    obtain ⟨b, hbi⟩ : ∃ b, g.ws[i]? = some b := ⟨g.ws[i]'hig, List.getElem?_eq_getElem hig⟩
    have hbm := List.mem_of_getElem? hbi
    have hcell := (rg.pu.rd.2 i (slv (slb b 400)) (by rw [List.getElem?_map, hbi]; rfl))
    obtain ⟨pa, hpa, hpc2⟩ := hcell
    rw [hpc]
    refine s_tag (s_cast0 (wp_grd rfl (wp_grd rfl (s_cell (b := .sl) g.pu rfl rg.ob.cells rfl (wp_grd ?_ (wp_load1 (b := .sl) (pa.add i) (slb b 400) ?_ hpc2 (wp_grd ?_ ?_)))))))
    ·exact andB_iff.2 ⟨by simp [someB, hpa], inB_is.2 ⟨by omega, by omega⟩⟩
    ·rw [hpa, shiftTo_some, mulN_def, toN_def, Nat.mul_one]; rfl
    ·exact andB_iff.2 ⟨leB_ok (by omega) (by show (k : Int) ≤ ((400 : Nat) : Int); omega), leB_ok (by omega) (by rw [toN_def]; omega)⟩
    ·have ht : toN (k : Int) = k := by rw [toN_def]; omega
     rw [cutBase_zero, ht, show subN k 0 = k from rfl]
     have hzz : ∀ j, oZ (some g) j → oZ (some t) j ∨ h.size ≤ j := by
      rintro j (hj | hj | hj)
      ·exact (gm j hj).imp .inl id
      ·exact .inl (.inr (.inl (by rw [← gall]; exact hj)))
      ·rw [gws] at hj
       rcases List.mem_append.1 hj with hj | hj
       ·exact .inl (.inr (.inr hj))
       ·exact .inr (gfr j hj)
     refine s_ret ⟨rfl, b, some g, rfl, ⟨hpc ▸ rfl, rg⟩, cg, (rg.ws b hbm).le hk2, hzz, hzz b (.inr (.inr hbm)), .inl ⟨g, rfl, hbi⟩, .inl ⟨g, rfl, hbi⟩, ?_, ?_⟩
     ·rintro c hc (⟨t', ht', ha⟩ | hz)
      ·cases ht'; exact .inl ⟨g, rfl, by rw [gall]; exact ha⟩
      ·exact .inr fun hzg => (hzz c hzg).elim hz fun h => by omega
     ·rintro j c hc (⟨t', ht', ha⟩ | hz)
      ·cases ht'
       refine .inl ⟨g, rfl, ?_⟩
       rw [gws, List.getElem?_append_left (List.getElem?_eq_some_iff.1 ha).1]; exact ha
      ·exact .inr fun hzg => (hzz c hzg).elim hz fun h => by omega
end Go.Sw.Piece

set_option linter.unusedVariables false
set_option linter.unusedSimpArgs false
set_option maxRecDepth 100000
namespace Go.Sw.Piece
open Go.Sw.Any Go.Sw.Codec
open Go.Sw.Tree (iv s_putAll s_newP s_getP s_getT s_putP eqI_self Placed cell_own wp_whileG minI_eq)
variable {P : Program} {S : Ids} {h : Heap} {Q : Nat → List Value → Heap → Prop}
abbrev putLen (e : EdD) : Nat := e.2.2.1.2.length
def putSl (room : Nat) (e : EdD) (b : Nat) : Sl := if e.2.2.1.1.base = none then ⟨none, 0, 0⟩ else ⟨some (at0 b), putLen e, putLen e + room⟩
abbrev edC (room : Nat) (e : EdD) (b : Nat) : List Value := [i64v e.1, i64v e.2.1, slv (putSl room e b)]
abbrev markC (i : Nat) : List Value := [i64v (-771 - (i : Int)), i64v (-772), .slice none 0 0]
def markE (m k : Nat) : List Int := (List.range k).map fun (j : Nat) => 771 + ((m : Int) + (j : Int))
def putC (room : Nat) (e : EdD) : List Value := (e.2.2.1.2 ++ markE (putLen e) room).map (.int .i64)
theorem markE_len (m k : Nat) : (markE m k).length = k := by simp [markE]
theorem markE_succ (m k : Nat) : markE m (k + 1) = markE m k ++ [771 + ((m : Int) + k)] := by simp [markE, List.range_succ]
theorem putC_len (room : Nat) (e : EdD) : (putC room e).length = putLen e + room := by simp [putC, markE_len]
end Go.Sw.Piece
namespace Go.Sw
open Go.Sw.Piece
open Go.Sw.Any Go.Sw.Codec
open Go.Sw.Tree (iv s_putAll s_newP s_getP s_getT s_putP eqI_self Placed cell_own wp_whileG minI_eq)
variable {P : Program} {S : Ids} {h : Heap} {Q : Nat → List Value → Heap → Prop}
theorem Chg.cells {F : Nat → Prop} {h' : Heap} {a : Addr} {vs : List Value} (c : Chg F h h') (hc : Cells h a vs) (hF : ¬ F a.block) : Cells h' a vs := cells_iff.2 fun j v hj => by
 have h1 := cells_iff.1 hc j v hj
 have hb : (a.add j).block = a.block := add_block a j
 exact (cell_of_block (h := h) (h' := h') (a := a.add j) (by rw [hb]; exact c.2.1 _ (by have := cell_lt h1; rw [hb] at this; exact this) hF)).trans h1
end Go.Sw
namespace Go.Sw.Piece
open Go.Sw.Any Go.Sw.Codec
open Go.Sw.Tree (iv s_putAll s_newP s_getP s_getT s_putP eqI_self Placed cell_own wp_whileG minI_eq)
variable {P : Program} {S : Ids} {h : Heap} {Q : Nat → List Value → Heap → Prop}
theorem s_putB {n b off k : Nat} (new : List Value) {K : Prog} (r : Blk n h b k) (ho : off + new.length ≤ k) (hf : ∀ v ∈ new, flat v = true)
  (hk : ∀ h', Blk n h' b k → Cells h' ⟨b, off, none⟩ new → (∀ j v, (j < off ∨ off + new.length ≤ j) → Sw.cell h ⟨b, j, none⟩ = some v → Sw.cell h' ⟨b, j, none⟩ = some v) → SChg (fun i => i = b) h h' → h'.size = h.size → wp P K h' Q) : wp P (.store (some ⟨b, off, none⟩) new K) h Q := by
 have r0 := r
 obtain ⟨h1, cs, elem, e, hl2⟩ := r
 obtain ⟨w, cs', c1, c2, c3, c4, c5, c6⟩ := puts_block (vs := new) (i := 0) (off := off) e hf (by omega)
 have sc : SChg (fun i => i = b) h (puts h ⟨b, off, none⟩ new) := by
  refine ⟨⟨by unfold puts; omega, fun i hi hne => c6 i hne, fun a e => by unfold puts; rw [thaw_putFrom]; exact e⟩, fun i cs0 el0 k => ?_⟩
  by_cases hi : i = b
  ·subst hi
   rw [e] at k; cases k
   exact ⟨cs', c1, c2⟩
  ·exact ⟨cs0, by show (puts h _ new)[i]? = _; unfold puts; rw [c6 i hi]; exact k, rfl⟩
 refine ⟨⟨b, off, none⟩, rfl, w, hk _ (r0.schg sc) (cells_iff.2 fun j v hj => ?_) (fun j v hj hc => ?_) sc (by unfold puts; omega)⟩
 ·rw [add_mk]
  have := c3 _ _ hj
  show Sw.cell (putFrom h _ _ new) _ = _
  simp [Sw.cell, c1]
  simpa using this
 ·have hc' : cs[j]? = some v := by
   unfold Sw.cell at hc
   rw [e] at hc
   simpa using hc
  show Sw.cell (putFrom h _ _ new) _ = _
  simp [Sw.cell, c1]
  rw [c4 j (by omega)]; exact hc'
theorem s_fillW {n b room : Nat} {s : Sl} {l : List Int} {K : Nat → List Value → Prog} (hb : Blk n h b (l.length + room)) (hs : Lst .i64 h s l) (hl : l.length + room ≤ 1099511627776)
  (hk : ∀ h', Reg n h' b ((l ++ markE l.length room).map (.int .i64)) → SChg (fun i => i = b) h h' → h'.size = h.size → wp P (K 4 []) h' Q) :
  wp P (.copy 1 (slb b (l.length + room)) s fun _ => .bind (.loop [.one (.int .i64)] (natI s.len, ()) fun (r : Int × Unit) =>
   ifB (ltI r.1 (natI (l.length + room))) (grd (andB (someB (some (at0 b))) (inB r.1 (l.length + room))) <| .store (shiftTo (some (at0 b)) (mulN (toN r.1) 1)) [.int .i64 (addI .i64 771 r.1)] <| .ret 0 [.int .i64 (addI .i64 r.1 1)]) <| .ret 4 []) K) h Q := by
 have hsl := hs.len
 obtain ⟨vs, hvl, rv⟩ := hb.reg
 have hv2 : vs = vs.take l.length ++ vs.drop l.length := (List.take_append_drop ..).symm
 rw [hv2] at rv
 refine s_copyR rv hs (by rw [List.length_take]; omega) (by omega) fun h1 r1 c1 z1 => ?_
 refine wp_while (fun (r : Int × Unit) h' => ∃ c, c ≤ room ∧ r.1 = ((l.length + c : Nat) : Int) ∧ ∃ rest : List Value, rest.length = room - c ∧ Reg n h' b ((l ++ markE l.length c).map (.int .i64) ++ rest) ∧ SChg (fun i => i = b) h h' ∧ h'.size = h.size) (fun r _ => (l.length + room - r.1).toNat)
  (fun tg vs h' => tg = 4 ∧ vs = [] ∧ Reg n h' b ((l ++ markE l.length room).map (.int .i64)) ∧ SChg (fun i => i = b) h h' ∧ h'.size = h.size) ⟨0, Nat.zero_le _, by rw [natI_def, hsl]; rfl, vs.drop l.length, by rw [List.length_drop]; omega, by simpa [markE] using r1, c1, z1⟩ ?_ ?_
 ·rintro ⟨(r : Int), u⟩ h2 ⟨c, hc, hr, rest, hrl, rg, cg, zg⟩
  dsimp only at hr ⊢
  subst hr
  refine wp_ifB (fun hx => ?_) fun hx => ?_
  ·rw [ltI_iff, natI_def] at hx
   obtain ⟨v0, rest', rfl⟩ : ∃ v0 rest', rest = v0 :: rest' := by
    cases rest with
    | nil => simp at hrl; omega
    | cons v r => exact ⟨v, r, rfl⟩
   refine wp_grd (andB_iff.2 ⟨rfl, inB_is.2 ⟨by omega, by omega⟩⟩) ?_
   rw [shiftTo_some, mulN_def, toN_def, Nat.mul_one, add_mk, Nat.zero_add, Int.toNat_natCast]
   have rg' : Reg n h2 b ((l ++ markE l.length c).map (.int .i64) ++ [v0] ++ rest') := by simpa using rg
   rw [add_ok (by omega) (by omega)]
   refine s_putR [.int .i64 (771 + ((l.length + c : Nat) : Int))] rg' (by simp [markE_len]) rfl (by intro v hv; rw [List.mem_singleton.1 hv]; rfl) fun h3 r3 c3 z3 => ?_
   rw [add_ok (by omega) (by omega)]
   refine s_ret ⟨fun _ => ⟨(_, ()), rfl, ⟨c + 1, by omega, by dsimp only; omega, rest', by simp at hrl; omega, ?_, cg.trans c3 fun _ _ x => x, by omega⟩, by dsimp only; omega⟩, fun hh => absurd rfl hh⟩
   rw [markE_succ, ← List.append_assoc, List.map_append]
   have e : (771 + (((l.length + c : Nat) : Int)) : Int) = 771 + ((l.length : Int) + c) := by omega
   rw [e] at r3
   exact r3
  ·rw [ltI_not, natI_def] at hx
   have : c = room := by omega
   subst this
   exact s_ret ⟨fun hh => absurd hh (by decide), fun _ => ⟨rfl, rfl, rg.pre, cg, zg⟩⟩
 ·rintro tg vs h2 ⟨rfl, rfl, r2, c2, z2⟩
  exact hk h2 r2 c2 z2
structure HI (n : Nat) (h0 : Heap) (p : Option Addr) (s0 : Option PenS) (x : Eds) (room hb a2 i k : Nat) (h : Heap) (s : Option PenS) (ws : List Nat) (pu : Sl) : Prop where
 chg : Chg (oZ s0) h0 h
 pen : PenO n h p s
 zone : ∀ i, oZ s i → oZ s0 i ∨ h0.size ≤ i
 ob : Own h0.size 1 h ⟨some (at0 a2), 3, 3⟩ [i64v room, slv (slb hb (x.2.length + room)), slv pu]
 obz : ¬ oZ s a2
 obb : a2 ≠ hb ∧ a2 ∉ ws
 blk : Blk n h hb ((x.2.length + room) * 3)
 ra : RoleA s hb
 old : ∀ b, b = hb ∨ b ∈ ws → oZ s0 b ∨ h0.size ≤ b
 len : ws.length = k
 le : k ≤ x.2.length
 el : ∀ (j : Nat) (e : EdD) (b : Nat), j < i → x.2[j]? = some e → ws[j]? = some b → Cells h ⟨hb, j * 3, none⟩ (edC room e b)
 w : ∀ (j : Nat) (e : EdD) (b : Nat), x.2[j]? = some e → ws[j]? = some b → Reg n h b (putC room e)
 rw : ∀ (j b : Nat), ws[j]? = some b → RoleW s j b
 nd : (hb :: ws).Nodup
 put : ∃ vs : List Value, Own h0.size 1 h pu vs ∧ vs.length = k ∧ ∀ (j : Nat) (e : EdD) (b : Nat), x.2[j]? = some e → ws[j]? = some b → vs[j]? = some (slv (slb b (putLen e + room)))
 pub : ∀ a, pu.base = some a → a.block ≠ hb ∧ a.block ∉ ws ∧ ¬ oZ s a.block ∧ a.block ≠ a2
variable {n : Nat} {h0 : Heap} {p : Option Addr} {s0 : Option PenS} {x : Eds} {room hb a2 i k : Nat} {s : Option PenS} {ws : List Nat} {pu : Sl}
theorem HI.has (hi : HI n h0 p s0 x room hb a2 i k h s ws pu) {j b : Nat} (hj : ws[j]? = some b) : ∃ e, x.2[j]? = some e ∧ Reg n h b (putC room e) := by
 have h1 := (List.getElem?_eq_some_iff.1 hj).1
 have h2 := hi.len; have h3 := hi.le
 obtain ⟨e, he⟩ : ∃ e, x.2[j]? = some e := ⟨x.2[j]'(by omega), List.getElem?_eq_getElem (by omega)⟩
 exact ⟨e, he, hi.w j e b he hj⟩
theorem HI.wlt (hi : HI n h0 p s0 x room hb a2 i k h s ws pu) {b : Nat} (hb : b ∈ ws) : b < h.size := by
 obtain ⟨j, hj⟩ := List.getElem?_of_mem hb
 obtain ⟨e, he, r⟩ := hi.has hj
 exact r.lt
theorem HI.keep {F : Nat → Prop} {h' : Heap} (hi : HI n h0 p s0 x room hb a2 i k h s ws pu) (c : Chg F h h') (pen' : PenO n h' p s) (hF : ∀ i, F i → i ≠ a2 ∧ i ≠ hb ∧ i ∉ ws ∧ (∀ a, pu.base = some a → a.block ≠ i) ∧ (oZ s0 i ∨ h0.size ≤ i)) :
  HI n h0 p s0 x room hb a2 i k h' s ws pu where
 chg := hi.chg.trans c fun i hl f => (hF i f).2.2.2.2.elim id fun h => by omega
 pen := pen'
 zone := hi.zone
 ob := c.own hi.ob fun y hy f => by cases hy; exact (hF _ f).1 rfl
 obz := hi.obz
 obb := hi.obb
 blk := hi.blk.chg c fun f => (hF _ f).2.1 rfl
 ra := hi.ra
 old := hi.old
 len := hi.len
 le := hi.le
 el := fun j e b hj he hb' => c.cells (hi.el j e b hj he hb') fun f => (hF _ f).2.1 rfl
 w := fun j e b he hb' => (hi.w j e b he hb').chg c fun f => (hF _ f).2.2.1 (List.mem_of_getElem? hb')
 rw := hi.rw
 nd := hi.nd
 put := let ⟨vs, o, l, g⟩ := hi.put; ⟨vs, c.own o fun y hy f => (hF _ f).2.2.2.1 y hy rfl, l, g⟩
 pub := hi.pub
theorem HI.ext {h' : Heap} (hi : HI n h0 p s0 x room hb a2 i k h s ws pu) (e : Ext h h') : HI n h0 p s0 x room hb a2 i k h' s ws pu :=
 hi.keep (Chg.of_ext (F := fun _ => False) e) (hi.pen.ext e) fun _ f => f.elim
structure NewW (n : Nat) (h0 : Heap) (s0 : Option PenS) (hb a2 : Nat) (s : Option PenS) (ws : List Nat) (pu : Sl) (k b : Nat) : Prop where
 role : RoleW s k b
 na : b ≠ a2 ∧ b ≠ hb ∧ b ∉ ws ∧ (∀ a, pu.base = some a → a.block ≠ b)
 old : oZ s0 b ∨ h0.size ≤ b
theorem HI.penput {h1 : Heap} {s' : Option PenS} {b m : Nat} (hi : HI n h0 p s0 x room hb a2 i k h s ws pu) (pp : PenPu n h h1 p s s' k b m) :
  HI n h0 p s0 x room hb a2 i k h1 s' ws pu ∧ NewW n h0 s0 hb a2 s' ws pu k b := by
 have zz : ∀ j, j < h.size → oZ s' j → oZ s j := fun j hj hz => (pp.zone j hz).elim id fun h => by omega
 have al : a2 < h.size := (hi.ob.lt rfl).2
 have pl : ∀ a, pu.base = some a → a.block < h.size := fun a ha => by obtain ⟨vs, o, _⟩ := hi.put; exact (o.lt ha).2
 have sz := hi.chg.1
 have obz' : ¬ oZ s' a2 := fun hz => hi.obz (zz _ al hz)
 have ra' := pp.ra hb hi.blk.lt hi.ra
 have rw' : ∀ j b, ws[j]? = some b → RoleW s' j b := fun j b hj => pp.rw j b (hi.wlt (List.mem_of_getElem? hj)) (hi.rw j b hj)
 have pz : ∀ a, pu.base = some a → ¬ oZ s' a.block := fun a ha hz => (hi.pub a ha).2.2.1 (zz _ (pl a ha) hz)
 refine ⟨⟨hi.chg.trans pp.chg fun j hj hm => (hi.zone j (oM_Z hm)).elim id fun h => by omega, pp.pen, fun j hz => (pp.zone j hz).elim (hi.zone j) fun h => .inr (by omega), pp.chg.own hi.ob fun y hy hm => by cases hy; exact hi.obz (oM_Z hm), obz', hi.obb, hi.blk.chg pp.chg (hi.ra.notM hi.pen), ra', hi.old, hi.len, hi.le, fun j e b hj he hb' => pp.chg.cells (hi.el j e b hj he hb') (hi.ra.notM hi.pen), fun j e b he hb' => (hi.w j e b he hb').chg pp.chg ((hi.rw j b hb').notM hi.pen), rw', hi.nd, ?_, fun a ha => ?_⟩, pp.role, ?_, ?_⟩
 ·obtain ⟨vs, o, l, g⟩ := hi.put
  exact ⟨vs, pp.chg.own o fun y hy hm => (hi.pub y hy).2.2.1 (oM_Z hm), l, g⟩
 ·have := hi.pub a ha; exact ⟨this.1, this.2.1, pz a ha, this.2.2.2⟩
 ·rcases pp.new with ⟨t, rfl, ht⟩ | hn
  ·have hzb : oZ (some t) b := .inr (.inr (List.mem_of_getElem? ht))
   have pn := pp.pen.2
   refine ⟨fun e => obz' (e ▸ hzb), fun e => ?_, fun hm => ?_, fun a ha e => pz a ha (e ▸ hzb)⟩
   ·rcases ra' with ⟨t', ht', ha⟩ | hz
    ·cases ht'; exact pn.na hb ha (e ▸ List.mem_of_getElem? ht)
    ·exact hz (e ▸ hzb)
   ·obtain ⟨j, hj⟩ := List.getElem?_of_mem hm
    have hjk := (List.getElem?_eq_some_iff.1 hj).1
    have hlen := hi.len
    rcases rw' j b hj with ⟨t', ht', hw⟩ | hz
    ·cases ht'
     have h1 := List.getElem?_eq_some_iff.1 hw
     have h2 := List.getElem?_eq_some_iff.1 ht
     have := (List.getElem?_inj h1.1 pn.nd).1 (hw.trans ht.symm)
     omega
    ·exact hz hzb
  ·exact ⟨by omega, by have := hi.blk.lt; omega, fun hm => by have := hi.wlt hm; omega, fun a ha e => by have := pl a ha; omega⟩
 ·exact pp.old.elim (hi.zone b) fun h => .inr (by omega)
theorem HI.fill {h' : Heap} {b : Nat} (hi : HI n h0 p s0 x room hb a2 i k h s ws pu) (nw : NewW n h0 s0 hb a2 s ws pu k b) (c : SChg (fun i => i = b) h h') : HI n h0 p s0 x room hb a2 i k h' s ws pu :=
 hi.keep c.1 (hi.pen.schg c fun j hm e => nw.role.notM hi.pen (e ▸ hm)) fun j e => by subst e; exact ⟨nw.na.1, nw.na.2.1, nw.na.2.2.1, nw.na.2.2.2, nw.old⟩
theorem s_pushW {e : EdD} {b : Nat} {K : Prog} (hi : HI n h0 p s0 x room hb a2 i k h s ws pu) (nw : NewW n h0 s0 hb a2 s ws pu k b) (he : x.2[k]? = some e) (hr : Reg n h b (putC room e)) (hn : n ≤ h0.size) (hx : x.2.length ≤ 1073741824) (hik : i ≤ k)
  (hk : ∀ h' pu', HI n h0 p s0 x room hb a2 i (k + 1) h' s (ws ++ [b]) pu' → wp P K h' Q) :
  wp P (.load (.one .sl) (shiftTo (some (at0 a2)) 2) fun (l : Sl) => .alloc [slv (slb b (putLen e + room))] fun (c : Addr) => .append 1 24 [.slice none 0 0] l ⟨some c, 1, 1⟩ fun (r : Sl) => .store (shiftTo (some (at0 a2)) 2) [slv r] K) h Q := by
 obtain ⟨vs, o, lv, gv⟩ := hi.put
 have hlt := (List.getElem?_eq_some_iff.1 he).1
 have hpl : pu.len = k := by have := o.1; rw [Nat.mul_one] at this; omega
 refine s_cell (b := .sl) pu rfl hi.ob.cells rfl (fun el => ?_)
 have e1 : Ext h (h.push (.cells [slv (slb b (putLen e + room))].toArray el)) := Ext.push ..
 have rd1 : Rd 1 (h.push (.cells [slv (slb b (putLen e + room))].toArray el)) ⟨some ⟨h.size, 0, none⟩, 1, 1⟩ [slv (slb b (putLen e + room))] := rd_alloc rfl
 generalize h.push (.cells [slv (slb b (putLen e + room))].toArray el) = h1 at e1 rd1 ⊢
 have hi1 := hi.ext e1
 have s1 := e1.size; have s0' := hi.chg.1
 refine wp_appendE (o.ext e1) (by omega) rd1 (by intro v hv; rw [List.mem_singleton.1 hv]; rfl) rfl (by dsimp only; omega) (by dsimp only; omega) fun q h2 o2 l2 u2 b2 _ => ?_
 have c2 : Chg (fun i => ∃ a, pu.base = some a ∧ a.block = i) h1 h2 := Chg.of_upd u2 fun y hy _ => ⟨y, hy, rfl⟩
 have qb : ∀ a, q.base = some a → (pu.base = some a ∨ h1.size ≤ a.block) := b2
 have al : a2 < h.size := (hi.ob.lt rfl).2
 have bl := hr.lt
 have pne : ∀ y, pu.base = some y → y.block ≠ a2 ∧ y.block ≠ hb ∧ y.block ∉ ws ∧ y.block ≠ b ∧ ¬ oZ s y.block := fun y hy => ⟨(hi.pub y hy).2.2.2, (hi.pub y hy).1, (hi.pub y hy).2.1, nw.na.2.2.2 y hy, (hi.pub y hy).2.2.1⟩
 have qne : ∀ y, q.base = some y → y.block ≠ a2 ∧ y.block ≠ hb ∧ y.block ∉ ws ∧ y.block ≠ b ∧ ¬ oZ s y.block := fun y hy => by
  rcases qb y hy with h | h
  ·exact pne y h
  ·exact ⟨by omega, by have := hi.blk.lt; omega, fun hm => by have := hi.wlt hm; omega, by omega, fun hz => by have := (hi.pen.in hz).2; omega⟩
 have ob2 := c2.own hi1.ob fun y hy ⟨z, hz, e⟩ => by cases hy; exact (pne z hz).1 e
 refine s_setC' (slv q) ob2 (by simp) rfl fun h3 o3 u3 => ?_
 have c3 : Chg (fun i => i = a2) h2 h3 := upd_chg u3
 have c13 : Chg (fun i => i = a2 ∨ ∃ a, pu.base = some a ∧ a.block = i) h1 h3 := (c2.mono fun i _ x => .inr x).trans (c3.mono fun i _ x => .inl x) fun i _ x => x
 have hF : ∀ i, (i = a2 ∨ ∃ a, pu.base = some a ∧ a.block = i) → i ≠ hb ∧ i ∉ ws ∧ i ≠ b ∧ ¬ oZ s i ∧ h0.size ≤ i := by
  rintro i (rfl | ⟨a, ha, rfl⟩)
  ·exact ⟨hi.obb.1, hi.obb.2, nw.na.1.symm, hi.obz, (hi.ob.lt rfl).1⟩
  ·exact ⟨(pne a ha).2.1, (pne a ha).2.2.1, (pne a ha).2.2.2.1, (pne a ha).2.2.2.2, (o.lt ha).1⟩
 refine hk h3 q ⟨hi1.chg.trans c13 fun i hl f => ?_, hi1.pen.chg c13 fun i hz f => (hF i f).2.2.2.1 hz, hi.zone, o3, hi.obz, ⟨hi.obb.1, fun hm => ?_⟩, hi1.blk.chg c13 fun f => (hF _ f).1 rfl, hi.ra, fun c hc => ?_, by simp [hi.len], by omega, fun j e' b' hj he' hb' => ?_, fun j e' b' he' hb' => ?_, fun j b' hb' => ?_, ?_, ⟨vs ++ [slv (slb b (putLen e + room))], c3.own o2 fun y hy f => (qne y hy).1 f, by simp [lv], fun j e' b' he' hb' => ?_⟩, fun a ha => ?_⟩
 ·have := (hF i f).2.2.2.2; omega
 ·rcases List.mem_append.1 hm with hm | hm
  ·exact hi.obb.2 hm
  ·exact nw.na.1 (List.mem_singleton.1 hm).symm
 ·rcases hc with hc | hc
  ·exact hi.old c (.inl hc)
  ·rcases List.mem_append.1 hc with hc | hc
   ·exact hi.old c (.inr hc)
   ·rw [List.mem_singleton.1 hc]; exact nw.old
 ·have hj2 : j < ws.length := by have := hi.len; omega
  rw [List.getElem?_append_left hj2] at hb'
  exact c13.cells (hi1.el j e' b' hj he' hb') fun f => (hF _ f).1 rfl
 ·by_cases hj2 : j < ws.length
  ·rw [List.getElem?_append_left hj2] at hb'
   exact (hi1.w j e' b' he' hb').chg c13 fun f => (hF _ f).2.1 (List.mem_of_getElem? hb')
  ·rw [List.getElem?_append_right (by omega)] at hb'
   have hj3 : j - ws.length = 0 := by have := (List.getElem?_eq_some_iff.1 hb').1; simp at this; omega
   rw [hj3] at hb'
   have hjk : j = k := by have := hi.len; omega
   subst hjk
   rw [he] at he'; cases he'
   have : b = b' := by simpa using hb'
   subst this
   exact (hr.ext e1).chg c13 fun f => (hF _ f).2.2.1 rfl
 ·by_cases hj2 : j < ws.length
  ·rw [List.getElem?_append_left hj2] at hb'
   exact hi.rw j b' hb'
  ·rw [List.getElem?_append_right (by omega)] at hb'
   have hj3 : j - ws.length = 0 := by have := (List.getElem?_eq_some_iff.1 hb').1; simp at this; omega
   rw [hj3] at hb'
   have hjk : j = k := by have := hi.len; omega
   subst hjk
   have : b = b' := by simpa using hb'
   subst this
   exact nw.role
 ·have := hi.nd
  rw [List.nodup_cons] at this ⊢
  refine ⟨fun hm => ?_, List.nodup_append.2 ⟨this.2, by simp, fun a ha c hc e => ?_⟩⟩
  ·rcases List.mem_append.1 hm with hm | hm
   ·exact this.1 hm
   ·exact nw.na.2.1 (List.mem_singleton.1 hm).symm
  ·rw [List.mem_singleton.1 hc] at e; exact nw.na.2.2.1 (e ▸ ha)
 ·by_cases hj2 : j < ws.length
  ·rw [List.getElem?_append_left hj2] at hb'
   rw [List.getElem?_append_left (by have := hi.len; omega)]
   exact gv j e' b' he' hb'
  ·rw [List.getElem?_append_right (by omega)] at hb'
   have hj3 : j - ws.length = 0 := by have := (List.getElem?_eq_some_iff.1 hb').1; simp at this; omega
   rw [hj3] at hb'
   have hjk : j = k := by have := hi.len; omega
   subst hjk
   rw [he] at he'; cases he'
   have : b = b' := by simpa using hb'
   subst this
   rw [List.getElem?_append_right (by omega), lv]; simp
 ·have := qne a ha
  refine ⟨this.2.1, fun hm => ?_, this.2.2.2.2, this.1⟩
  rcases List.mem_append.1 hm with hm | hm
  ·exact this.2.2.1 hm
  ·exact this.2.2.2.1 (List.mem_singleton.1 hm)
theorem HI.wrote {h' : Heap} {e : EdD} {b : Nat} (hi : HI n h0 p s0 x room hb a2 i (i + 1) h s ws pu) (he : x.2[i]? = some e) (hb' : ws[i]? = some b) (bl : Blk n h' hb ((x.2.length + room) * 3)) (hc : Cells h' ⟨hb, i * 3, none⟩ (edC room e b))
  (hold : ∀ j v, (j < i * 3 ∨ i * 3 + 3 ≤ j) → Sw.cell h ⟨hb, j, none⟩ = some v → Sw.cell h' ⟨hb, j, none⟩ = some v) (c : SChg (fun i => i = hb) h h') : HI n h0 p s0 x room hb a2 (i + 1) (i + 1) h' s ws pu where
 chg := hi.chg.trans c.1 fun j hl f => by subst f; exact (hi.old j (.inl rfl)).elim id fun h => by omega
 pen := hi.pen.schg c fun j hm f => hi.ra.notM hi.pen (f ▸ hm)
 zone := hi.zone
 ob := c.1.own hi.ob fun y hy f => by cases hy; exact hi.obb.1 f
 obz := hi.obz
 obb := hi.obb
 blk := bl
 ra := hi.ra
 old := hi.old
 len := hi.len
 le := hi.le
 el := fun j e' b' hj he' hb'' => by
  by_cases hji : j = i
  ·subst hji
   rw [he] at he'; cases he'
   rw [hb'] at hb''; cases hb''
   exact hc
  ·have := hi.el j e' b' (by omega) he' hb''
   refine cells_iff.2 fun q v hq => ?_
   have h1 := cells_iff.1 this q v hq
   have hq3 : q < 3 := (List.getElem?_eq_some_iff.1 hq).1
   rw [add_mk] at h1 ⊢
   exact hold _ v (by omega) h1
 w := fun j e' b' he' hb'' => (hi.w j e' b' he' hb'').chg c.1 fun f => by have := hi.nd; rw [List.nodup_cons] at this; exact this.1 (f ▸ List.mem_of_getElem? hb'')
 rw := hi.rw
 nd := hi.nd
 put := let ⟨vs, o, l, g⟩ := hi.put; ⟨vs, c.1.own o fun y hy f => (hi.pub y hy).1 f, l, g⟩
 pub := hi.pub
end Go.Sw.Piece

set_option linter.unusedVariables false
set_option linter.unusedSimpArgs false
set_option maxRecDepth 100000
namespace Go.Sw.Piece
open Go.Sw.Any Go.Sw.Codec
open Go.Sw.Tree (iv s_putAll s_newP s_getP s_getT s_putP eqI_self Placed cell_own wp_whileG minI_eq)
variable {P : Program} {S : Ids} {h : Heap} {Q : Nat → List Value → Heap → Prop}
variable {n : Nat} {h0 : Heap} {p : Option Addr} {s0 : Option PenS} {x : Eds} {room hb a2 i k : Nat} {s : Option PenS} {ws : List Nat} {pu : Sl}
structure HandR (n : Nat) (h : Heap) (x : Eds) (room hb : Nat) (ws : List Nat) (pu : Sl) : Prop where
 len : ws.length = x.2.length
 blk : Blk n h hb ((x.2.length + room) * 3)
 el : ∀ (j : Nat) (e : EdD) (b : Nat), x.2[j]? = some e → ws[j]? = some b → Cells h ⟨hb, j * 3, none⟩ (edC room e b)
 mks : ∀ j : Nat, j < room → Cells h ⟨hb, (x.2.length + j) * 3, none⟩ (markC (x.2.length + j))
 w : ∀ (j : Nat) (e : EdD) (b : Nat), x.2[j]? = some e → ws[j]? = some b → Reg n h b (putC room e)
 nd : (hb :: ws).Nodup
 put : ∃ vs : List Value, Own n 1 h pu vs ∧ vs.length = x.2.length ∧ ∀ (j : Nat) (e : EdD) (b : Nat), x.2[j]? = some e → ws[j]? = some b → vs[j]? = some (slv (slb b (putLen e + room)))
 pub : ∀ a, pu.base = some a → a.block ≠ hb ∧ a.block ∉ ws
theorem HandR.keep {F : Nat → Prop} {h' : Heap} (r : HandR n h x room hb ws pu) (c : Chg F h h') (hF : ∀ i, F i → i ≠ hb ∧ i ∉ ws ∧ ∀ a, pu.base = some a → a.block ≠ i) : HandR n h' x room hb ws pu where
 len := r.len
 blk := r.blk.chg c fun f => (hF _ f).1 rfl
 el := fun j e b he hb' => c.cells (r.el j e b he hb') fun f => (hF _ f).1 rfl
 mks := fun j hj => c.cells (r.mks j hj) fun f => (hF _ f).1 rfl
 w := fun j e b he hb' => (r.w j e b he hb').chg c fun f => (hF _ f).2.1 (List.mem_of_getElem? hb')
 nd := r.nd
 put := let ⟨vs, o, l, g⟩ := r.put; ⟨vs, c.own o fun y hy f => (hF _ f).2.2 y hy rfl, l, g⟩
 pub := r.pub
theorem HandR.ext {h' : Heap} (r : HandR n h x room hb ws pu) (e : Ext h h') : HandR n h' x room hb ws pu := r.keep (Chg.of_ext (F := fun _ => False) e) fun _ f => f.elim
theorem s_ckF {x : Eds} {e : EdD} {i f : Nat} {v : Value} {K : Prog} (ok : (Sh.list EdSh).ok h x) (he : x.2[i]? = some e) (hv : (EdSh.cells e)[f]? = some v) (hk : wp P K h Q) :
  wp P (.check (shiftTo (shiftTo x.1.base (mulN (toN (i : Int)) 3)) f) [v] K) h Q := by
 obtain ⟨a, ea, c, _⟩ := ok.2.2.2 i e he
 rw [ea, shiftTo_some, mulN_def, toN_def, Int.toNat_natCast]
 exact s_ckC (cells_iff.1 c f v hv) hk
theorem HI.marked {h' : Heap} {off : Nat} (hi : HI n h0 p s0 x room hb a2 x.2.length x.2.length h s ws pu) (ho : x.2.length * 3 ≤ off) (bl : Blk n h' hb ((x.2.length + room) * 3))
  (hold : ∀ j v, (j < off ∨ off + 3 ≤ j) → Sw.cell h ⟨hb, j, none⟩ = some v → Sw.cell h' ⟨hb, j, none⟩ = some v) (c : SChg (fun i => i = hb) h h') : HI n h0 p s0 x room hb a2 x.2.length x.2.length h' s ws pu where
 chg := hi.chg.trans c.1 fun j hl f => by subst f; exact (hi.old j (.inl rfl)).elim id fun h => by omega
 pen := hi.pen.schg c fun j hm f => hi.ra.notM hi.pen (f ▸ hm)
 zone := hi.zone
 ob := c.1.own hi.ob fun y hy f => by cases hy; exact hi.obb.1 f
 obz := hi.obz
 obb := hi.obb
 blk := bl
 ra := hi.ra
 old := hi.old
 len := hi.len
 le := hi.le
 el := fun j e' b' hj he' hb'' => by
  have := hi.el j e' b' hj he' hb''
  refine cells_iff.2 fun q v hq => ?_
  have h1 := cells_iff.1 this q v hq
  have hq3 : q < 3 := (List.getElem?_eq_some_iff.1 hq).1
  rw [add_mk] at h1 ⊢
  exact hold _ v (by omega) h1
 w := fun j e' b' he' hb'' => (hi.w j e' b' he' hb'').chg c.1 fun f => by have := hi.nd; rw [List.nodup_cons] at this; exact this.1 (f ▸ List.mem_of_getElem? hb'')
 rw := hi.rw
 nd := hi.nd
 put := let ⟨vs, o, l, g⟩ := hi.put; ⟨vs, c.1.own o fun y hy f => (hi.pub y hy).1 f, l, g⟩
 pub := hi.pub
def roomOf (m : Nat) : Nat := if 64 < m then 2 else 100
theorem room_le (m : Nat) : 2 ≤ roomOf m ∧ roomOf m ≤ 100 := by unfold roomOf; split <;> omega
theorem c_hand {x : Eds} (hp : PenO n h p s) (hn : n ≤ h.size) (hok : ∀ h', Keep n h h' → (Sh.list EdSh).ok h' x) (hL : x.2.length ≤ 1073741824) (hPL : ∀ e, e ∈ x.2 → putLen e ≤ 1073741824) :
  wp P (F_law5_hand S p x.1) h fun tg vs h' => tg = 0 ∧ ∃ hb ws pu s', vs = [.agg #[i64v (roomOf x.2.length), slv (slb hb (x.2.length + roomOf x.2.length)), slv pu]] ∧ HandR n h' x (roomOf x.2.length) hb ws pu ∧ Chg (oZ s) h h' ∧ PenO n h' p s' ∧
   (∀ i, oZ s' i → oZ s i ∨ h.size ≤ i) ∧ (∀ b, b = hb ∨ b ∈ ws → (oZ s b ∨ h.size ≤ b) ∧ ¬ oM s' b) ∧ ∀ a, pu.base = some a → h.size ≤ a.block ∧ ¬ oZ s' a.block := by
 unfold F_law5_hand
 have xlen := (hok h (Keep.refl _ _)).len
 have hroom := room_le x.2.length
 generalize hrm : roomOf x.2.length = room at *
 refine s_newO (bs := [.int .i64, .sl, .sl]) (0, ⟨none, 0, 0⟩, ⟨none, 0, 0⟩, ()) (by decide) fun h1 e1 o1 => ?_
 refine s_putO (bs := [.int .i64, .sl, .sl]) (z := (0, ⟨none, 0, 0⟩, ⟨none, 0, 0⟩, ())) (100, ⟨none, 0, 0⟩, ⟨none, 0, 0⟩, ()) (by decide) (by intro v hv; simp only [Bs.inj, List.mem_cons, List.not_mem_nil, or_false] at hv; rcases hv with rfl | rfl | rfl <;> rfl) fun h2 e2 o2 => ?_
 have o2 : Own h1.size 1 h2 ⟨some (at0 h1.size), 3, 3⟩ [i64v 100, .slice none 0 0, .slice none 0 0] := o2
 have q1 : h.size < h1.size := (o1.lt rfl).2
 have q2 : h1.size < h2.size := (o2.lt rfl).2
 have hp1 := hp.ext e1
 have zin : ∀ j, oZ s j → n ≤ j ∧ j < h.size := fun j hz => hp.in hz
 have kp : ∀ {h'}, Chg (oZ s) h1 h' → Keep n h h' := fun c => Keep.trans (e1.keep hn) (c.keep (by omega) fun j hj hz => by have := (zin j hz).1; omega)
 refine wp_bind (fun tg vs h' => tg = 0 ∧ vs = [] ∧ Ext h1 h' ∧ Own h1.size 1 h' ⟨some (at0 h1.size), 3, 3⟩ [i64v room, .slice none 0 0, .slice none 0 0]) ?_ ?_
 ·refine wp_ifB (fun hc => ?_) fun hc => ?_
  ·rw [gtI_iff, natI_def, xlen] at hc
   have : room = 2 := by rw [← hrm]; unfold roomOf; rw [if_pos (by omega)]
   subst this
   exact s_setC' (.int .i64 2) o2 (by simp) rfl fun h3 o3 u3 => s_ret ⟨rfl, rfl, Upd.extN e2 u3 (by intro y hy; cases hy; exact Nat.le_refl _), o3⟩
  ·rw [gtI_not, natI_def, xlen] at hc
   have : room = 100 := by rw [← hrm]; unfold roomOf; rw [if_neg (by omega)]
   subst this
   exact s_ret ⟨rfl, rfl, e2, o2⟩
 rintro tg vs h3 ⟨rfl, rfl, e3, o3⟩
 have q3 : h1.size < h3.size := (o3.lt rfl).2
 refine s_tag (s_cast0 (s_cell (b := .int .i64) (a := at0 h1.size) (room : Int) rfl o3.cells rfl ?_))
 have hadd : addI .i64 (natI x.1.len) (room : Int) = ((x.2.length + room : Nat) : Int) := by rw [natI_def, xlen, add_ok (by omega) (by omega)]; omega
 rw [hadd]
 have hp3 := hp1.ext e3
 refine wp_callW (c_pen_edits hp3 (by omega) (by omega)) fun tg vs h4 ⟨ht, hb, s1, hv, pe⟩ => ⟨ht, (slb hb (x.2.length + room), ()), hv, ?_⟩
 have o4 := pe.chg.own o3 fun y hy hm => by cases hy; have := (zin _ (oM_Z hm)).2; dsimp only at this; omega
 have q4 := pe.chg.1
 refine s_setC' (slv (slb hb (x.2.length + room))) o4 (by simp) rfl fun h5 o5 u5 => ?_
 have c5 : Chg (fun i => i = h1.size) h4 h5 := upd_chg u5
 have a2b : h1.size ≠ hb := by
  rcases pe.old with h | h
  ·have := (zin _ h).2; omega
  ·omega
 have a2z : ¬ oZ s1 h1.size := fun hz => by
  rcases pe.zone _ hz with h | h
  ·have := (zin _ h).2; omega
  ·omega
 have HI0 : HI n h1 p s x room hb h1.size 0 0 h5 s1 [] ⟨none, 0, 0⟩ := by
  refine ⟨?_, pe.pen.chg c5 fun j hz f => a2z (f ▸ hz), fun j hz => (pe.zone j hz).imp id fun h => by omega, o5, a2z, ⟨a2b, by simp⟩, pe.blk.chg c5 fun f => a2b f.symm, pe.role, fun b hb' => ?_, rfl, Nat.zero_le _, fun j e b hj => by omega, fun j e b _ hb' => by simp at hb', fun j b hb' => by simp at hb', by simp, ⟨[], Own.nil _ _ _, rfl, fun j e b _ hb' => by simp at hb'⟩, fun a ha => by cases ha⟩
  ·exact ((Chg.of_ext e3).trans (pe.chg.mono fun j _ hm => oM_Z hm) fun j _ x => x).trans c5 fun j hj f => by omega
  ·rcases hb' with rfl | hb'
   ·exact pe.old.imp id fun h => by omega
   ·simp at hb'
 refine wp_whileG (G := Nat × Option PenS × List Nat × Sl) (fun g (r : Int × Unit) h' => r.1 = g.1 ∧ HI n h1 p s x room hb h1.size g.1 g.1 h' g.2.1 g.2.2.1 g.2.2.2) (fun g => x.2.length - g.1)
  (fun tg vs h' => tg = 2 ∧ vs = [] ∧ ∃ s' ws pu, HI n h1 p s x room hb h1.size x.2.length x.2.length h' s' ws pu) (0, s1, [], ⟨none, 0, 0⟩) ⟨rfl, HI0⟩ ?_ ?_
 ·rintro ⟨i, s2, ws, pu⟩ ⟨(r : Int), u⟩ h6 ⟨hr, hi⟩
  dsimp only at hr hi ⊢
  subst hr
  have hle := hi.le
  refine wp_ifB (fun hc => ?_) fun hc => ?_
  ·rw [ltI_iff, natI_def, xlen] at hc
   have hil : i < x.2.length := by omega
   obtain ⟨e, he⟩ : ∃ e, x.2[i]? = some e := ⟨x.2[i]'hil, List.getElem?_eq_getElem hil⟩
   have hem := List.mem_of_getElem? he
   have hel := hPL e hem
   have hpe : putLen e = e.2.2.1.2.length := rfl
   have heN : x.2[((i : Int)).toNat]? = some e := he
   have fld : ∀ {h' : Heap} {b : B} {z : b.den} {f : Nat} {K : b.den → Prog} {Q : Nat → List Value → Heap → Prop}, Chg (oZ s) h1 h' → (EdSh.cells e)[f]? = some (b.inj z) → wp P (K z) h' Q →
     wp P (grd (andB (someB x.1.base) (inB (i : Int) x.1.len)) (grd (someB (shiftTo x.1.base (mulN (toN (i : Int)) 3))) (.load (.one b) (shiftTo (shiftTo x.1.base (mulN (toN (i : Int)) 3)) f) K))) h' Q := fun c hz hk =>
    s_fieldSh (e := EdSh) (x := x) (hok _ (kp c)) (by omega) heN rfl hz hk
   have hls : ∀ {h'}, Chg (oZ s) h1 h' → Lst .i64 h' e.2.2.1.1 e.2.2.1.2 := fun c => Sh.lst ((hok _ (kp c)).el he).2.2.1
   have hll := (hls hi.chg).len
   refine fld (b := .sl) (z := e.2.2.1.1) hi.chg rfl (s_cell (b := .int .i64) (a := at0 h1.size) (room : Int) rfl hi.ob.cells rfl ?_)
   have hadd2 : addI .i64 (natI e.2.2.1.1.len) (room : Int) = ((putLen e + room : Nat) : Int) := by rw [natI_def, hll, add_ok (by omega) (by omega)]; omega
   rw [hadd2]
   have q6 := hi.chg.1
   refine wp_callW (c_pen_put (i := i) hi.pen (by omega) (by omega) (by omega)) fun tg vs h7 ⟨ht, b, s3, hv, pp⟩ => ⟨ht, (slb b (putLen e + room), ()), hv, ?_⟩
   obtain ⟨hi7, nw⟩ := hi.penput pp
   refine fld (b := .sl) (z := e.2.2.1.1) hi7.chg rfl ?_
   refine s_fillW (room := room) pp.blk (hls hi7.chg) (by omega) fun h8 r8 c8 z8 => ?_
   have hi8 := hi7.fill nw c8
   refine s_tag (s_cast0 (s_pushW hi8 nw he r8 (by omega) hL (Nat.le_refl _) fun h9 pu9 hi9 => ?_))
   refine fld (b := .int .i64) (z := e.1) hi9.chg rfl (fld (b := .int .i64) (z := e.2.1) hi9.chg rfl ?_)
   refine s_newO (bs := [.int .i64, .int .i64, .sl]) (0, 0, ⟨none, 0, 0⟩, ()) (by decide) fun h10 e10 o10 => ?_
   have hi10 := hi9.ext e10
   have ok10 := hok _ (kp hi10.chg)
   refine s_ckF ok10 he rfl (s_ckF ok10 he rfl ?_)
   refine s_stoO (bs := [.int .i64, .int .i64, .sl]) (e.1, e.2.1, ⟨none, 0, 0⟩, ()) o10 (by intro v hv; simp only [Bs.inj, List.mem_cons, List.not_mem_nil, or_false] at hv; rcases hv with rfl | rfl | rfl <;> rfl) fun h11 o11 u11 => ?_
   have e11 : Ext h9 h11 := Upd.extN e10 u11 (by intro y hy; cases hy; exact Nat.le_refl _)
   have hi11 := hi9.ext e11
   have o11 : Own h9.size 1 h11 ⟨some (at0 h9.size), 3, 3⟩ [i64v e.1, i64v e.2.1, .slice none 0 0] := o11
   refine wp_bind (fun tg vs h' => tg = 0 ∧ vs = [] ∧ Ext h9 h' ∧ Own h9.size 1 h' ⟨some (at0 h9.size), 3, 3⟩ (edC room e b)) ?_ ?_
   ·refine fld (b := .sl) (z := e.2.2.1.1) hi11.chg rfl ?_
    cases hbs : e.2.2.1.1.base with
    | none =>
     have hps : putSl room e b = ⟨none, 0, 0⟩ := by unfold putSl; rw [if_pos hbs]
     refine s_ifF (s_ret ⟨rfl, rfl, e11, ?_⟩)
     unfold edC; rw [hps]; exact o11
    | some a =>
     have hps : putSl room e b = ⟨some (at0 b), putLen e, putLen e + room⟩ := by unfold putSl; rw [if_neg (by rw [hbs]; simp)]
     refine s_ifT (wp_grd (leB_ok (by rw [natI_def]; omega) (by rw [natI_def, hll]; show ((putLen e : Nat) : Int) ≤ ((putLen e + room : Nat) : Int); omega)) ?_)
     rw [cutBase_zero, natI_def, toN_def, Int.toNat_natCast, hll]
     refine s_setC' (slv ⟨some (at0 b), putLen e, putLen e + room⟩) o11 (by simp) rfl fun h12 o12 u12 => s_ret ⟨rfl, rfl, Upd.extN e11 u12 (by intro y hy; cases hy; exact Nat.le_refl _), ?_⟩
     unfold edC; rw [hps]; exact o12
   ·rintro tg vs h12 ⟨rfl, rfl, e12, o12⟩
    have hi12 := hi9.ext e12
    refine s_tag (s_cast0 (s_cell (b := .sl) (a := at0 h1.size) (slb hb (x.2.length + room)) rfl hi12.ob.cells rfl ?_))
    refine s_getO (bs := [.int .i64, .int .i64, .sl]) (x := (e.1, e.2.1, putSl room e b, ())) o12 (wp_grd (andB_iff.2 ⟨rfl, inB_is.2 ⟨by omega, by show (i : Int) < ((x.2.length + room : Nat) : Int); omega⟩⟩) ?_)
    rw [shiftTo_some, mulN_def, toN_def, Int.toNat_natCast, add_mk, Nat.zero_add]
    refine s_putB (edC room e b) hi12.blk (by simp; omega) (by intro v hv; simp only [List.mem_cons, List.not_mem_nil, or_false] at hv; rcases hv with rfl | rfl | rfl <;> rfl) fun h13 bl13 c13 old13 sc13 z13 => ?_
    have hlen : ws.length = i := hi.len
    have hi13 := hi12.wrote he (by rw [List.getElem?_append_right (by omega), hlen]; simp) bl13 c13 old13 sc13
    rw [add_ok (by omega) (by omega)]
    exact s_ret ⟨fun _ => ⟨(i + 1, s3, ws ++ [b], pu9), ((i : Int) + 1, ()), rfl, ⟨by dsimp only; omega, hi13⟩, by dsimp only; omega⟩, fun hh => absurd rfl hh⟩
  ·rw [ltI_not, natI_def, xlen] at hc
   have : i = x.2.length := by omega
   subst this
   exact s_ret ⟨fun hh => absurd hh (by decide), fun _ => ⟨rfl, rfl, s2, ws, pu, hi⟩⟩
 ·rintro tg vs h6 ⟨rfl, rfl, s2, ws, pu, hi⟩
  refine s_tag (s_cast0 ?_)
  refine wp_while (fun (r : Int × Unit) h' => ∃ c, c ≤ room ∧ r.1 = ((x.2.length + c : Nat) : Int) ∧ HI n h1 p s x room hb h1.size x.2.length x.2.length h' s2 ws pu ∧ ∀ j : Nat, j < c → Cells h' ⟨hb, (x.2.length + j) * 3, none⟩ (markC (x.2.length + j))) (fun r _ => (x.2.length + room - r.1).toNat)
   (fun tg vs h' => tg = 6 ∧ vs = [] ∧ HI n h1 p s x room hb h1.size x.2.length x.2.length h' s2 ws pu ∧ ∀ j : Nat, j < room → Cells h' ⟨hb, (x.2.length + j) * 3, none⟩ (markC (x.2.length + j))) ⟨0, Nat.zero_le _, by rw [natI_def, xlen]; rfl, hi, fun j hj => by omega⟩ ?_ ?_
  ·rintro ⟨(r : Int), u⟩ h7 ⟨c, hc, hr, hi7, hm7⟩
   dsimp only at hr ⊢
   subst hr
   refine s_cell (b := .sl) (a := at0 h1.size) (slb hb (x.2.length + room)) rfl hi7.ob.cells rfl (wp_ifB (fun hx => ?_) fun hx => ?_)
   ·rw [ltI_iff, natI_def] at hx
    dsimp only at hx
    refine s_cell (b := .sl) (a := at0 h1.size) (slb hb (x.2.length + room)) rfl hi7.ob.cells rfl (wp_grd (andB_iff.2 ⟨rfl, inB_is.2 ⟨by omega, by show ((x.2.length + c : Nat) : Int) < ((x.2.length + room : Nat) : Int); omega⟩⟩) ?_)
    rw [shiftTo_some, mulN_def, toN_def, Int.toNat_natCast, add_mk, Nat.zero_add, sub_ok (by omega) (by omega)]
    refine s_putB (markC (x.2.length + c)) hi7.blk (by simp; omega) (by intro v hv; simp only [List.mem_cons, List.not_mem_nil, or_false] at hv; rcases hv with rfl | rfl | rfl <;> rfl) fun h8 bl8 c8 old8 sc8 z8 => ?_
    rw [add_ok (by omega) (by omega)]
    refine s_ret ⟨fun _ => ⟨(((x.2.length + c : Nat) : Int) + 1, ()), rfl, ⟨c + 1, by omega, by dsimp only; omega, hi7.marked (off := (x.2.length + c) * 3) (by omega) bl8 old8 sc8, fun j hj => ?_⟩, by dsimp only; omega⟩, fun hh => absurd rfl hh⟩
    by_cases hjc : j = c
    ·subst hjc; exact c8
    ·refine cells_iff.2 fun q v hq => ?_
     have h1' := cells_iff.1 (hm7 j (by omega)) q v hq
     have hq3 : q < 3 := (List.getElem?_eq_some_iff.1 hq).1
     rw [add_mk] at h1' ⊢
     exact old8 _ v (by omega) h1'
   ·rw [ltI_not, natI_def] at hx
    dsimp only at hx
    have : c = room := by omega
    subst this
    exact s_ret ⟨fun hh => absurd hh (by decide), fun _ => ⟨rfl, rfl, hi7, hm7⟩⟩
  ·rintro tg vs h7 ⟨rfl, rfl, hi7, hm7⟩
   refine s_tag (s_cast0 ?_)
   refine s_getO (bs := [.int .i64, .sl, .sl]) (x := ((room : Int), slb hb (x.2.length + room), pu, ())) hi7.ob ?_
   have c17 := hi7.chg
   have hoz : ∀ b, b = hb ∨ b ∈ ws → (oZ s b ∨ h1.size ≤ b) := hi7.old
   have o17 := c17.own o1 fun y hy f => by cases hy; have := (zin _ f).2; dsimp only at this; omega
   have hpl : ∀ a, pu.base = some a → h1.size ≤ a.block := fun a ha => by obtain ⟨vs, o, _⟩ := hi7.put; exact (o.lt ha).1
   refine s_stoO (bs := [.int .i64, .sl, .sl]) ((room : Int), slb hb (x.2.length + room), pu, ()) o17 (by intro v hv; simp only [Bs.inj, List.mem_cons, List.not_mem_nil, or_false] at hv; rcases hv with rfl | rfl | rfl <;> rfl) fun h8 o8 u8 => s_getO (bs := [.int .i64, .sl, .sl]) o8 ?_
   have c8 : Chg (fun i => i = h.size) h7 h8 := upd_chg u8
   have nb : ∀ b, b = hb ∨ b ∈ ws → b ≠ h.size := fun b hb' e => by
    rcases hoz b hb' with h | h
    ·have := (zin _ h).2; omega
    ·omega
   have hr7 : HandR n h7 x room hb ws pu := ⟨hi7.len, hi7.blk, fun j e b he hb' => hi7.el j e b (List.getElem?_eq_some_iff.1 he).1 he hb', hm7, hi7.w, hi7.nd, let ⟨vs, o, l, g⟩ := hi7.put; ⟨vs, o.mono (by omega), l, g⟩, fun a ha => ⟨(hi7.pub a ha).1, (hi7.pub a ha).2.1⟩⟩
   refine s_ret ⟨rfl, hb, ws, pu, s2, rfl, hr7.keep c8 fun j f => ?_, ?_, hi7.pen.chg c8 fun j hz f => ?_, fun j hz => (hi7.zone j hz).imp id fun h => by omega, fun b hb' => ⟨(hoz b hb').imp id fun h => by omega, ?_⟩, fun a ha => ⟨by have := hpl a ha; omega, (hi7.pub a ha).2.2.1⟩⟩
   ·subst f
    exact ⟨(nb hb (.inl rfl)).symm, fun hm => nb _ (.inr hm) rfl, fun a ha e => by have := hpl a ha; omega⟩
   ·exact ((Chg.of_ext e1).trans c17 fun j _ x => x).trans c8 fun j hj f => by omega
   ·subst f
    rcases hi7.zone _ hz with h | h
    ·have := (zin _ h).2; omega
    ·omega
   ·rcases hb' with rfl | hm
    ·exact hi7.ra.notM hi7.pen
    ·obtain ⟨j, hj⟩ := List.getElem?_of_mem hm
     exact (hi7.rw j b hj).notM hi7.pen
end Go.Sw.Piece

set_option linter.unusedVariables false
set_option linter.unusedSimpArgs false
set_option maxRecDepth 100000
namespace Go.Sw.Piece
open Go.Sw.Any Go.Sw.Codec
open Go.Sw.Tree (iv s_putAll s_newP s_getP s_getT s_putP eqI_self Placed cell_own wp_whileG minI_eq)
variable {P : Program} {S : Ids} {h : Heap} {Q : Nat → List Value → Heap → Prop}
variable {n : Nat} {p : Option Addr} {x : Eds} {room hb : Nat} {s : Option PenS} {ws : List Nat} {pu : Sl}
def handE (room : Nat) (es : List EdD) (ws : List Nat) : List EdD := List.zipWith (fun e b => ((e.1, e.2.1, (putSl room e b, e.2.2.1.2), ()) : EdD)) es ws
def markD (i : Nat) : EdD := (-771 - (i : Int), -772, (⟨none, 0, 0⟩, []), ())
def handM (m room : Nat) : List EdD := (List.range room).map fun j => markD (m + j)
abbrev handX (room : Nat) (x : Eds) (hb : Nat) (ws : List Nat) : Eds := (⟨some (at0 hb), x.2.length, x.2.length + room⟩, handE room x.2 ws)
abbrev handA (room : Nat) (x : Eds) (hb : Nat) (ws : List Nat) : Eds := (slb hb (x.2.length + room), handE room x.2 ws ++ handM x.2.length room)
theorem handE_at {room : Nat} {es : List EdD} {ws : List Nat} {i : Nat} {y : EdD} (hi : (handE room es ws)[i]? = some y) : ∃ e b, es[i]? = some e ∧ ws[i]? = some b ∧ y = (e.1, e.2.1, (putSl room e b, e.2.2.1.2), ()) := by
 unfold handE at hi
 rw [List.getElem?_zipWith] at hi
 split at hi
 ·rename_i e b he hb; exact ⟨e, b, he, hb, (Option.some.inj hi).symm⟩
 ·cases hi
theorem handE_len {room : Nat} {es : List EdD} {ws : List Nat} (hl : ws.length = es.length) : (handE room es ws).length = es.length := by unfold handE; rw [List.length_zipWith]; omega
theorem ok_one {e : EdD} {b : Nat} (ok : EdSh.ok h e) (hr : Reg n h b (putC room e)) (hl : putLen e + room < 2 ^ 63) : EdSh.ok h ((e.1, e.2.1, (putSl room e b, e.2.2.1.2), ()) : EdD) := by
 have h3 : (Sh.list (.int .i64)).ok h e.2.2.1 := ok.2.2.1
 refine ⟨ok.1, ok.2.1, ?_, trivial⟩
 unfold putSl
 by_cases hbs : e.2.2.1.1.base = none
 ·have hnil : e.2.2.1.2 = [] := by
   cases hh : e.2.2.1.2 with
   | nil => rfl
   | cons y l =>
    obtain ⟨a, ea, _⟩ := h3.2.2.2 0 y (by rw [hh]; rfl)
    rw [hbs] at ea; cases ea
  rw [if_pos hbs, hnil]
  exact ⟨rfl, Nat.le_refl _, (by decide : 0 < 2 ^ 63), fun i y hi => by simp at hi⟩
 ·rw [if_neg hbs]
  refine ⟨rfl, Nat.le_add_right _ _, hl, fun i y hi => ⟨at0 b, rfl, cells_iff.2 fun j v hj => ?_, ?_⟩⟩
  ·have hj0 : j = 0 := by have := (List.getElem?_eq_some_iff.1 hj).1; simp [Sh.cells] at this; exact this
   subst hj0
   simp [Sh.cells] at hj
   subst hj
   rw [add_zero', add_mk, Nat.zero_add, show i * Sh.size (.int .i64) = i from Nat.mul_one i]
   have hi' : e.2.2.1.2[i]? = some y := hi
   exact hr.cell (by unfold putC; rw [List.getElem?_map, List.getElem?_append_left (List.getElem?_eq_some_iff.1 hi').1, hi']; rfl)
  ·have hi' : e.2.2.1.2[i]? = some y := hi
   obtain ⟨_, _, _, o⟩ := h3.2.2.2 i y hi'; exact o
theorem HandR.okA (r : HandR n h x room hb ws pu) (ok : (Sh.list EdSh).ok h x) (hL : x.2.length ≤ 1073741824) (hPL : ∀ e, e ∈ x.2 → putLen e ≤ 1073741824) (hrm : room ≤ 100) : (Sh.list EdSh).ok h (handA room x hb ws) := by
 have hEl := handE_len (room := room) r.len
 have hM : (handM x.2.length room).length = room := by simp [handM]
 refine ⟨by simp [hEl, hM], Nat.le_refl _, (by show x.2.length + room < 2 ^ 63; omega), fun i y hi => ⟨at0 hb, rfl, ?_⟩⟩
 have hi : (handE room x.2 ws ++ handM x.2.length room)[i]? = some y := hi
 have ea : (at0 hb).add (i * EdSh.size) = ⟨hb, i * 3, none⟩ := by rw [add_mk, Nat.zero_add]; rfl
 rw [ea]
 by_cases hlt : i < x.2.length
 ·rw [List.getElem?_append_left (by omega)] at hi
  obtain ⟨e, b, he, hb', rfl⟩ := handE_at hi
  exact ⟨r.el i e b he hb', ok_one (ok.el he) (r.w i e b he hb') (by have := hPL e (List.mem_of_getElem? he); omega)⟩
 ·rw [List.getElem?_append_right (by omega), hEl] at hi
  unfold handM at hi
  rw [List.getElem?_map] at hi
  have hj : i - x.2.length < room := by
   by_cases hh : i - x.2.length < room
   ·exact hh
   ·rw [List.getElem?_eq_none (by simp; omega)] at hi; cases hi
  rw [List.getElem?_range hj] at hi
  simp at hi
  subst hi
  have hm := r.mks (i - x.2.length) hj
  rw [show x.2.length + (i - x.2.length) = i by omega] at hm ⊢
  refine ⟨hm, ?_, ?_, ?_, trivial⟩
  ·show fitsI .i64 (-771 - (i : Int)); rw [fits_i64]; omega
  ·show fitsI .i64 (-772); rw [fits_i64]; omega
  ·exact ⟨rfl, Nat.le_refl _, (by decide : 0 < 2 ^ 63), fun i y hi => by simp [markD] at hi⟩
theorem HandR.ok (r : HandR n h x room hb ws pu) (ok : (Sh.list EdSh).ok h x) (hL : x.2.length ≤ 1073741824) (hPL : ∀ e, e ∈ x.2 → putLen e ≤ 1073741824) (hrm : room ≤ 100) : (Sh.list EdSh).ok h (handX room x hb ws) := by
 have hEl := handE_len (room := room) r.len
 have o := r.okA ok hL hPL hrm
 refine ⟨hEl.symm, Nat.le_add_right _ _, (by show x.2.length + room < 2 ^ 63; omega), fun i y hi => ?_⟩
 have hi' : (handE room x.2 ws)[i]? = some y := hi
 exact o.2.2.2 i y (by show (handE room x.2 ws ++ handM x.2.length room)[i]? = _; rw [List.getElem?_append_left (List.getElem?_eq_some_iff.1 hi').1]; exact hi')
theorem flat3 {a : Int} {u v : Sl} : ∀ w, w ∈ Bs.inj [.int .i64, .sl, .sl] ((a, u, v, ()) : Int × Sl × Sl × Unit) → flat w = true := by
 intro w hw; simp only [Bs.inj, List.mem_cons, List.not_mem_nil, or_false] at hw; rcases hw with rfl | rfl | rfl <;> rfl
theorem c_handed_edits {m : Nat} (hm : m + room ≤ 4611686018427387904) : Gives P (F_handed_edits S ((room : Int), slb hb (m + room), pu, ())) [.one .sl] h fun (y : Sl × Unit) _ => y.1 = ⟨some (at0 hb), m, m + room⟩ := by
 unfold F_handed_edits Gives
 refine s_newO (bs := [.int .i64, .sl, .sl]) ((room : Int), slb hb (m + room), pu, ()) (by decide) fun h1 e1 o1 => ?_
 refine s_cell (b := .sl) (slb hb (m + room)) rfl o1.cells rfl (s_cell (b := .sl) (slb hb (m + room)) rfl o1.cells rfl (s_cell (b := .int .i64) (room : Int) rfl o1.cells rfl ?_))
 have e : subI .i64 (natI (slb hb (m + room)).len) (room : Int) = (m : Int) := by rw [natI_def]; show subI .i64 ((m + room : Nat) : Int) _ = _; rw [sub_ok (by omega) (by omega)]; omega
 rw [e]
 refine wp_grd (leB_ok (by omega) (by show (m : Int) ≤ ((m + room : Nat) : Int); omega)) ?_
 rw [cutBase_zero, toN_def, Int.toNat_natCast]
 exact s_ret ⟨rfl, e1, (⟨some (at0 hb), m, m + room⟩, ()), rfl, rfl⟩
theorem s_fldE {x : Eds} {e : EdD} {i f : Nat} {b : B} {z : b.den} {K : b.den → Prog} (ok : (Sh.list EdSh).ok h x) (he : x.2[i]? = some e) (hz : (EdSh.cells e)[f]? = some (b.inj z)) (hk : wp P (K z) h Q) :
  wp P (grd (andB (someB x.1.base) (inB (i : Int) x.1.len)) (grd (someB (shiftTo x.1.base (mulN (toN (i : Int)) 3))) (.load (.one b) (shiftTo (shiftTo x.1.base (mulN (toN (i : Int)) 3)) f) K))) h Q :=
 s_fieldSh (e := EdSh) (x := x) ok (by omega) (by rw [Int.toNat_natCast]; exact he) rfl hz hk
theorem ok_lst {x : Eds} {e : EdD} {i : Nat} (ok : (Sh.list EdSh).ok h x) (he : x.2[i]? = some e) : Lst .i64 h e.2.2.1.1 e.2.2.1.2 := Sh.lst (ok.el he).2.2.1
theorem c_sameEdits {a b : Eds} (ha : (Sh.list EdSh).ok h a) (hb : (Sh.list EdSh).ok h b) (hl : a.2.length = b.2.length) (hs : ∀ (i : Nat) (e e' : EdD), a.2[i]? = some e → b.2[i]? = some e' → e.1 = e'.1 ∧ e.2.1 = e'.2.1 ∧ e.2.2.1.2 = e'.2.2.1.2) :
  Gives P (F_law5_sameEdits S a.1 b.1) [.one .bool] h fun (y : Bool × Unit) _ => y.1 = true := by
 unfold F_law5_sameEdits Gives
 have la := ha.len
 have lb := hb.len
 have bd : a.2.length < 2 ^ 63 := by have := ha.2.1; have := ha.2.2.1; omega
 refine s_neF (by rw [natI_def, natI_def, la, lb, hl]) ?_
 refine wp_while (fun (r : Int × Unit) h' => ∃ i : Nat, r.1 = i ∧ i ≤ a.2.length ∧ Ext h h') (fun r _ => (a.2.length - r.1).toNat) (fun tg vs h' => tg = 2 ∧ vs = [] ∧ Ext h h') ⟨0, rfl, Nat.zero_le _, Ext.refl _⟩ ?_ ?_
 ·rintro ⟨(r : Int), u⟩ h1 ⟨i, hr, hi, e1⟩
  dsimp only at hr ⊢
  subst hr
  refine wp_ifB (fun hc => ?_) fun hc => ?_
  ·rw [ltI_iff, natI_def, la] at hc
   obtain ⟨e, he⟩ : ∃ e, a.2[i]? = some e := ⟨a.2[i]'(by omega), List.getElem?_eq_getElem (by omega)⟩
   obtain ⟨e', he'⟩ : ∃ e, b.2[i]? = some e := ⟨b.2[i]'(by omega), List.getElem?_eq_getElem (by omega)⟩
   obtain ⟨q1, q2, q3⟩ := hs i e e' he he'
   have oa := ha.ext e1
   have ob := hb.ext e1
   refine bind_bool False ?_ fun bb h2 e2 hb2 => wp_ifB (fun hx => (hb2.1 hx).elim) fun _ => ?_
   ·refine s_fldE (b := .int .i64) (z := e.1) oa he rfl (s_fldE (b := .int .i64) (z := e'.1) ob he' rfl (s_neF q1 (s_fldE (b := .int .i64) (z := e.2.1) oa he rfl (s_fldE (b := .int .i64) (z := e'.2.1) ob he' rfl (s_neF q2 (s_fldE (b := .sl) (z := e.2.2.1.1) oa he rfl (s_fldE (b := .sl) (z := e'.2.2.1.1) ob he' rfl (wp_call (c_same5I (ok_lst oa he) (ok_lst ob he')) fun ⟨(bb : Bool), _⟩ h2 e2 hb2 => s_ret ⟨rfl, e2, _, rfl, ?_⟩))))))))
    have hb2 : bb = decide (e.2.2.1.2 = e'.2.2.1.2) := hb2
    rw [hb2, q3, decide_eq_true rfl]
    exact Iff.intro (fun h => by cases h) False.elim
   ·rw [add_ok (by omega) (by omega)]
    exact s_ret ⟨fun _ => ⟨((i : Int) + 1, ()), rfl, ⟨i + 1, by dsimp only; omega, by omega, e1.trans e2⟩, by dsimp only; omega⟩, fun hh => absurd rfl hh⟩
  ·exact s_ret ⟨fun hh => absurd hh (by decide), fun _ => ⟨rfl, rfl, e1⟩⟩
 ·rintro tg vs h1 ⟨rfl, rfl, e1⟩
  exact s_tag (s_cast0 (s_ret ⟨rfl, e1, (true, ()), rfl, rfl⟩))
theorem HandR.slot (r : HandR n h x room hb ws pu) {i : Nat} {e : EdD} (he : x.2[i]? = some e) : ∃ b a, ws[i]? = some b ∧ pu.base = some a ∧ pu.len = x.2.length ∧ Sw.cell h (a.add i) = some (slv (slb b (putLen e + room))) ∧ Reg n h b (putC room e) := by
 have hlt := (List.getElem?_eq_some_iff.1 he).1
 have hl := r.len
 obtain ⟨b, hb'⟩ : ∃ b, ws[i]? = some b := ⟨ws[i]'(by omega), List.getElem?_eq_getElem (by omega)⟩
 obtain ⟨vs, o, lv, g⟩ := r.put
 obtain ⟨a, ha, hc⟩ := o.rd.2 i _ (g i e b he hb')
 have : pu.len = x.2.length := by have := o.1; omega
 exact ⟨b, a, hb', ha, this, hc, r.w i e b he hb'⟩
theorem s_slot {i : Nat} {e : EdD} {K : Sl → Prog} (r : HandR n h x room hb ws pu) (he : x.2[i]? = some e) (hk : ∀ b, ws[i]? = some b → Reg n h b (putC room e) → wp P (K (slb b (putLen e + room))) h Q) :
  wp P (grd (andB (someB pu.base) (inB (i : Int) pu.len)) <| .load (.one .sl) (shiftTo pu.base (mulN (toN (i : Int)) 1)) K) h Q := by
 obtain ⟨b, a, hb', ha, hl, hc, hr⟩ := r.slot he
 have hlt := (List.getElem?_eq_some_iff.1 he).1
 refine wp_grd (andB_iff.2 ⟨by simp [someB, ha], inB_is.2 ⟨by omega, by omega⟩⟩) ?_
 rw [ha, shiftTo_some, mulN_def, toN_def, Int.toNat_natCast, Nat.mul_one]
 exact wp_load1 (b := .sl) (a.add i) (slb b (putLen e + room)) rfl hc (hk b hb' hr)
theorem c_whole (r : HandR n h x room hb ws pu) (ok : (Sh.list EdSh).ok h x) (hL : x.2.length ≤ 1073741824) (hPL : ∀ e, e ∈ x.2 → putLen e ≤ 1073741824) (hrm : room ≤ 100) :
  Gives P (F_handed_whole S ((room : Int), slb hb (x.2.length + room), pu, ()) x.1) [.one .bool] h fun (y : Bool × Unit) _ => y.1 = true := by
 unfold F_handed_whole Gives
 have xlen := ok.len
 have hEl := handE_len (room := room) r.len
 refine s_newO (bs := [.int .i64, .sl, .sl]) ((room : Int), slb hb (x.2.length + room), pu, ()) (by decide) fun h1 e1 o1 => ?_
 have l1 : ∀ {h'} {K : Sl → Prog} {Q : Nat → List Value → Heap → Prop}, Ext h1 h' → wp P (K (slb hb (x.2.length + room))) h' Q → wp P (.load (.one .sl) (shiftTo (some ⟨h.size, 0, none⟩) 1) K) h' Q := fun e hk => s_cell (b := .sl) (slb hb (x.2.length + room)) rfl (o1.ext e).cells rfl hk
 have l2 : ∀ {h'} {K : Sl → Prog} {Q : Nat → List Value → Heap → Prop}, Ext h1 h' → wp P (K pu) h' Q → wp P (.load (.one .sl) (shiftTo (some ⟨h.size, 0, none⟩) 2) K) h' Q := fun e hk => s_cell (b := .sl) pu rfl (o1.ext e).cells rfl hk
 have l0 : ∀ {h'} {K : Int → Prog} {Q : Nat → List Value → Heap → Prop}, Ext h1 h' → wp P (K (room : Int)) h' Q → wp P (.load (.one (.int .i64)) (shiftTo (some ⟨h.size, 0, none⟩) 0) K) h' Q := fun e hk => s_cell (b := .int .i64) (room : Int) rfl (o1.ext e).cells rfl hk
 have E1 := Ext.refl h1
 have hsz : natI (slb hb (x.2.length + room)).len = addI .i64 (natI x.1.len) (room : Int) := by rw [natI_def, natI_def, xlen, add_ok (by omega) (by omega)]; show ((x.2.length + room : Nat) : Int) = _; omega
 refine l1 E1 (l0 E1 (s_neF hsz ?_))
 refine wp_while (fun (q : Int × Unit) h' => ∃ c, c ≤ room ∧ q.1 = ((x.2.length + c : Nat) : Int) ∧ Ext h1 h') (fun q _ => (x.2.length + room - q.1).toNat) (fun tg vs h' => tg = 2 ∧ vs = [] ∧ Ext h1 h') ⟨0, Nat.zero_le _, by rw [natI_def, xlen]; rfl, E1⟩ ?_ ?_
 ·rintro ⟨(q : Int), u⟩ h2 ⟨c, hc, hq, e2⟩
  dsimp only at hq ⊢
  subst hq
  refine l1 e2 (wp_ifB (fun hx => ?_) fun hx => ?_)
  ·rw [ltI_iff, natI_def] at hx
   dsimp only at hx
   have oA := (r.okA ok hL hPL hrm).ext (e1.trans e2)
   have hat : (handA room x hb ws).2[x.2.length + c]? = some (markD (x.2.length + c)) := by
    show (handE room x.2 ws ++ handM x.2.length room)[_]? = _
    rw [List.getElem?_append_right (by omega), hEl, Nat.add_sub_cancel_left]
    unfold handM
    rw [List.getElem?_map, List.getElem?_range (by omega)]; rfl
   refine bind_bool False ?_ fun bb h3 e3 hb3 => wp_ifB (fun hx => (hb3.1 hx).elim) fun _ => ?_
   ·refine l1 e2 (s_fldE (x := handA room x hb ws) (b := .int .i64) (z := -771 - ((x.2.length + c : Nat) : Int)) oA hat rfl (s_neF (by rw [sub_ok (by omega) (by omega)]) (l1 e2 (s_fldE (x := handA room x hb ws) (b := .int .i64) (z := -772) oA hat rfl (s_neF rfl (l1 e2 (s_fldE (x := handA room x hb ws) (b := .sl) (z := ⟨none, 0, 0⟩) oA hat rfl (s_ret ⟨rfl, Ext.refl _, _, rfl, ?_⟩))))))))
    rw [neI_iff]; exact Iff.intro (fun h => absurd rfl h) False.elim
   ·rw [add_ok (by omega) (by omega)]
    exact s_ret ⟨fun _ => ⟨(((x.2.length + c : Nat) : Int) + 1, ()), rfl, ⟨c + 1, by omega, by dsimp only; omega, e2.trans e3⟩, by dsimp only; omega⟩, fun hh => absurd rfl hh⟩
  ·exact s_ret ⟨fun hh => absurd hh (by decide), fun _ => ⟨rfl, rfl, e2⟩⟩
 rintro tg vs h2 ⟨rfl, rfl, e2⟩
 refine s_tag (s_cast0 ?_)
 refine wp_while (fun (q : Int × Unit) h' => ∃ i : Nat, i ≤ x.2.length ∧ q.1 = i ∧ Ext h1 h') (fun q _ => (x.2.length - q.1).toNat) (fun tg vs h' => tg = 4 ∧ vs = [] ∧ Ext h1 h') ⟨0, Nat.zero_le _, rfl, e2⟩ ?_ ?_
 ·rintro ⟨(q : Int), u⟩ h3 ⟨i, hi, hq, e3⟩
  dsimp only at hq ⊢
  subst hq
  refine wp_ifB (fun hx => ?_) fun hx => ?_
  ·rw [ltI_iff, natI_def, xlen] at hx
   obtain ⟨e, he⟩ : ∃ e, x.2[i]? = some e := ⟨x.2[i]'(by omega), List.getElem?_eq_getElem (by omega)⟩
   have hel : e.2.2.1.2.length ≤ 1073741824 := hPL e (List.mem_of_getElem? he)
   have hpe : putLen e = e.2.2.1.2.length := rfl
   have r3 := r.ext (e1.trans e3)
   have ok3 := ok.ext (e1.trans e3)
   have hll := (ok_lst ok3 he).len
   refine l2 e3 (s_slot r3 he fun b hb' rg => s_fldE (b := .sl) (z := e.2.2.1.1) ok3 he rfl ?_)
   have lw : ∀ {h' : Heap}, Ext h3 h' → Lst .i64 h' (slb b (putLen e + room)) (e.2.2.1.2 ++ markE (putLen e) room) := fun {h'} e4 => by
    have rg4 := rg.ext e4
    have hlen : (e.2.2.1.2 ++ markE (putLen e) room).length = putLen e + room := by rw [List.length_append, markE_len]
    have hr : Reg n h' b ((e.2.2.1.2 ++ markE (putLen e) room).map (.int .i64) ++ []) := by rw [List.append_nil]; exact rg4
    have := hr.lst (c := putLen e + room) (by
     intro y hy
     rcases List.mem_append.1 hy with hy | hy
     ·exact (ok_lst ok3 he).wf y hy
     ·unfold markE at hy
      obtain ⟨j, hj, rfl⟩ := List.mem_map.1 hy
      rw [List.mem_range] at hj
      rw [fits_i64]; omega) (by omega) (by omega)
    rw [hlen] at this; exact this
   have hadd : natI (slb b (putLen e + room)).len = addI .i64 (natI e.2.2.1.1.len) (room : Int) := by rw [natI_def, natI_def, hll, add_ok (by omega) (by omega)]; show ((putLen e + room : Nat) : Int) = _; omega
   refine bind_bool False ?_ fun bb h4 e4 hb4 => wp_ifB (fun hx => (hb4.1 hx).elim) fun _ => ?_
   ·refine l0 e3 (s_neF hadd (wp_grd (leB_ok (by rw [natI_def]; omega) (by rw [natI_def, hll]; show ((putLen e : Nat) : Int) ≤ ((putLen e + room : Nat) : Int); omega)) (s_fldE (b := .sl) (z := e.2.2.1.1) ok3 he rfl ?_)))
    rw [cutBase_zero, natI_def, toN_def, Int.toNat_natCast, hll]
    have l4 : Lst .i64 h3 ⟨some (at0 b), subN e.2.2.1.2.length 0, subN (putLen e + room) 0⟩ e.2.2.1.2 := by
     have := (lw (Ext.refl _)).take (n := e.2.2.1.2.length) (m := putLen e + room) (by simp) (by omega) (by omega)
     rw [List.take_left' rfl] at this; exact this
    refine wp_call (c_same5I l4 (ok_lst ok3 he)) fun ⟨(bb : Bool), _⟩ h4 e4 hb4 => s_ret ⟨rfl, e4, _, rfl, ?_⟩
    have hb4 : bb = decide (e.2.2.1.2 = e.2.2.1.2) := hb4
    rw [hb4, decide_eq_true rfl]
    exact Iff.intro (fun h => by cases h) False.elim
   ·have e14 := e3.trans e4
    refine wp_while (fun (q : Int × Unit) h' => ∃ c, c ≤ room ∧ q.1 = ((putLen e + c : Nat) : Int) ∧ h' = h4) (fun q _ => (putLen e + room - q.1).toNat) (fun tg vs h' => tg = 6 ∧ vs = [] ∧ h' = h4) ⟨0, Nat.zero_le _, by rw [natI_def, hll]; rfl, rfl⟩ ?_ ?_
    ·rintro ⟨(q : Int), u⟩ h5 ⟨c, hc, hq, rfl⟩
     dsimp only at hq ⊢
     subst hq
     refine wp_ifB (fun hx => ?_) fun hx => ?_
     ·rw [ltI_iff, natI_def] at hx
      refine s_at (s := slb b (putLen e + room)) (lw e4) (by omega) (by rw [List.length_append, markE_len]; omega) fun _ => ?_
      have hv : (e.2.2.1.2 ++ markE (putLen e) room).getD ((putLen e + c : Nat) : Int).toNat 0 = addI .i64 771 ((putLen e + c : Nat) : Int) := by
       rw [Int.toNat_natCast, List.getD_eq_getElem?_getD, List.getElem?_append_right (by omega), show putLen e + c - e.2.2.1.2.length = c by omega]
       unfold markE
       rw [List.getElem?_map, List.getElem?_range (by omega), add_ok (by omega) (by omega)]
       show 771 + ((putLen e : Int) + c) = _; omega
      refine s_neF hv ?_
      rw [add_ok (by omega) (by omega)]
      exact s_ret ⟨fun _ => ⟨(((putLen e + c : Nat) : Int) + 1, ()), rfl, ⟨c + 1, by omega, by dsimp only; omega, rfl⟩, by dsimp only; omega⟩, fun hh => absurd rfl hh⟩
     ·exact s_ret ⟨fun hh => absurd hh (by decide), fun _ => ⟨rfl, rfl, rfl⟩⟩
    ·rintro tg vs h5 ⟨rfl, rfl, rfl⟩
     refine s_tag (s_cast0 ?_)
     rw [add_ok (by omega) (by omega)]
     exact s_ret ⟨fun _ => ⟨((i : Int) + 1, ()), rfl, ⟨i + 1, by omega, by dsimp only; omega, e14⟩, by dsimp only; omega⟩, fun hh => absurd rfl hh⟩
  ·exact s_ret ⟨fun hh => absurd hh (by decide), fun _ => ⟨rfl, rfl, e3⟩⟩
 ·rintro tg vs h3 ⟨rfl, rfl, e3⟩
  refine s_tag (s_cast0 (s_getO (bs := [.int .i64, .sl, .sl]) (x := ((room : Int), slb hb (x.2.length + room), pu, ())) (o1.ext e3) ?_))
  refine wp_call (c_handed_edits (m := x.2.length) (by omega)) fun ⟨(y : Sl), _⟩ h4 e4 hy => ?_
  have hy : y = ⟨some (at0 hb), x.2.length, x.2.length + room⟩ := hy
  subst hy
  have r4 := r.ext ((e1.trans e3).trans e4)
  have ok4 := ok.ext ((e1.trans e3).trans e4)
  refine wp_call (c_sameEdits (a := handX room x hb ws) (b := x) (r4.ok ok4 hL hPL hrm) ok4 hEl fun i a b ha hb => ?_) fun ⟨(bb : Bool), _⟩ h5 e5 hb5 => s_ret ⟨rfl, ((e1.trans e3).trans e4).trans e5, (bb, ()), rfl, hb5⟩
  obtain ⟨e, b', he, _, rfl⟩ := handE_at ha
  rw [he] at hb; cases hb
  exact ⟨rfl, rfl, rfl⟩
theorem c_spoil (r : HandR n h x room hb ws pu) (hL : x.2.length ≤ 1073741824) (hPL : ∀ e, e ∈ x.2 → putLen e ≤ 1073741824) (hrm : room ≤ 100) :
  wp P (F_handed_spoil S ((room : Int), slb hb (x.2.length + room), pu, ())) h fun tg vs h' => tg = 0 ∧ vs = [] ∧ SChg (fun i => i = hb ∨ i ∈ ws) h h' := by
 unfold F_handed_spoil
 refine s_newO (bs := [.int .i64, .sl, .sl]) ((room : Int), slb hb (x.2.length + room), pu, ()) (by decide) fun h1 e1 o1 => ?_
 have q1 : h.size < h1.size := (o1.lt rfl).2
 have pul : pu.len = x.2.length := by obtain ⟨vs, o, lv, g⟩ := r.put; have := o.1; omega
 let F : Nat → Prop := fun i => i = hb ∨ i ∈ ws
 have Flt : ∀ i, F i → i < h.size := fun i hi => by
  rcases hi with rfl | hi
  ·exact r.blk.lt
  ·obtain ⟨j, hj⟩ := List.getElem?_of_mem hi
   have hlt := (List.getElem?_eq_some_iff.1 hj).1
   have hl := r.len
   exact (r.w j (x.2[j]'(by omega)) i (List.getElem?_eq_getElem (by omega)) hj).lt
 have sO : ∀ {h'}, SChg F h1 h' → Own h.size 1 h' ⟨some ⟨h.size, 0, none⟩, 3, 3⟩ (Bs.inj [.int .i64, .sl, .sl] (((room : Int), slb hb (x.2.length + room), pu, ()) : Int × Sl × Sl × Unit)) := fun c => c.1.own o1 fun y hy f => by cases hy; have := Flt _ f; dsimp only at this; omega
 have l1 : ∀ {h'} {K : Sl → Prog} {Q : Nat → List Value → Heap → Prop}, SChg F h1 h' → wp P (K (slb hb (x.2.length + room))) h' Q → wp P (.load (.one .sl) (shiftTo (some ⟨h.size, 0, none⟩) 1) K) h' Q := fun e hk => s_cell (b := .sl) (slb hb (x.2.length + room)) rfl (sO e).cells rfl hk
 have l2 : ∀ {h'} {K : Sl → Prog} {Q : Nat → List Value → Heap → Prop}, SChg F h1 h' → wp P (K pu) h' Q → wp P (.load (.one .sl) (shiftTo (some ⟨h.size, 0, none⟩) 2) K) h' Q := fun e hk => s_cell (b := .sl) pu rfl (sO e).cells rfl hk
 have r1 := r.ext e1
 have slot : ∀ {h'} {i : Nat} {e : EdD} {b : Nat} {K : Sl → Prog} {Q : Nat → List Value → Heap → Prop}, SChg F h1 h' → x.2[i]? = some e → ws[i]? = some b → wp P (K (slb b (putLen e + room))) h' Q →
   wp P (grd (andB (someB pu.base) (inB (i : Int) pu.len)) <| .load (.one .sl) (shiftTo pu.base (mulN (toN (i : Int)) 1)) K) h' Q := fun {h'} {i} {e} {b} {K} {Q} c he hb' hk => by
  obtain ⟨b2, a, hb2, ha, hl, hc, hr⟩ := r1.slot he
  rw [hb'] at hb2; cases hb2
  have hlt := (List.getElem?_eq_some_iff.1 he).1
  refine wp_grd (andB_iff.2 ⟨by simp [someB, ha], inB_is.2 ⟨by omega, by omega⟩⟩) ?_
  rw [ha, shiftTo_some, mulN_def, toN_def, Int.toNat_natCast, Nat.mul_one]
  have hpb := r.pub a ha
  have hbk : (a.add i).block = a.block := add_block a i
  have hc' : Sw.cell h' (a.add i) = some (slv (slb b (putLen e + room))) := (cell_of_block (h := h1) (h' := h') (a := a.add i) (by rw [hbk]; exact c.1.2.1 _ (by have := cell_lt hc; rw [hbk] at this; exact this) fun f => f.elim hpb.1 hpb.2)).trans hc
  exact wp_load1 (b := .sl) (a.add i) (slb b (putLen e + room)) rfl hc' hk
 refine wp_while (fun (q : Int × Unit) h' => ∃ i : Nat, i ≤ x.2.length ∧ q.1 = i ∧ SChg F h1 h') (fun q _ => (x.2.length - q.1).toNat) (fun tg vs h' => tg = 2 ∧ vs = [] ∧ SChg F h1 h') ⟨0, Nat.zero_le _, rfl, SChg.refl _ _⟩ ?_ ?_
 ·rintro ⟨(q : Int), u⟩ h2 ⟨i, hi, hq, c2⟩
  dsimp only at hq ⊢
  subst hq
  refine l2 c2 (wp_ifB (fun hx => ?_) fun hx => ?_)
  ·rw [ltI_iff, natI_def, pul] at hx
   obtain ⟨e, he⟩ : ∃ e, x.2[i]? = some e := ⟨x.2[i]'(by omega), List.getElem?_eq_getElem (by omega)⟩
   have hel : e.2.2.1.2.length ≤ 1073741824 := hPL e (List.mem_of_getElem? he)
   have hpe : putLen e = e.2.2.1.2.length := rfl
   obtain ⟨b, hb'⟩ : ∃ b, ws[i]? = some b := ⟨ws[i]'(by have := r.len; omega), List.getElem?_eq_getElem (by have := r.len; omega)⟩
   have bl1 : Blk n h1 b (putLen e + room) := by have := (r1.w i e b he hb').blk; rw [putC_len] at this; exact this
   refine wp_while (fun (q : Int × Unit) h' => ∃ j : Nat, j ≤ putLen e + room ∧ q.1 = j ∧ SChg F h1 h') (fun q _ => (putLen e + room - q.1).toNat) (fun tg vs h' => tg = 4 ∧ vs = [] ∧ SChg F h1 h') ⟨0, Nat.zero_le _, rfl, c2⟩ ?_ ?_
   ·rintro ⟨(q : Int), u⟩ h3 ⟨j, hj, hq, c3⟩
    dsimp only at hq ⊢
    subst hq
    refine l2 c3 (slot c3 he hb' (wp_ifB (fun hy => ?_) fun hy => ?_))
    ·rw [ltI_iff, natI_def] at hy
     dsimp only at hy
     refine l2 c3 (slot c3 he hb' (s_not (wp_grd (andB_iff.2 ⟨rfl, inB_is.2 ⟨by omega, by show (j : Int) < ((putLen e + room : Nat) : Int); omega⟩⟩) ?_)))
     rw [shiftTo_some, mulN_def, toN_def, Int.toNat_natCast, Nat.mul_one, add_mk, Nat.zero_add, rem_ok (by omega), add_ok (by omega) (by omega), add_ok (by omega) (by omega)]
     refine s_putB [_] (bl1.schg c3) (by simp; omega) (by intro v hv; rw [List.mem_singleton.1 hv]; rfl) fun h4 _ _ _ c4 _ => ?_
     exact s_ret ⟨fun _ => ⟨((j : Int) + 1, ()), rfl, ⟨j + 1, by omega, by dsimp only; omega, c3.trans c4 fun i _ f => by subst f; exact .inr (List.mem_of_getElem? hb')⟩, by dsimp only; omega⟩, fun hh => absurd rfl hh⟩
    ·exact s_ret ⟨fun hh => absurd hh (by decide), fun _ => ⟨rfl, rfl, c3⟩⟩
   ·rintro tg vs h3 ⟨rfl, rfl, c3⟩
    refine s_tag (s_cast0 ?_)
    rw [add_ok (by omega) (by omega)]
    exact s_ret ⟨fun _ => ⟨((i : Int) + 1, ()), rfl, ⟨i + 1, by omega, by dsimp only; omega, c3⟩, by dsimp only; omega⟩, fun hh => absurd rfl hh⟩
  ·exact s_ret ⟨fun hh => absurd hh (by decide), fun _ => ⟨rfl, rfl, c2⟩⟩
 rintro tg vs h2 ⟨rfl, rfl, c2⟩
 refine s_tag (s_cast0 ?_)
 have blh : Blk n h1 hb ((x.2.length + room) * 3) := r1.blk
 refine wp_while (fun (q : Int × Unit) h' => ∃ i : Nat, i ≤ x.2.length + room ∧ q.1 = i ∧ SChg F h1 h') (fun q _ => (x.2.length + room - q.1).toNat) (fun tg vs h' => tg = 6 ∧ vs = [] ∧ SChg F h1 h') ⟨0, Nat.zero_le _, rfl, c2⟩ ?_ ?_
 ·rintro ⟨(q : Int), u⟩ h3 ⟨i, hi, hq, c3⟩
  dsimp only at hq ⊢
  subst hq
  refine l1 c3 (wp_ifB (fun hx => ?_) fun hx => ?_)
  ·rw [ltI_iff, natI_def] at hx
   dsimp only at hx
   refine l1 c3 (wp_grd (andB_iff.2 ⟨rfl, inB_is.2 ⟨by omega, by show (i : Int) < ((x.2.length + room : Nat) : Int); omega⟩⟩) (wp_grd rfl ?_))
   rw [shiftTo_some, shiftTo_some, mulN_def, toN_def, Int.toNat_natCast, add_mk, add_mk, Nat.zero_add, Nat.add_zero]
   refine s_putB [_] (blh.schg c3) (by simp; omega) (by intro v hv; rw [List.mem_singleton.1 hv]; rfl) fun h4 _ _ _ c4 _ => ?_
   rw [add_ok (by omega) (by omega)]
   exact s_ret ⟨fun _ => ⟨((i : Int) + 1, ()), rfl, ⟨i + 1, by omega, by dsimp only; omega, c3.trans c4 fun i _ f => by subst f; exact .inl rfl⟩, by dsimp only; omega⟩, fun hh => absurd rfl hh⟩
  ·exact s_ret ⟨fun hh => absurd hh (by decide), fun _ => ⟨rfl, rfl, c3⟩⟩
 ·rintro tg vs h3 ⟨rfl, rfl, c3⟩
  exact s_tag (s_cast0 (s_ret ⟨rfl, rfl, (SChg.of_ext e1).trans c3 fun i _ f => f⟩))
end Go.Sw.Piece

set_option linter.unusedVariables false
set_option linter.unusedSimpArgs false
set_option maxRecDepth 100000
namespace Go.Sw.Piece
open Go.Sw.Any Go.Sw.Codec
open Go.Sw.Tree (iv s_putAll s_newP s_getP s_getT s_putP eqI_self Placed cell_own wp_whileG minI_eq)
variable {P : Program} {S : Ids} {h : Heap} {Q : Nat → List Value → Heap → Prop}
variable {n : Nat} {p : Option Addr} {x : Eds} {room hb : Nat} {s : Option PenS} {ws : List Nat} {pu : Sl}
def strip (e : EdD) : EdD := (e.1, e.2.1, (⟨none, 0, 0⟩, e.2.2.1.2), ())
theorem strip_put (es : List EdD) : putsOf (es.map strip) = putsOf es := by simp [putsOf, List.flatMap_map, strip]
theorem strip_plc {len : Int} : ∀ {es : List EdD} {a : Int}, Plc len a (es.map strip) ↔ Plc len a es
 | [], _ => Iff.rfl
 | e :: es, a => by simp only [List.map_cons, Plc, strip_plc (es := es)]; exact Iff.rfl
theorem strip_gone (ts : List (Int × Int)) (es : List EdD) : goneE ts (es.map strip) = goneE ts es := by unfold goneE; rw [List.map_map]; rfl
theorem strip_all (E : List El) : ∀ es : List EdD, allE E (es.map strip) = allE E es
 | [] => rfl
 | e :: es => by rw [List.map_cons, allE_cons, allE_cons, strip_all E es]; rfl
theorem strip_ref {enc limit r : Int} {ts : List (Int × Int)} {es : List EdD} : RefR enc limit ts (es.map strip) r ↔ RefR enc limit ts es r := by
 constructor
 ·intro h
  cases h with
  | many h => exact .many (by rw [List.length_map] at h; exact h)
  | place a b => exact .place (by rw [List.length_map] at a; exact a) fun k => b (strip_plc.2 k)
  | fit a b c => exact .fit (by rw [List.length_map] at a; exact a) (strip_plc.1 b) (by rw [strip_put] at c; exact c)
  | full a b c d => exact .full (by rw [List.length_map] at a; exact a) (strip_plc.1 b) (by rw [strip_put] at c; exact c) (by rw [strip_put, strip_gone] at d; exact d)
  | ok a b c d => exact .ok (by rw [List.length_map] at a; exact a) (strip_plc.1 b) (by rw [strip_put] at c; exact c) (by rw [strip_put, strip_gone] at d; exact d)
 ·intro h
  cases h with
  | many h => exact .many (by rw [List.length_map]; exact h)
  | place a b => exact .place (by rw [List.length_map]; exact a) fun k => b (strip_plc.1 k)
  | fit a b c => exact .fit (by rw [List.length_map]; exact a) (strip_plc.2 b) (by rw [strip_put]; exact c)
  | full a b c d => exact .full (by rw [List.length_map]; exact a) (strip_plc.2 b) (by rw [strip_put]; exact c) (by rw [strip_put, strip_gone]; exact d)
  | ok a b c d => exact .ok (by rw [List.length_map]; exact a) (strip_plc.2 b) (by rw [strip_put]; exact c) (by rw [strip_put, strip_gone]; exact d)
theorem strip_hand (room : Nat) : ∀ {es : List EdD} {ws : List Nat}, ws.length = es.length → (handE room es ws).map strip = es.map strip
 | [], ws, _ => by simp [handE]
 | e :: es, [], h => by simp at h
 | e :: es, w :: ws, h => by
  have := strip_hand room (es := es) (ws := ws) (by simpa using h)
  unfold handE at this ⊢
  rw [List.zipWith_cons_cons, List.map_cons, List.map_cons, this]; rfl
theorem hand_put {room : Nat} {es : List EdD} {ws : List Nat} (hl : ws.length = es.length) : putsOf (handE room es ws) = putsOf es := by rw [← strip_put, strip_hand room hl, strip_put]
theorem hand_all {room : Nat} {es : List EdD} {ws : List Nat} (hl : ws.length = es.length) (E : List El) : allE E (handE room es ws) = allE E es := by rw [← strip_all, strip_hand room hl, strip_all]
theorem hand_ref {room : Nat} {es : List EdD} {ws : List Nat} (hl : ws.length = es.length) {enc limit r : Int} {ts : List (Int × Int)} : RefR enc limit ts (handE room es ws) r ↔ RefR enc limit ts es r := by rw [← strip_ref, strip_hand room hl, strip_ref]
theorem Nxt.low {T T' : TX} {m m' : Nat} (nx : Nxt T T' m) (hm : m' ≤ m) : Nxt T T' m' := ⟨nx.p, nx.enc, nx.limit, nx.kept, nx.zm, fun i hi => (nx.zn i hi).imp id fun h => Nat.le_trans hm h, fun b hb => (nx.adc b hb).imp id fun h => Nat.le_trans hm h⟩
structure WrR (S : Ids) (n : Nat) (T : TX) (p : Option Addr) (s : Option PenS) (h0 h : Heap) (es : List EdD) (r : Int) (T' : TX) (s' : Option PenS) : Prop where
 ref : RefR T.enc T.limit (toksL T.enc T.cur.ps) es r
 t : TextR S n h T'
 nx : Nxt T T' h0.size
 els : els T.enc T'.cur.ps = if r = 0 then allE (els T.enc T.cur.ps) es else els T.enc T.cur.ps
 len : T'.A.length ≤ T.A.length + 4 * (putsOf es).length
 chg : Chg (fun i => wfoot T i ∨ oZ s i) h0 h
 pen : PenO n h p s'
 zone : ∀ i, oZ s' i → oZ s i ∨ h0.size ≤ i
 far : ∀ i, T'.Z i → ¬ oZ s' i
theorem c_written (M : Meth0 P S) {T : TX} (t : TextR S n h T) (hp : PenO n h p s) (far : ∀ i, T.Z i → ¬ oZ s i) (hn : n ≤ h.size) (hok : ∀ h', Keep n h h' → (Sh.list EdSh).ok h' x) (hL : x.2.length ≤ 1073741824) (hPL : ∀ e, e ∈ x.2 → putLen e ≤ 1073741824)
  (hA : T.A.length + 4 * (putsOf x.2).length ≤ 400000000000) (hsm : (bytesL T.cur.ps).length ≤ T.limit) :
  wp P (F_law5_written S (some T.p) p x.1) h fun tg vs h' => tg = 0 ∧ ∃ r T' s', vs = [i64v r, .bool true] ∧ WrR S n T p s h h' x.2 r T' s' := by
 unfold F_law5_written
 have lo := t.lo
 have zin : ∀ j, oZ s j → n ≤ j ∧ j < h.size := fun j hz => hp.in hz
 refine wp_callW (c_hand hp hn hok hL hPL) fun tg vs h1 ⟨ht, hb, ws, pu, s1, hv, r1, c1, p1, z1, old1, pu1⟩ => ⟨ht, ((((roomOf x.2.length : Nat) : Int), slb hb (x.2.length + roomOf x.2.length), pu, ()), ()), hv, ?_⟩
 have hroom := (room_le x.2.length).2
 generalize roomOf x.2.length = room at *
 have q1 := c1.1
 have t1 : TextR S n h1 T := t.chg c1 far
 have hl := r1.len
 refine s_putO (bs := [.int .i64, .sl, .sl]) (z := (0, ⟨none, 0, 0⟩, ⟨none, 0, 0⟩, ())) ((room : Int), slb hb (x.2.length + room), pu, ()) (by decide) flat3 fun h2 e2 o2 => s_getO (bs := [.int .i64, .sl, .sl]) o2 ?_
 refine wp_call (c_handed_edits (m := x.2.length) (by omega)) fun ⟨(y : Sl), _⟩ h3 e3 hy => ?_
 have hy : y = ⟨some (at0 hb), x.2.length, x.2.length + room⟩ := hy
 subst hy
 have e13 := e2.trans e3
 have q2 : h1.size < h2.size := (o2.lt rfl).2
 have q3 := e3.size
 have t3 := t1.ext e13
 have p3 := p1.ext e13
 have r3 := r1.ext e13
 have k01 : Keep n h h1 := c1.keep hn fun j hj hz => by have := (zin j hz).1; omega
 have k03 : Keep n h h3 := Keep.trans k01 (e13.keep (by omega))
 have bz : ∀ b, b = hb ∨ b ∈ ws → ¬ T.Z b := fun b hb' hz => by
  rcases (old1 b hb').1 with h | h
  ·exact far b hz h
  ·have := (lo b hz).2; omega
 have pz : ∀ a, pu.base = some a → ¬ T.Z a.block := fun a ha hz => by have := (pu1 a ha).1; have := (lo _ hz).2; omega
 have wz : ∀ i, wfoot T i → T.Z i := fun i hw => wfoot_Z t hw
 have rk : ∀ {h'}, Chg (wfoot T) h3 h' → HandR n h' x room hb ws pu := fun c => r3.keep c fun i f => ⟨fun e => bz i (.inl e) (wz i f), fun e => bz i (.inr e) (wz i f), fun a ha e => pz a ha (e ▸ wz i f)⟩
 have kk : ∀ {h'}, Chg (wfoot T) h3 h' → Keep n h h' := fun c => Keep.trans k03 (c.keep (by omega) fun j hj hw => by have := (lo j (wz j hw)).1; omega)
 refine wp_callW (c_Change M (x := handX room x hb ws) t3 (by omega) (fun h' c => (rk c).ok (hok _ (kk c)) hL hPL hroom) (fun e he hne a ha hz => ?_) (by show T.A.length + 4 * (putsOf (handE room x.2 ws)).length ≤ _; rw [hand_put hl]; exact hA) hsm) fun tg vs h4 ⟨ht, c4, r, T', hv, R⟩ => ⟨ht, (r, ()), hv, ?_⟩
 ·obtain ⟨i, hi⟩ := List.getElem?_of_mem he
  have hi : (handE room x.2 ws)[i]? = some e := hi
  obtain ⟨e', b, he', hb', rfl⟩ := handE_at hi
  have ha : (putSl room e' b).base = some a := ha
  unfold putSl at ha
  split at ha
  ·cases ha
  ·cases ha
   exact bz b (.inr (List.mem_of_getElem? hb')) hz
 have o4 := c4.own (o2.ext e3) fun y hy f => by cases hy; have := (lo _ (wz _ f)).2; dsimp only at this; omega
 have far3 : ∀ i, T.Z i → ¬ oZ s1 i := fun i hz ho => (z1 i ho).elim (far i hz) fun h => by have := (lo i hz).2; omega
 have p4 : PenO n h4 p s1 := p3.chg c4 fun i ho hw => far3 i (wz i hw) ho
 have r4 := rk c4
 refine s_getO (bs := [.int .i64, .sl, .sl]) o4 (wp_call (c_whole r4 (hok _ (kk c4)) hL hPL hroom) fun ⟨(bb : Bool), _⟩ h5 e5 hb5 => ?_)
 have hb5 : bb = true := hb5
 subst hb5
 refine s_getO (bs := [.int .i64, .sl, .sl]) (o4.ext e5) (wp_callW (c_spoil (r4.ext e5) hL hPL hroom) fun tg vs h6 ⟨ht, hv, c6⟩ => ⟨ht, (), hv, s_ret ⟨rfl, r, T', s1, rfl, ?_⟩⟩)
 have q4 := c4.1; have q5 := e5.size
 have far4 : ∀ i, T'.Z i → ¬ oZ s1 i := fun i hz ho => (R.nx.zn i hz).elim (fun h => far3 i h ho) fun h => by have := (p3.in ho).2; omega
 have bz' : ∀ b, b = hb ∨ b ∈ ws → ¬ T'.Z b := fun b hb' hz => (R.nx.zn b hz).elim (bz b hb') fun h => by
  have : b < h1.size := by
   rcases hb' with rfl | hb'
   ·exact r1.blk.lt
   ·obtain ⟨j, hj⟩ := List.getElem?_of_mem hb'
    have hlt := (List.getElem?_eq_some_iff.1 hj).1
    exact (r1.w j (x.2[j]'(by omega)) b (List.getElem?_eq_getElem (by omega)) hj).lt
  omega
 refine ⟨(hand_ref hl).1 R.ref, (R.t.ext e5).chg c6.1 fun i hz f => bz' i f hz, R.nx.low (by omega), ?_, ?_, ?_, (p4.ext e5).schg c6 fun i hm f => (old1 i f).2 hm, z1, far4⟩
 ·rw [R.els]
  have : allE (els T.enc T.cur.ps) (handX room x hb ws).2 = allE (els T.enc T.cur.ps) x.2 := hand_all hl _
  rw [this]
 ·have := R.len
  have e : putsOf (handX room x hb ws).2 = putsOf x.2 := hand_put hl
  rw [e] at this; exact this
 ·have c02 : Chg (fun i => wfoot T i ∨ oZ s i) h h3 := (c1.mono fun i _ f => .inr f).ext e13
  have c04 := c02.trans (c4.mono (G := fun i => wfoot T i ∨ oZ s i) fun i _ f => .inl f) fun i _ f => f
  exact (c04.ext e5).trans c6.1 fun i hlt f => (old1 i f).1.elim (fun h => .inr h) fun h => by omega
theorem c_changed (M : Meth0 P S) {T : TX} (t : TextR S n h T) (hn : n ≤ h.size) (hok : ∀ h', Keep n h h' → (Sh.list EdSh).ok h' x) (hL : x.2.length ≤ 1073741824) (hPL : ∀ e, e ∈ x.2 → putLen e ≤ 1073741824)
  (hA : T.A.length + 4 * (putsOf x.2).length ≤ 400000000000) (hsm : (bytesL T.cur.ps).length ≤ T.limit) :
  wp P (F_law5_changed S (some T.p) x.1) h fun tg vs h' => tg = 0 ∧ ∃ r T', vs = [i64v r, .bool true] ∧ Chg (wfoot T) h h' ∧ ChangeR S n T h h' x.2 r T' := by
 unfold F_law5_changed
 refine wp_callW (c_written M (p := none) (s := none) t rfl (fun _ _ f => f) hn hok hL hPL hA hsm) fun tg vs h1 ⟨ht, r, T', s', hv, w⟩ => ⟨ht, (r, true, ()), hv, s_ret ⟨rfl, r, T', rfl, w.chg.mono fun i _ f => f.elim id fun f => f.elim, w.ref, w.t, w.nx, w.els, w.len⟩⟩
end Go.Sw.Piece

set_option linter.unusedVariables false
set_option linter.unusedSimpArgs false
set_option maxRecDepth 100000
namespace Go.Sw.Piece
open Go.Sw.Any Go.Sw.Codec
variable {P : Program} {S : Ids} {h : Heap} {Q : Nat → List Value → Heap → Prop}
theorem ints_wt {k : IntKind} (x : Sl × List Int) : (Sh.list (.int k)).wt x = x.2.length + 1 := by
 have : ∀ l : List Int, (l.map (Sh.int k).wt).sum = l.length := by
  intro l
  induction l with
  | nil => rfl
  | cons y l ih => rw [List.map_cons, List.sum_cons, ih, List.length_cons, Nat.add_comm]; rfl
 simp only [Sh.wt]
 have h2 := this x.2
 exact congrArg (· + 1) h2
theorem ed_wt (e : EdD) : putLen e + 1 ≤ EdSh.wt e := by
 have h1 := ints_wt (k := .i64) e.2.2.1
 have h2 : putLen e = e.2.2.1.2.length := rfl
 simp only [Sh.wt] at h1 ⊢
 omega
theorem eds_wt (x : Eds) : x.2.length ≤ (Sh.list EdSh).wt x ∧ (putsOf x.2).length ≤ (Sh.list EdSh).wt x ∧ ∀ e, e ∈ x.2 → putLen e ≤ (Sh.list EdSh).wt x := by
 have : ∀ l : List EdD, l.length ≤ (l.map EdSh.wt).sum ∧ (putsOf l).length ≤ (l.map EdSh.wt).sum ∧ ∀ e, e ∈ l → putLen e ≤ (l.map EdSh.wt).sum := by
  intro l
  induction l with
  | nil => exact ⟨Nat.le_refl _, Nat.le_refl _, fun e he => by cases he⟩
  | cons y l ih =>
   have h1 := ed_wt y
   have h2 : (putsOf (y :: l)).length = putLen y + (putsOf l).length := by simp [putsOf]
   rw [List.map_cons, List.sum_cons, List.length_cons, h2]
   refine ⟨by omega, by omega, fun e he => ?_⟩
   rcases List.mem_cons.1 he with rfl | he
   ·omega
   ·have := ih.2.2 e he; omega
 have h1 := this x.2
 have e : (Sh.list EdSh).wt x = (x.2.map EdSh.wt).sum + 1 := rfl
 rw [e]
 exact ⟨by omega, by omega, fun e he => by have := h1.2.2 e he; omega⟩
theorem all_take {E : List El} : ∀ {es : List EdD} {a : Int} {k : Nat}, Plc E.length a es → (k : Int) ≤ a → (allE E es).take k = E.take k
 | [], _, _, _, _ => rfl
 | e :: es, a, k, ⟨h1, h2, h3, h4⟩, hk => by
  have h5 := all_take (E := E) (es := es) (k := e.1.toNat) h4 (by omega)
  rw [allE_cons]
  unfold one1
  rw [h5, List.append_assoc, List.take_append_of_le_length (by rw [List.length_take]; omega), List.take_take, show min k e.1.toNat = k by omega]
theorem size_put {enc : Int} {l : List Int} (hf : fitsE enc l) : (sizeL enc l : Int) = (l.flatMap (putF enc)).length := by
 induction l with
 | nil => rfl
 | cons a l ih =>
  have h1 := putF_len (hf a (List.mem_cons_self ..))
  have h2 := ih fun b hb => hf b (List.mem_cons_of_mem _ hb)
  have h3 : sizeL enc (a :: l) = sizeF enc a + sizeL enc l := by simp [sizeL]
  rw [h3, List.flatMap_cons, List.length_append, h2]; omega
theorem map_new (l : List Int) : (l.map fun a => ((a, -1) : El)).map (fun x : El => x.1) = l := by
 rw [List.map_map]
 conv => rhs; rw [← List.map_id l]
 rfl
theorem blen_new {enc : Int} {l : List Int} : blen enc (l.map fun a => ((a, -1) : El)) = (l.flatMap (putF enc)).length := by
 unfold blen; rw [map_new]
theorem blen_take_drop (enc : Int) (E : List El) (k : Nat) : blen enc E = blen enc (E.take k) + blen enc (E.drop k) := by rw [← blen_append, List.take_append_drop]
def goneB (enc : Int) (E : List El) (es : List EdD) : Int := (es.map fun e => (blen enc (E.take e.2.1.toNat) : Int) - blen enc (E.take e.1.toNat)).sum
theorem blen_all {enc : Int} {E : List El} : ∀ {es : List EdD} {a : Int}, 0 ≤ a → Plc E.length a es → fitsE enc (putsOf es) → (blen enc (allE E es) : Int) = blen enc E + sizeL enc (putsOf es) - goneB enc E es
 | [], _, _, _, _ => by simp [allE, putsOf, goneB, sizeL]
 | e :: es, a, h0, ⟨h1, h2, h3, h4⟩, hf => by
  have hp : putsOf (e :: es) = e.2.2.1.2 ++ putsOf es := by simp [putsOf]
  rw [hp] at hf ⊢
  have hf1 : fitsE enc e.2.2.1.2 := fun x hx => hf x (List.mem_append_left _ hx)
  have hf2 : fitsE enc (putsOf es) := fun x hx => hf x (List.mem_append_right _ hx)
  have ih := blen_all (E := E) (es := es) (by omega) h4 hf2
  have s1 : sizeL enc (e.2.2.1.2 ++ putsOf es) = sizeL enc e.2.2.1.2 + sizeL enc (putsOf es) := by simp [sizeL]
  have g1 : goneB enc E (e :: es) = ((blen enc (E.take e.2.1.toNat) : Int) - blen enc (E.take e.1.toNat)) + goneB enc E es := by simp [goneB]
  have s2 := size_put hf1
  rw [allE_cons, s1, g1]
  unfold one1
  rw [all_take h4 (by omega), blen_append, blen_append, blen_new]
  have h5 := blen_take_drop enc (allE E es) e.2.1.toNat
  rw [all_take h4 (by omega)] at h5
  omega
theorem offs_tk {enc : Int} : ∀ {l : List Int}, fitsE enc l → offs (l.map (tk enc)) = (l.flatMap (putF enc)).length
 | [], _ => rfl
 | a :: l, hf => by
  have h1 := putF_len (hf a (List.mem_cons_self ..))
  rw [List.map_cons, offs_cons, offs_tk fun b hb => hf b (List.mem_cons_of_mem _ hb), List.flatMap_cons, List.length_append]
  show (sizeF enc a).toNat + _ = _; omega
theorem offs_els {enc : Int} (he : known enc) {ps : List Pc} (hb : ∀ q, q ∈ ps → isBytes q.2) (k : Nat) : offs ((toksL enc ps).take k) = blen enc ((els enc ps).take k) := by
 obtain ⟨h1, _, h3⟩ := toksL_els he hb
 rw [h1, ← List.map_take, ← List.map_take, offs_tk fun a ha => h3 a (by obtain ⟨x, hx, rfl⟩ := List.mem_map.1 ha; exact List.mem_map.2 ⟨x, List.mem_of_mem_take hx, rfl⟩)]
 rfl
theorem gone_els {enc : Int} (he : known enc) {ps : List Pc} (hb : ∀ q, q ∈ ps → isBytes q.2) (es : List EdD) : goneE (toksL enc ps) es = goneB enc (els enc ps) es := by
 unfold goneE goneB
 congr 1
 refine List.map_congr_left fun e _ => ?_
 rw [offs_els he hb, offs_els he hb]
def Okay (enc limit : Int) (E : List El) (es : List EdD) : Prop := Plc E.length 0 es ∧ fitsE enc (putsOf es) ∧ (blen enc (allE E es) : Int) ≤ limit
theorem ref_okay {enc limit r : Int} (he : known enc) {ps : List Pc} (hb : ∀ q, q ∈ ps → isBytes q.2) {es : List EdD} (h : RefR enc limit (toksL enc ps) es r) : (r = 0 ↔ es.length ≤ 70000 ∧ Okay enc limit (els enc ps) es) := by
 have hl : (toksL enc ps).length = (els enc ps).length := (els_len ..).symm
 have h0 : (offs (toksL enc ps) : Int) = blen enc (els enc ps) := by
  have := offs_els he hb (toksL enc ps).length
  rw [List.take_length, hl, List.take_length] at this; exact congrArg _ this
 have key : Plc (els enc ps).length 0 es → fitsE enc (putsOf es) → (blen enc (allE (els enc ps) es) : Int) = offs (toksL enc ps) + sizeL enc (putsOf es) - goneE (toksL enc ps) es := fun a b => by
  rw [blen_all (Int.le_refl 0) a b, gone_els he hb, h0]
 cases h with
 | many h => exact ⟨fun h => (by cases h), fun h2 => by omega⟩
 | place a b => exact ⟨fun h => (by cases h), fun h2 => absurd (hl ▸ h2.2.1) b⟩
 | fit a b c => exact ⟨fun h => (by cases h), fun h2 => absurd h2.2.2.1 c⟩
 | full a b c d => rw [hl] at b; exact ⟨fun h => (by cases h), fun h2 => by have := key b c; have := h2.2.2.2; omega⟩
 | ok a b c d => rw [hl] at b; exact ⟨fun _ => ⟨a, b, c, by rw [key b c]; exact d⟩, fun _ => rfl⟩
theorem ChangeR.small {n : Nat} {T T' : TX} {h0 : Heap} {es : List EdD} {r : Int} (R : ChangeR S n T h0 h es r T') (he : known T.enc) (hb : ∀ q, q ∈ T.cur.ps → isBytes q.2) (hsm : (bytesL T.cur.ps).length ≤ T.limit) (hs : blen T.enc (Piece.els T.enc T.cur.ps) = (bytesL T.cur.ps).length) : (bytesL T'.cur.ps).length ≤ T'.limit := by
 have h1 := blen_state R.t.cur R.t.enc
 rw [R.nx.enc, R.els] at h1
 rw [R.nx.limit]
 by_cases hr : r = 0
 ·rw [if_pos hr] at h1
  have := ((ref_okay he hb R.ref).1 hr).2.2.2
  omega
 ·rw [if_neg hr] at h1; omega
def tg (x : El) : Bool := decide (x.2 ≠ -1)
end Go.Sw.Piece

set_option linter.unusedVariables false
set_option linter.unusedSimpArgs false
set_option maxRecDepth 100000
namespace Go.Sw.Piece
open Go.Sw.Any Go.Sw.Codec
open Go.Sw.Tree (iv s_putAll s_newP s_getP s_getT s_putP eqI_self Placed cell_own wp_whileG minI_eq)
variable {P : Program} {S : Ids} {h : Heap} {Q : Nat → List Value → Heap → Prop}
theorem c_known5 {enc : Int} {b : Sl} {l : List Int} (hb : Lst .u8 h b l) : Gives P (F_law5_known S enc b) [.one .bool] h fun (y : Bool × Unit) _ => (y.1 = true ↔ known enc ∧ l.length ≤ 65536) := by
 unfold F_law5_known
 have hl := hb.len
 refine bind_bool (known enc ∧ l.length ≤ 65536) ?_ fun bb h1 e1 hb1 => s_ret ⟨rfl, e1, (bb, ()), rfl, hb1⟩
 unfold known
 refine wp_ifB (fun hc => wp_ifB (fun hd => s_ret ⟨rfl, Ext.refl _, _, rfl, ?_⟩) fun hd => s_ret ⟨rfl, Ext.refl _, false, rfl, ?_⟩) fun hc => s_ret ⟨rfl, Ext.refl _, false, rfl, ?_⟩
 ·rw [geI_iff] at hc; rw [leI_iff] at hd; rw [leI_iff, natI_def, hl]; omega
 ·rw [geI_iff] at hc; rw [leI_not] at hd; exact Iff.intro (fun h => by cases h) fun h => by omega
 ·rw [geI_not] at hc; exact Iff.intro (fun h => by cases h) fun h => by omega
end Go.Sw.Piece
namespace Go.Sw
open Go.Sw.Piece
open Go.Sw.Any Go.Sw.Codec
open Go.Sw.Tree (iv s_putAll s_newP s_getP s_getT s_putP eqI_self Placed cell_own wp_whileG minI_eq)
variable {P : Program} {S : Ids} {h : Heap} {Q : Nat → List Value → Heap → Prop}
theorem Lst.sub {k : IntKind} {s : Sl} {l : List Int} (hr : Lst k h s l) {i j : Nat} (hi : i ≤ j) (hj : j ≤ l.length) : Lst k h ⟨cutBase s.base s.cap i 1, subN j i, subN s.cap i⟩ ((l.drop i).take (j - i)) := by
 have h1 := hr.tail (i := i) (by omega)
 have hl := hr.len
 have hc := hr.cap
 have hm := hr.max
 exact h1.take (n := j - i) (m := s.cap - i) (by rw [List.length_drop]; omega) (by omega) (by omega)
end Go.Sw
namespace Go.Sw.Piece
open Go.Sw.Any Go.Sw.Codec
open Go.Sw.Tree (iv s_putAll s_newP s_getP s_getT s_putP eqI_self Placed cell_own wp_whileG minI_eq)
variable {P : Program} {S : Ids} {h : Heap} {Q : Nat → List Value → Heap → Prop}
end Go.Sw.Piece

set_option linter.unusedVariables false
set_option linter.unusedSimpArgs false
set_option maxRecDepth 100000
namespace Go.Sw.Piece
open Go.Sw.Any Go.Sw.Codec
open Go.Sw.Tree (iv s_putAll s_newP s_getP s_getT s_putP eqI_self Placed cell_own wp_whileG minI_eq)
variable {P : Program} {S : Ids} {h : Heap} {Q : Nat → List Value → Heap → Prop}
structure On (S : Ids) (n : Nat) (T0 : TX) (hm : Heap) (am : Nat) (h : Heap) (T : TX) : Prop where
 t : TextR S n h T
 nx : Nxt T0 T hm.size
 chg : Chg T0.Z hm h
 A : T.A.length ≤ am
 sm : (bytesL T.cur.ps).length ≤ T.limit
variable {n am : Nat} {T0 T : TX} {hm : Heap}
end Go.Sw.Piece

set_option linter.unusedVariables false
set_option linter.unusedSimpArgs false
set_option maxRecDepth 100000
namespace Go.Sw.Piece
open Go.Sw.Any Go.Sw.Codec
open Go.Sw.Tree (iv s_putAll s_newP s_getP s_getT s_putP eqI_self Placed cell_own wp_whileG minI_eq)
variable {P : Program} {S : Ids} {h : Heap} {Q : Nat → List Value → Heap → Prop}
end Go.Sw.Piece
namespace Go.Sw
open Go.Sw.Piece
open Go.Sw.Any Go.Sw.Codec
open Go.Sw.Tree (iv s_putAll s_newP s_getP s_getT s_putP eqI_self Placed cell_own wp_whileG minI_eq)
variable {P : Program} {S : Ids} {h : Heap} {Q : Nat → List Value → Heap → Prop}
theorem Held.own' {W : Nat → Prop} {a b : Heap} {n size : Nat} {s : Sl} {vs : List Value} (u : Held W a b) (o : Own n size a s vs) (hw : ∀ x, s.base = some x → W x.block) : Own n size b s vs :=
 o.keep fun x hx => u.2.1 _ (o.lt hx).2 (hw x hx)
end Go.Sw
namespace Go.Sw.Piece
open Go.Sw.Any Go.Sw.Codec
open Go.Sw.Tree (iv s_putAll s_newP s_getP s_getT s_putP eqI_self Placed cell_own wp_whileG minI_eq)
variable {P : Program} {S : Ids} {h : Heap} {Q : Nat → List Value → Heap → Prop}
structure GI (F : Nat → Prop) (hz : Heap) (n a3 : Nat) (h : Heap) (sA sT : Sl) (LA LT : List Int) : Prop where
 held : Held F hz h
 fz : ∀ i, F i → i < hz.size ∧ i ≠ a3 ∧ (∀ a, sA.base = some a → a.block ≠ i) ∧ ∀ a, sT.base = some a → a.block ≠ i
 o3 : Own 0 1 h ⟨some (at0 a3), 3, 3⟩ [slv sA, slv sT, .slice none 0 0]
 la : OwnL n .i64 h sA LA
 lt : OwnL n .i64 h sT LT
 ne : ∀ a b, sA.base = some a → sT.base = some b → a.block ≠ b.block
 an : a3 < n
 nh : n ≤ h.size
variable {F : Nat → Prop} {hz : Heap} {n a3 : Nat} {sA sT : Sl} {LA LT : List Int}
end Go.Sw.Piece

set_option linter.unusedVariables false
set_option linter.unusedSimpArgs false
set_option maxRecDepth 100000
namespace Go.Sw.Piece
open Go.Sw.Any Go.Sw.Codec
open Go.Sw.Tree (iv s_putAll s_newP s_getP s_getT s_putP eqI_self Placed cell_own wp_whileG minI_eq)
variable {P : Program} {S : Ids} {h : Heap} {Q : Nat → List Value → Heap → Prop}
variable {F : Nat → Prop} {hz : Heap} {n a3 : Nat} {sA sT : Sl} {LA LT : List Int}
abbrev SE := Sl × Sl × Sl × Unit
structure ShowR (m : Nat) (h : Heap) (enc : Int) (q : SE) (E : List El) : Prop where
 a : OwnL m .i64 h q.1 (E.map (·.1))
 t : OwnL m .i64 h q.2.1 (E.map (·.2))
 b : OwnL m .u8 h q.2.2.1 ((E.map (·.1)).flatMap (putF enc))
end Go.Sw.Piece

set_option linter.unusedVariables false
set_option linter.unusedSimpArgs false
set_option maxRecDepth 100000
namespace Go.Sw.Piece
open Go.Sw.Any Go.Sw.Codec
open Go.Sw.Tree (iv s_putAll s_newP s_getP s_getT s_putP eqI_self Placed cell_own wp_whileG minI_eq)
variable {P : Program} {S : Ids} {h : Heap} {Q : Nat → List Value → Heap → Prop}
end Go.Sw.Piece

set_option linter.unusedVariables false
set_option linter.unusedSimpArgs false
set_option maxRecDepth 100000
namespace Go.Sw.Piece
open Go.Sw.Any Go.Sw.Codec
open Go.Sw.Tree (iv s_putAll s_newP s_getP s_getT s_putP eqI_self Placed cell_own wp_whileG minI_eq)
variable {P : Program} {S : Ids} {h : Heap} {Q : Nat → List Value → Heap → Prop}
structure RI (h0 : Heap) (n a : Nat) (enc limit : Int) (h : Heap) (sA sT : Sl) (LA LT : List Int) : Prop where
 k : Ext h0 h
 o : Own h0.size 1 h ⟨some (at0 a), 5, 5⟩ [i64v enc, i64v limit, slv sA, slv sT, .slice none 0 0]
 la : OwnL n .i64 h sA LA
 lt : OwnL n .i64 h sT LT
 ne : ∀ a b, sA.base = some a → sT.base = some b → a.block ≠ b.block
 an : a < n
 nh : n ≤ h.size
variable {h0 : Heap} {n a : Nat} {enc limit : Int} {sA sT : Sl} {LA LT : List Int}
structure RX where
 b : Nat
 enc : Int
 limit : Int
 sa : Sl
 st : Sl
 sk : Sl
 E : List El
 K : List (Sl × Sl × List El)
 Z : Nat → Prop
def Shows (n : Nat) (h : Heap) (k : Sl × Sl × List El) : Prop := OwnL n .i64 h k.1 (k.2.2.map (·.1)) ∧ OwnL n .i64 h k.2.1 (k.2.2.map (·.2))
def inK (k : Sl × Sl × List El) (i : Nat) : Prop := (∃ a, k.1.base = some a ∧ a.block = i) ∨ ∃ a, k.2.1.base = some a ∧ a.block = i
structure RefT (n : Nat) (h : Heap) (R : RX) : Prop where
 enc : known R.enc
 lim : 0 ≤ R.limit ∧ R.limit ≤ 65536
 ob : Own n 1 h ⟨some (at0 R.b), 5, 5⟩ [i64v R.enc, i64v R.limit, slv R.sa, slv R.st, slv R.sk]
 cur : Shows n h (R.sa, R.st, R.E)
 sk : Own n 2 h R.sk (R.K.flatMap fun k => [slv k.1, slv k.2.1])
 kept : ∀ k, k ∈ R.K → Shows n h k
 zb : R.Z R.b
 zc : ∀ i, inK (R.sa, R.st, R.E) i → R.Z i ∧ i ≠ R.b ∧ ∀ a, R.sk.base = some a → a.block ≠ i
 zk : ∀ k, k ∈ R.K → ∀ i, inK k i → R.Z i ∧ i ≠ R.b ∧ ∀ a, R.sk.base = some a → a.block ≠ i
 zs : ∀ a, R.sk.base = some a → R.Z a.block ∧ a.block ≠ R.b
 lo : ∀ i, R.Z i → n ≤ i ∧ i < h.size
 fit : ∀ a, a ∈ R.E.map (·.1) → 0 < sizeF R.enc a
inductive ROpenR (h0 h : Heap) (enc limit : Int) (l : List Int) : Option Addr → Int → Prop where
 | enc : ¬ known enc → ROpenR h0 h enc limit l none 10
 | arg : known enc → ¬ (0 ≤ limit ∧ limit ≤ 65536) → ROpenR h0 h enc limit l none 1
 | full : known enc → 0 ≤ limit ∧ limit ≤ 65536 → limit < l.length → ROpenR h0 h enc limit l none 50
 | ok (R : RX) : known enc → 0 ≤ limit ∧ limit ≤ 65536 → l.length ≤ limit → RefT h0.size h R → R.enc = enc → R.limit = limit → R.K = [] → R.E = elsF 0 0 (toks enc l) → (∀ i, R.Z i → h0.size ≤ i) → ROpenR h0 h enc limit l (some (at0 R.b)) 0
end Go.Sw.Piece

set_option linter.unusedVariables false
set_option linter.unusedSimpArgs false
set_option maxRecDepth 100000
namespace Go.Sw.Piece
open Go.Sw.Any Go.Sw.Codec
open Go.Sw.Tree (iv s_putAll s_newP s_getP s_getT s_putP eqI_self Placed cell_own wp_whileG minI_eq)
variable {P : Program} {S : Ids} {h : Heap} {Q : Nat → List Value → Heap → Prop}
structure PairR (S : Ids) (n : Nat) (h : Heap) (T : TX) (R : RX) : Prop where
 t : TextR S n h T
 r : RefT n h R
 enc : R.enc = T.enc
 limit : R.limit = T.limit
 E : R.E = els T.enc T.cur.ps
 sm : (bytesL T.cur.ps).length ≤ T.limit
 far : ∀ i, T.Z i → ¬ R.Z i
def PairO (S : Ids) (n : Nat) (h : Heap) : Option TX → Option RX → Prop
 | none, none => True
 | some T, some R => PairR S n h T R
 | _, _ => False
def tP (t : Option TX) : Option Addr := t.map (·.p)
def rP (r : Option RX) : Option Addr := r.map fun r => at0 r.b
theorem TextR.mono {m n : Nat} {T : TX} (t : TextR S n h T) (hm : m ≤ n) : TextR S m h T :=
 ⟨t.enc, t.lim, t.ob.mono hm, t.ad.mono hm, t.adp, t.adk, t.cur, t.kept, t.zp, t.za, fun i hi => ⟨Nat.le_trans hm (t.lo i hi).1, (t.lo i hi).2⟩⟩
end Go.Sw.Piece

set_option linter.unusedVariables false
set_option linter.unusedSimpArgs false
set_option maxRecDepth 100000
namespace Go.Sw.Piece
open Go.Sw.Any Go.Sw.Codec
open Go.Sw.Tree (iv s_putAll s_newP s_getP s_getT s_putP eqI_self Placed cell_own wp_whileG minI_eq)
variable {P : Program} {S : Ids} {h : Heap} {Q : Nat → List Value → Heap → Prop}
end Go.Sw.Piece

set_option linter.unusedVariables false
set_option linter.unusedSimpArgs false
set_option maxRecDepth 100000
namespace Go.Sw.Piece
open Go.Sw.Any Go.Sw.Codec
open Go.Sw.Tree (iv s_putAll s_newP s_getP s_getT s_putP eqI_self Placed cell_own wp_whileG minI_eq)
variable {P : Program} {S : Ids} {h : Heap} {Q : Nat → List Value → Heap → Prop}
end Go.Sw.Piece

set_option linter.unusedVariables false
set_option linter.unusedSimpArgs false
set_option maxRecDepth 100000
namespace Go.Sw.Piece
open Go.Sw.Any Go.Sw.Codec
open Go.Sw.Tree (iv s_putAll s_newP s_getP s_getT s_putP eqI_self Placed cell_own wp_whileG minI_eq)
variable {P : Program} {S : Ids} {h : Heap} {Q : Nat → List Value → Heap → Prop}
end Go.Sw.Piece

set_option linter.unusedVariables false
set_option linter.unusedSimpArgs false
set_option maxRecDepth 100000
namespace Go.Sw.Piece
open Go.Sw.Any Go.Sw.Codec
open Go.Sw.Tree (iv s_putAll s_newP s_getP s_getT s_putP eqI_self Placed cell_own wp_whileG minI_eq)
variable {P : Program} {S : Ids} {h : Heap} {Q : Nat → List Value → Heap → Prop}
def nch (L sz : Nat) : Nat := (L + sz - 1) / sz
theorem lt_nch {L sz c : Nat} (hs : 1 ≤ sz) : c < nch L sz ↔ c * sz < L := by
 unfold nch
 rw [← Nat.succ_le_iff, Nat.le_div_iff_mul_le (by omega), Nat.succ_mul]
 omega
def IterC (P : Program) (it : Value) (N : Nat) (ch : Nat → List Int) (Z : Nat → Prop) (m : Nat) (h0 : Heap) : Prop :=
 ∀ (h : Heap) (y : Value) (J : Nat → Heap → Prop) (F : Heap → Prop), h0.size ≤ h.size → Held Z h0 h → flat y = true →
  (∀ k a b, J k a → Chg (own h.size m) a b → J k b) → (∀ a b, F a → Chg (own h.size m) a b → F b) →
  (∀ k hp h1 s, k < N → J k hp → h.size + m ≤ hp.size → Chg (own h.size m) hp h1 → Held Z h0 h1 → OwnL hp.size .u8 h1 s (ch k) →
   DynV P y [slv s] h1 fun vs h2 => ∃ b, vs = [.bool b] ∧ Held (fun i => own h.size m i ∨ (Z i ∧ i < h0.size)) h1 h2 ∧ (b = true → J (k + 1) h2) ∧ (b = false → F h2)) →
  J 0 h → DynE P it [y] h fun vs h' => vs = [] ∧ h.size ≤ h'.size ∧ Held Z h0 h' ∧ (J N h' ∨ F h')
structure ChR (S : Ids) (Z : Nat → Prop) (h : Heap) (root : Option Addr) (t : Bt Part) (ps : List Pc) : Prop where
 nd : Nd (part S Z) h root t
 ls : t.list = ps.map (·.1)
 room : (part S Z).W t.list ≤ 4398046511104
 lst : ∀ q, q ∈ ps → Lst .u8 h q.1.1 q.2 ∧ ∀ a, q.1.1.base = some a → Z a.block ∧ a.block < h.size
 small : (bytesL ps).length ≤ 1099511627776
end Go.Sw.Piece
namespace Go.Sw
open Go.Sw.Piece
open Go.Sw.Any Go.Sw.Codec
open Go.Sw.Tree (iv s_putAll s_newP s_getP s_getT s_putP eqI_self Placed cell_own wp_whileG minI_eq)
variable {P : Program} {S : Ids} {h : Heap} {Q : Nat → List Value → Heap → Prop}
theorem OwnL.raise {n m : Nat} {k : IntKind} {h : Heap} {s : Sl} {l : List Int} (o : OwnL n k h s l) (hb : ∀ a, s.base = some a → m ≤ a.block) : OwnL m k h s l := by
 obtain ⟨⟨o1, o2, o3, o4⟩, w⟩ := o
 refine ⟨⟨o1, o2, o3, ?_⟩, w⟩
 cases hs : s.base with
 | none => rw [hs] at o4; exact o4
 | some a => rw [hs] at o4; exact ⟨o4.1, o4.2.1, hb a hs, o4.2.2.2⟩
end Go.Sw
namespace Go.Sw.Piece
open Go.Sw.Any Go.Sw.Codec
open Go.Sw.Tree (iv s_putAll s_newP s_getP s_getT s_putP eqI_self Placed cell_own wp_whileG minI_eq)
variable {P : Program} {S : Ids} {h : Heap} {Q : Nat → List Value → Heap → Prop}
structure CS (J : Nat → Heap → Prop) (Z : Nat → Prop) (h0 h : Heap) (B : List Int) (sz : Nat) (y : Value) (n c : Nat) (s : Sl) (hp h' : Heap) : Prop where
 j : J c hp
 hp1 : h.size + 8 ≤ hp.size ∨ s.base = none
 hp0 : h.size ≤ hp.size
 chg : Chg (own h.size 8) hp h'
 held : Held Z h0 h'
 cy : Cel h.size h' ⟨h.size, 0, none⟩ y
 ca : Cel (h.size + 1) h' ⟨h.size + 1, 0, none⟩ (slv s)
 lo : c * sz ≤ n
 hi : n < c * sz + sz
 o : OwnL hp.size .u8 h' s ((B.drop (c * sz)).take (n - c * sz))
variable {J : Nat → Heap → Prop} {Z : Nat → Prop} {h0 hs hp h' : Heap} {B : List Int} {sz n c : Nat} {y : Value} {s : Sl}
theorem CS.own4 {b : Heap} (g : CS J Z h0 hs B sz y n c s hp h) (h08 : h0.size ≤ hs.size) (e : Chg (own (hs.size + 4) 4) h b) : CS J Z h0 hs B sz y n c s hp b where
 j := g.j
 hp1 := g.hp1
 hp0 := g.hp0
 chg := g.chg.trans e fun i _ f => ⟨by have := f.1; omega, by have := f.2; omega⟩
 held := g.held.chg e fun i hi _ f => by have := f.1; omega
 cy := e.own g.cy fun x hx f => by cases hx; have := f.1; dsimp only at this; omega
 ca := e.own g.ca fun x hx f => by cases hx; have := f.1; dsimp only at this; omega
 lo := g.lo
 hi := g.hi
 o := by
  rcases g.hp1 with h | h
  ·exact e.ownL g.o fun x hx f => by have := (g.o.own.lt hx).1; have := f.2; omega
  ·exact e.ownL g.o fun x hx f => by rw [h] at hx; cases hx
theorem CS.rebase (g : CS J Z h0 hs B sz y n c s hp h) (sJ : ∀ k a b, J k a → Chg (own hs.size 8) a b → J k b) (hz : hs.size + 8 ≤ h.size) : ∃ hp', hs.size + 8 ≤ hp'.size ∧ CS J Z h0 hs B sz y n c s hp' h := by
 rcases g.hp1 with h1 | h1
 ·exact ⟨hp, h1, g⟩
 ·exact ⟨h, hz, sJ _ _ _ g.j g.chg, .inl hz, by omega, Chg.refl _ _, g.held, g.cy, g.ca, g.lo, g.hi, g.o.raise fun a ha => by rw [h1] at ha; cases ha⟩
theorem c_ItemsX {p : Option Addr} {i : Int} : wp P (F_Tree_part_Items S (p, ()) i) h fun tag vs h' => tag = 0 ∧ vs = [.func (.func S.f_Tree_part_Items_1) #[] #[.pointer (some ⟨h.size, 0, none⟩), .pointer (some ⟨h.size + 1, 0, none⟩)]] ∧ Ext h h' ∧ h'.size = h.size + 2 ∧ ItR h' p i ⟨h.size, 0, none⟩ ⟨h.size + 1, 0, none⟩ := by
 unfold F_Tree_part_Items
 refine s_new1 _ fun h1 e1 o1 z1 => s_new1 _ fun h2 e2 o2 z2 => ?_
 rw [z1] at o2 ⊢
 exact s_ret ⟨rfl, rfl, e1.trans e2, by omega, cell_own (o1.ext e2), cell_own o2⟩
theorem iter_chunks (C : Cl P S) {root : Option Addr} {t : Bt Part} {ps : List Pc} {a1 a3 : Addr} (cr : ChR S Z h0 root t ps) (hsz : 1 ≤ sz) (hmax : sz < 2 ^ 63) (c1 : Sw.cell h0 a1 = some (i64v sz)) (c3 : Sw.cell h0 a3 = some (.pointer root)) (z1 : Z a1.block) (z3 : Z a3.block) :
  IterC P (.func (.func S.f_Text_Chunks_1) #[] #[.pointer (some a1), .pointer (some a3)]) (nch (bytesL ps).length sz) (fun k => ((bytesL ps).drop (k * sz)).take sz) Z 8 h0 := by
 intro h y J F hs hz fy sJ sF hY j0
 generalize hB : bytesL ps = B at hY ⊢
 have hBl : B.length ≤ 1099511627776 := by rw [← hB]; exact cr.small
 refine C.chunks y (some a1) (some a3) h _ ?_
 unfold F_Text_Chunks_1
 refine wp_grd fy (s_new1 y fun g1 e1 o1 s1 => ?_)
 have hcell : ∀ {h' : Heap} {a : Addr} {v : Value}, Held Z h0 h' → Sw.cell h0 a = some v → Z a.block → Sw.cell h' a = some v := fun u hc z => u.cell hc z
 have hz1 : Held Z h0 g1 := hz.trans (Held.of_ext e1)
 refine wp_load1 (b := .int .i64) a1 (sz : Int) rfl (hcell hz1 c1 z1) (wp_ifB (fun hc => by rw [ltI_iff] at hc; omega) fun _ => ?_)
 refine s_new1 _ fun g2 e2 o2 s2 => ?_
 rw [s1] at o2 ⊢
 have hz2 : Held Z h0 g2 := hz1.trans (Held.of_ext e2)
 refine ⟨a3, rfl, (root, ()), cells_iff.2 fun j v hj => ?_, ?_⟩
 ·match j, hj with
  | 0, hj => simp [Ty.cells, Bs.inj] at hj; subst hj; rw [add_zero']; exact hcell hz2 c3 z3
  | j + 1, hj => simp [Ty.cells, Bs.inj] at hj
 refine wp_callW c_ItemsX fun tag vs g3 ⟨ht, hv, e3, s3, itr⟩ => ⟨ht, (_, ()), hv, ?_⟩
 dsimp only
 have sR : g3.size = h.size + 4 := by omega
 have hz3 : Held Z h0 g3 := hz2.trans (Held.of_ext e3)
 let Z' : Nat → Prop := fun i => (Z i ∧ i < h0.size) ∨ i = g2.size ∨ i = g2.size + 1
 have nd : Nd (part S Z') g3 root t := by
  have n1 : Nd (part S fun i => Z i ∧ i < h0.size) h0 root t := part_mono cr.nd fun i hi hz => ⟨hz, hi⟩
  have n2 := Nd.chg (I := part S fun i => Z i ∧ i < h0.size) (hz3.to_chg (F := fun i => ¬ (Z i ∧ i < h0.size)) fun i hi hf => Classical.byContradiction fun k => hf fun k2 => k k2.1) (fun i _ hz hf => hf hz) n1
  exact part_mono n2 fun i _ hz => .inl hz
 have itg : IterG P (.func (.func S.f_Tree_part_Items_1) #[] #[.pointer (some ⟨g2.size, 0, none⟩), .pointer (some ⟨g2.size + 1, 0, none⟩)]) t.list.length (AL (part S Z') t.list) Z' 2 g3 := iter_items (part_ok S Z' (P := P)) (C.clos Z') (i := Int.ofNat 0) nd cr.room (fits_i64.2 (by decide)) itr.ca itr.cb (.inr (.inl rfl)) (.inr (.inr rfl))
 have hlen : t.list.length = ps.length := by rw [cr.ls, List.length_map]
 let CJ : Nat → Heap → Prop := fun k h' => ∃ c s hp, CS J Z h0 h B sz y (bytesL (ps.take k)).length c s hp h'
 let W : Nat → Prop := fun i => (own h.size 8 i ∧ i ≠ h.size + 1) ∨ (Z i ∧ i < h0.size)
 refine wp_range (A := AL (part S Z') t.list) (N := t.list.length) (Z := Z') (m := 2) (h0 := g3) itg (Held.refl _ _) CJ (fun tag h' => tag = 1 ∧ F h' ∧ Held Z h0 h' ∧ h.size ≤ h'.size) ?_ ?_ (fun k hp h1 args ⟨r, _, e⟩ => ⟨(r, ()), e⟩) ?_ ?_ ?_
 ·rintro k a b ⟨c, s, hp, g⟩ e
  rw [sR] at e
  exact ⟨c, s, hp, g.own4 hs e⟩
 ·rintro k a b ⟨ht, f, hh, hsz'⟩ e
  rw [sR] at e
  exact ⟨ht, sF _ _ f (e.mono fun i _ f => ⟨by have := f.1; omega, by have := f.2; omega⟩), hh.chg e fun i hi _ f => by have := f.1; omega, Nat.le_trans hsz' e.1⟩
 ·rintro k hp h1 ⟨x, u⟩ hkN ⟨c, s, hpp, g⟩ hps cc hs1 hzz ⟨r, hrr, hre⟩
  have hx : Bs.inj PB x = Bs.inj PB r := by
   have h1 := congrArg (fun l => l.head?) hre
   simp only [Ts.inj, List.head?_cons, Option.some.injEq] at h1
   have h2 : (Value.agg (Bs.inj PB x).toArray) = Value.agg (Bs.inj PB r).toArray := h1
   injection h2 with h2
   exact List.toArray_inj h2
  change wp P (.alloc (Bs.inj PB zP) fun (c : Addr) => .store (some c) (Bs.inj PB x) <| .ret 0 [.pointer (some c)]) h1 _
  rw [hx]
  obtain ⟨q, hq, rfl⟩ : ∃ q, ps[k]? = some q ∧ r = q.1 := by
   have h1 : t.list[k]? = some r := hrr
   rw [cr.ls, List.getElem?_map] at h1
   cases hq : ps[k]? with
   | none => rw [hq] at h1; cases h1
   | some q => rw [hq] at h1; exact ⟨q, rfl, (Option.some.inj h1).symm⟩
  have hqm := List.mem_of_getElem? hq
  rw [sR] at cc hs1
  have g1' := g.own4 hs cc
  refine s_newO (bs := PB) zP (by decide) fun h2 e2' o2' => s_stoO (bs := PB) q.1 o2' (flatP _) fun h3 o3 u3 => s_ret ⟨rfl, (some ⟨h1.size, 0, none⟩, ()), rfl, ?_, fun h3' c3' hs3 => ?_⟩
  ·exact Held.of_ext (Upd.extN e2' u3 (by intro z hz; cases hz; exact Nat.le_refl _))
  have e13 : Ext h1 h3 := Upd.extN e2' u3 (by intro z hz; cases hz; exact Nat.le_refl _)
  rw [sR] at c3'
  have g3' : CS J Z h0 h B sz y (bytesL (ps.take k)).length c s hpp h3' := (g1'.own4 hs (Chg.of_ext e13)).own4 hs c3'
  have oc : Own h1.size 1 h3' ⟨some ⟨h1.size, 0, none⟩, 7, 7⟩ (Bs.inj PB q.1) := c3'.own o3 fun z hz f => by cases hz; have := f.2; dsimp only at this; omega
  have q3 : h.size + 8 ≤ h3'.size := by have := e13.size; omega
  refine wp_grd rfl (wp_load1 (b := .sl) _ q.1.1 rfl (cells_iff.1 oc.cells 0 _ rfl) ?_)
  have hsplit : B = bytesL (ps.take k) ++ (q.2 ++ bytesL (ps.drop (k + 1))) := by
   have hlt := (List.getElem?_eq_some_iff.1 hq).1
   have h1 : ps = ps.take k ++ (q :: ps.drop (k + 1)) := by
    have := (List.getElem?_eq_some_iff.1 hq).2
    rw [← this, ← List.drop_eq_getElem_cons hlt, List.take_append_drop]
   rw [← hB]
   conv => lhs; rw [h1]
   simp [bytesL]
  have hsucc : (bytesL (ps.take (k + 1))).length = (bytesL (ps.take k)).length + q.2.length := by rw [List.take_add_one, hq]; simp [bytesL]
  generalize hn0 : (bytesL (ps.take k)).length = n0 at g3' hsucc
  have hBlen : n0 + q.2.length ≤ B.length := by rw [hsplit, List.length_append, List.length_append, hn0]; omega
  have hpart : ∀ o m, o + m ≤ q.2.length → (q.2.drop o).take m = (B.drop (n0 + o)).take m := fun o m hm => by
   rw [hsplit, ← List.drop_drop, List.drop_left' hn0, List.drop_append_of_le_length (by omega), List.take_append_of_le_length (by rw [List.length_drop]; omega)]
  obtain ⟨lq0, zq⟩ := cr.lst q hqm
  have lq : ∀ {h' : Heap}, Held Z h0 h' → Lst .u8 h' q.1.1 q.2 := fun u => lq0.blocks fun a ha hl => u.2.1 _ hl (zq a ha).1
  refine wp_whileG (G := Nat × Nat × Sl × Heap) (fun gg (r : Sl × Unit) h' => gg.1 ≤ q.2.length ∧ (∀ {h''}, Held Z h0 h'' → Lst .u8 h'' r.1 (q.2.drop gg.1)) ∧ CS J Z h0 h B sz y (n0 + gg.1) gg.2.1 gg.2.2.1 gg.2.2.2 h' ∧ Held W h3' h' ∧ h.size + 8 ≤ h'.size) (fun gg => q.2.length - gg.1)
   (fun tag vs h' => vs = [] ∧ Held W h3' h' ∧ ((tag = 4 ∧ ∃ c s hp, CS J Z h0 h B sz y (n0 + q.2.length) c s hp h') ∨ (tag = 1 ∧ F h' ∧ Held Z h0 h' ∧ h.size ≤ h'.size))) (0, c, s, hpp)
   ⟨Nat.zero_le _, fun u => by rw [List.drop_zero]; exact lq u, g3', Held.refl _ _, q3⟩ ?_ ?_
  ·rintro ⟨o, c, s, hp⟩ ⟨(rs : Sl), uu⟩ h4 ⟨ho, hrs, g4, w4, q4⟩
   dsimp only at ho hrs g4 ⊢
   have lr := hrs g4.held
   have lrl := lr.len
   rw [List.length_drop] at lrl
   refine wp_ifB (fun hc => ?_) fun hc => ?_
   ·rw [gtI_iff, natI_def, lrl] at hc
    have hol : o < q.2.length := by omega
    obtain ⟨hp, hpz, g4⟩ := g4.rebase sJ q4
    have hsl := g4.o.len
    have hcs := g4.lo; have hch := g4.hi
    have g4o := g4.o
    rw [List.length_take, List.length_drop] at hsl
    have hsl : s.len = n0 + o - c * sz := by rw [hsl]; omega
    generalize hw : c * sz = w at *
    refine wp_load1 (b := .int .i64) a1 (sz : Int) rfl (hcell g4.held c1 z1) (s_cel (b := .sl) (x := s) g4.ca (s_cel (b := .sl) (x := s) g4.ca ?_))
    have hsub : subI .i64 (sz : Int) (natI s.len) = ((sz - s.len : Nat) : Int) := by rw [natI_def, sub_ok (by omega) (by omega)]; omega
    rw [hsub, minI_eq]
    have hmin : min ((sz - s.len : Nat) : Int) (natI rs.len) = ((min (sz - s.len) (q.2.length - o) : Nat) : Int) := by rw [natI_def, lrl]; omega
    rw [hmin]
    generalize hm : min (sz - s.len) (q.2.length - o) = m at *
    have hm0 : 1 ≤ m := by omega
    have hcap := lr.cap
    have hmx := lr.max
    refine wp_grd (leB_ok (by omega) (by omega)) ?_
    rw [cutBase_zero, toN_def, Int.toNat_natCast, show subN m 0 = m from rfl, show subN rs.cap 0 = rs.cap from rfl]
    have lpart := lr.take (n := m) (m := rs.cap) (by rw [List.length_drop]; omega) (by omega) hmx
    rw [hpart o m (by omega)] at lpart
    have hpl : ((B.drop (n0 + o)).take m).length = m := by rw [List.length_take, List.length_drop]; omega
    have hcl : ((B.drop w).take (n0 + o - w)).length = n0 + o - w := by rw [List.length_take, List.length_drop]; omega
    have hjoin : (B.drop w).take (n0 + o - w) ++ (B.drop (n0 + o)).take m = (B.drop w).take (n0 + o + m - w) := by
     have h1 := List.take_add (l := B.drop w) (i := n0 + o - w) (j := m)
     rw [List.drop_drop, show w + (n0 + o - w) = n0 + o by omega, show n0 + o - w + m = n0 + o + m - w by omega] at h1
     exact h1.symm
    have q4h := g4.chg.1
    refine s_append g4o (by omega) lpart (by rw [hcl, hpl]; omega) (by rw [hcl, hpl]; omega) fun s' h5 k5 o5 u5 b5 => ?_
    rw [hjoin] at o5
    have cu : Chg (fun i => ∃ a, s.base = some a ∧ a.block = i) h4 h5 := Chg.of_upd u5 fun x hx _ => ⟨x, hx, rfl⟩
    have sb : ∀ a, s.base = some a → hp.size ≤ a.block := fun a ha => (g4.o.own.lt ha).1
    have ca5 := cu.own g4.ca fun x hx ⟨z, hz, f⟩ => by cases hx; have := sb z hz; dsimp only at f; omega
    have cy5 := cu.own g4.cy fun x hx ⟨z, hz, f⟩ => by cases hx; have := sb z hz; dsimp only at f; omega
    refine s_celput (slv s') ca5 rfl fun h6 ca6 u6 => wp_grd (leB_ok (by omega) (by omega)) ?_
    have c6 : Chg (fun i => i = h.size + 1) h5 h6 := upd_chg u6
    have c46 : Chg (fun i => i = h.size + 1 ∨ ∃ a, s.base = some a ∧ a.block = i) h4 h6 := (cu.mono fun i _ f => .inr f).trans (c6.mono fun i _ f => .inl f) fun i _ f => f
    have o6 : OwnL hp.size .u8 h6 s' ((B.drop w).take (n0 + o + m - w)) := c6.ownL o5 fun x hx f => by have := (o5.own.lt hx).1; omega
    have cy6 : Cel h.size h6 ⟨h.size, 0, none⟩ y := c6.own cy5 fun x hx f => by cases hx; have f : h.size = h.size + 1 := f; omega
    have held6 : Held Z h0 h6 := g4.held.chg c46 fun i hi hz f => by
     rcases f with f | ⟨a, ha, f⟩
     ·omega
     ·have := sb a ha; omega
    have w46 : Held W h4 h6 := Held.of_chg c46 fun i hi hw f => by
     rcases f with f | ⟨a, ha, f⟩
     ·rcases hw with hw | hw
      ·exact hw.2 f
      ·have := hw.2; omega
     ·have := sb a ha
      rcases hw with hw | hw
      ·have := hw.1.2; omega
      ·have := hw.2; omega
    have chg6 : Chg (own h.size 8) hp h6 := g4.chg.trans c46 fun i hi f => by
     rcases f with f | ⟨a, ha, f⟩
     ·exact ⟨by omega, by omega⟩
     ·have := sb a ha; omega
    have hs'l := o6.len
    rw [List.length_take, List.length_drop] at hs'l
    have hs'l : s'.len = n0 + o + m - w := by rw [hs'l]; omega
    have q46 := c46.1
    have rs2 : ∀ {h''}, Held Z h0 h'' → Lst .u8 h'' ⟨cutBase rs.base rs.cap m 1, subN rs.len m, subN rs.cap m⟩ (q.2.drop (o + m)) := fun u => by
     have := (hrs u).tail (i := m) (by rw [List.length_drop]; omega)
     rw [List.drop_drop] at this; exact this
    refine s_cel (b := .sl) (x := s') ca6 (wp_load1 (b := .int .i64) a1 (sz : Int) rfl (hcell held6 c1 z1) (wp_ifB (fun hd => ?_) fun hd => ?_))
    ·rw [eqI_iff, natI_def, hs'l] at hd
     have hd : n0 + o + m = w + sz := by omega
     have hcN : c < nch B.length sz := (lt_nch hsz).2 (by rw [hw]; omega)
     refine s_cel (b := .any) (x := y) cy6 (s_cel (b := .sl) (x := s') ca6 ?_)
     rw [show n0 + o + m - w = sz by omega, ← hw] at o6
     refine wp_callv ((hY c hp h6 s' hcN g4.j hpz chg6 held6 o6).mono fun vs h7 ⟨b, hv, hh, hJ, hF⟩ => ⟨(b, ()), hv, ?_⟩)
     have w67 : Held W h6 h7 := hh.mono fun i _ hw => hw.elim (fun k => .inl k.1) .inr
     have held7 : Held Z h0 h7 := held6.step hh fun i hi hz => .inr ⟨hz, hi⟩
     have cy7 : Cel h.size h7 ⟨h.size, 0, none⟩ y := hh.own' cy6 fun x hx => by cases hx; exact .inl ⟨Nat.le_refl _, by dsimp only; omega⟩
     have ca7 : Cel (h.size + 1) h7 ⟨h.size + 1, 0, none⟩ (slv s') := hh.own' ca6 fun x hx => by cases hx; exact .inl ⟨by dsimp only; omega, by dsimp only; omega⟩
     have q67 := hh.1
     dsimp only
     cases b with
     | false => exact s_ifT (s_ret ⟨fun h => absurd h (by decide), fun _ => ⟨rfl, (w4.trans w46).trans w67, .inr ⟨rfl, hF rfl, held7, by omega⟩⟩⟩)
     | true =>
      refine s_ifF (s_celput (slv ⟨none, 0, 0⟩) ca7 rfl fun h8 ca8 u8 => ?_)
      have c8 : Chg (fun i => i = h.size + 1) h7 h8 := upd_chg u8
      have q78 := c8.1
      have w78 : Held W h7 h8 := Held.of_chg c8 fun i hi hw f => by
       rcases hw with hw | hw
       ·exact hw.2 f
       ·have := hw.2; have f : i = h.size + 1 := f; omega
      refine s_ret ⟨fun _ => ⟨(o + m, c + 1, ⟨none, 0, 0⟩, h7), (⟨cutBase rs.base rs.cap m 1, subN rs.len m, subN rs.cap m⟩, ()), rfl, ⟨by dsimp only; omega, rs2, ⟨hJ rfl, .inl (by dsimp only; omega), by dsimp only; omega, c8.mono fun i _ (f : i = h.size + 1) => ⟨by omega, by omega⟩, held7.chg c8 fun i hi _ f => by have f : i = h.size + 1 := f; omega, c8.own cy7 fun x hx f => by cases hx; have f : h.size = h.size + 1 := f; omega, ca8, by rw [Nat.succ_mul, hw]; dsimp only; omega, by rw [Nat.succ_mul, hw]; dsimp only; omega, ?_⟩, ((w4.trans w46).trans w67).trans w78, by omega⟩, by dsimp only; omega⟩, fun hh => absurd rfl hh⟩
      have : n0 + (o + m) - (c + 1) * sz = 0 := by rw [Nat.succ_mul, hw]; omega
      dsimp only
      rw [this, List.take_zero]
      exact OwnL.nil _ _ _
    ·rw [eqI_not, natI_def, hs'l] at hd
     have hd : n0 + o + m < w + sz := by omega
     refine s_ret ⟨fun _ => ⟨(o + m, c, s', hp), (⟨cutBase rs.base rs.cap m 1, subN rs.len m, subN rs.cap m⟩, ()), rfl, ⟨by dsimp only; omega, rs2, ⟨g4.j, .inl hpz, g4.hp0, chg6, held6, cy6, ca6, by rw [hw]; dsimp only; omega, by rw [hw]; dsimp only; omega, ?_⟩, w4.trans w46, by omega⟩, by dsimp only; omega⟩, fun hh => absurd rfl hh⟩
     dsimp only
     rw [hw, show n0 + (o + m) - w = n0 + o + m - w by omega]
     exact o6
   ·rw [gtI_not, natI_def, lrl] at hc
    have : o = q.2.length := by omega
    subst this
    exact s_ret ⟨fun hh => absurd hh (by decide), fun _ => ⟨rfl, w4, .inl ⟨rfl, c, s, hp, g4⟩⟩⟩
  ·rintro tag vs h4 ⟨rfl, w4, hx⟩
   have hW : Held (fun i => own g3.size (2 + 2) i ∨ (Z' i ∧ i < g3.size)) h3' h4 := w4.mono fun i _ hi => by
    rcases hi with hi | ⟨hi | hi | hi, hlt⟩
    ·rw [sR] at hi; exact .inl ⟨⟨by have := hi.1; omega, by have := hi.2; omega⟩, by have := hi.1; omega⟩
    ·exact .inr hi
    ·exact .inl ⟨⟨by omega, by omega⟩, by omega⟩
    ·exact .inl ⟨⟨by omega, by omega⟩, by omega⟩
   rcases hx with ⟨rfl, c, s, hp, g⟩ | ⟨rfl, f, hh, hsz'⟩
   ·exact s_tag (s_cast0 (s_ret ⟨hW, fun _ => ⟨c, s, hp, by rw [hsucc]; exact g⟩, fun hh => absurd rfl hh⟩))
   ·exact s_skip (by decide) (s_tag (s_cast0 (s_ret ⟨hW, fun hh => absurd hh (by decide), fun _ => ⟨rfl, f, hh, hsz'⟩⟩)))
 ·have e03 := (e1.trans e2).trans e3
  refine ⟨0, ⟨none, 0, 0⟩, h, j0, .inr rfl, Nat.le_refl _, Chg.of_ext e03, hz3, o1.ext (e2.trans e3), ?_, by omega, by rw [List.take_zero]; simp [bytesL]; omega, ?_⟩
  ·exact o2.ext e3
  ·have e : (bytesL (ps.take 0)).length - 0 * sz = 0 := by simp [bytesL]
   rw [e, List.take_zero]; exact OwnL.nil _ _ _
 ·intro j h5 hs5 hz5 hx
  have hall : ps.take t.list.length = ps := by rw [hlen, List.take_length]
  rcases hx with ⟨rfl, c, s, hp, g⟩ | ⟨_, rfl, f, hh, hsz'⟩
  ·rw [hall, hB] at g
   have q5 : h.size ≤ h5.size := Nat.le_trans g.hp0 g.chg.1
   refine s_skip (by decide) (s_tag (s_cel (b := .sl) (x := s) g.ca ?_))
   have hsl := g.o.len
   have hcs := g.lo; have hch := g.hi
   rw [List.length_take, List.length_drop] at hsl
   have hsl : s.len = B.length - c * sz := by rw [hsl]; omega
   have hcle : c ≤ nch B.length sz := by
    cases c with
    | zero => exact Nat.zero_le _
    | succ d => exact (lt_nch hsz).2 (by rw [Nat.succ_mul] at hcs; omega)
   refine wp_ifB (fun hd => ?_) fun hd => ?_
   ·rw [gtI_iff, natI_def, hsl] at hd
    have hcN : c < nch B.length sz := (lt_nch hsz).2 (by omega)
    have hN : nch B.length sz = c + 1 := by
     by_cases hlt : c + 1 < nch B.length sz
     ·have := (lt_nch hsz).1 hlt; rw [Nat.succ_mul] at this; omega
     ·omega
    obtain ⟨hp, hpz, g⟩ := g.rebase sJ (by
     rcases g.hp1 with h | h
     ·have := g.chg.1; omega
     ·have h3 : s.cap = 0 := by
       have := g.o.own.2.2.2
       rw [h] at this; exact this
      have := g.o.own.2.1
      omega)
    have o5 := g.o
    rw [show (B.drop (c * sz)).take (B.length - c * sz) = (B.drop (c * sz)).take sz by rw [List.take_of_length_le (by rw [List.length_drop]; exact Nat.le_refl _), List.take_of_length_le (by rw [List.length_drop]; omega)]] at o5
    refine s_cel (b := .any) (x := y) g.cy (s_cel (b := .sl) (x := s) g.ca (wp_callv ((hY c hp h5 s hcN g.j hpz g.chg g.held o5).mono fun vs h6 ⟨b, hv, hh, hJ, hF⟩ => ⟨(b, ()), hv, s_ret ⟨hh.mono fun i _ hi => .inl ⟨by have := hi.1; omega, by have := hi.2; omega⟩, fun h7 c7 s7 => ⟨rfl, rfl, by have := hh.1; have := c7.1; omega, ?_, ?_⟩⟩⟩)))
    ·have held6 : Held Z h0 h6 := g.held.step hh fun i hi hz => .inr ⟨hz, hi⟩
     exact held6.chg c7 fun i hi _ f => by have := f.1; omega
    ·have c7' : Chg (own h.size 8) h6 h7 := c7.mono fun i _ f => ⟨by have := f.1; omega, by have := f.2; omega⟩
     cases b with
     | true => rw [hN]; exact .inl (sJ _ _ _ (hJ rfl) c7')
     | false => exact .inr (sF _ _ (hF rfl) c7')
   ·rw [gtI_not, natI_def, hsl] at hd
    have hN : nch B.length sz = c := by
     by_cases hlt : c < nch B.length sz
     ·have := (lt_nch hsz).1 hlt; omega
     ·omega
    refine s_ret ⟨Held.refl _ _, fun h7 c7 s7 => ⟨rfl, rfl, by have := c7.1; omega, g.held.chg c7 fun i hi _ f => by have := f.1; omega, .inl ?_⟩⟩
    rw [hN]
    exact sJ _ _ _ (sJ _ _ _ g.j g.chg) (c7.mono fun i _ f => ⟨by have := f.1; omega, by have := f.2; omega⟩)
  ·refine s_tag (s_ret ⟨Held.refl _ _, fun h7 c7 s7 => ⟨rfl, rfl, by have := c7.1; omega, hh.chg c7 fun i hi _ f => by have := f.1; omega, .inr (sF _ _ f (c7.mono fun i _ f => ⟨by have := f.1; omega, by have := f.2; omega⟩))⟩⟩)
end Go.Sw.Piece

set_option linter.unusedVariables false
set_option linter.unusedSimpArgs false
set_option maxRecDepth 100000
namespace Go.Sw.Piece
open Go.Sw.Any Go.Sw.Codec
open Go.Sw.Tree (iv s_putAll s_newP s_getP s_getT s_putP eqI_self Placed cell_own wp_whileG minI_eq)
variable {P : Program} {S : Ids} {h : Heap} {Q : Nat → List Value → Heap → Prop}
end Go.Sw.Piece

set_option linter.unusedVariables false
set_option linter.unusedSimpArgs false
set_option maxRecDepth 100000
namespace Go.Sw.Piece
open Go.Sw.Any Go.Sw.Codec
open Go.Sw.Tree (iv s_putAll s_newP s_getP s_getT s_putP eqI_self Placed cell_own wp_whileG minI_eq)
variable {P : Program} {S : Ids} {h : Heap} {Q : Nat → List Value → Heap → Prop}
end Go.Sw.Piece

set_option linter.unusedVariables false
set_option linter.unusedSimpArgs false
set_option maxRecDepth 100000
namespace Go.Sw.Piece
open Go.Sw.Any Go.Sw.Codec
open Go.Sw.Tree (iv s_putAll s_newP s_getP s_getT s_putP eqI_self Placed cell_own wp_whileG minI_eq)
variable {P : Program} {S : Ids} {h : Heap} {Q : Nat → List Value → Heap → Prop}
end Go.Sw.Piece

set_option linter.unusedVariables false
set_option linter.unusedSimpArgs false
set_option maxRecDepth 100000
namespace Go.Sw.Piece
open Go.Sw.Any Go.Sw.Codec
open Go.Sw.Tree (iv s_putAll s_newP s_getP s_getT s_putP eqI_self Placed cell_own wp_whileG minI_eq)
variable {P : Program} {S : Ids} {h : Heap} {Q : Nat → List Value → Heap → Prop}
def nchI (L : Nat) (size : Int) : Nat := if size < 1 then 0 else nch L size.toNat
def chunkI (B : List Int) (size : Int) (k : Nat) : List Int := (B.drop (k * size.toNat)).take size.toNat
structure CkI (h0 : Heap) (B : List Int) (sz i : Nat) (h : Heap) (o c : Sl) (ss : List Sl) : Prop where
 e : Ext h0 h
 oo : Own h0.size 1 h o (ss.map fun x => slv x)
 oc : OwnL h0.size .u8 h c ((B.drop (ss.length * sz)).take (i - ss.length * sz))
 el : ∀ (j : Nat) (x : Sl), ss[j]? = some x → OwnL h0.size .u8 h x ((B.drop (j * sz)).take sz)
 dc : ∀ a b, c.base = some a → o.base = some b → b.block ≠ a.block
 de : ∀ x, x ∈ ss → ∀ a, x.base = some a → (∀ b, c.base = some b → b.block ≠ a.block) ∧ ∀ b, o.base = some b → b.block ≠ a.block
 few : ss.length ≤ i
 pos : (i < B.length → ss.length * sz ≤ i ∧ i < ss.length * sz + sz) ∧ (i = B.length → ss.length = nch B.length sz)
theorem ChR.mono {Z Z' : Nat → Prop} {h' : Heap} {root : Option Addr} {t : Bt Part} {ps : List Pc} (c : ChR S Z h root t ps) (e : Ext h h') (hz : ∀ i, i < h.size → Z i → Z' i) : ChR S Z' h' root t ps :=
 ⟨Nd.ext (I := part S Z') e (part_mono c.nd hz), c.ls, c.room, fun q hq => ⟨(c.lst q hq).1.ext e, fun a ha => by
  obtain ⟨h1, h2⟩ := (c.lst q hq).2 a ha
  exact ⟨hz _ h2 h1, by have := e.size; omega⟩⟩, c.small⟩
theorem TextR.chr {n : Nat} {T : TX} (t : TextR S n h T) : ChR S T.Z h T.cur.root T.cur.t T.cur.ps :=
 ⟨t.cur.nd, t.cur.ls, by have := (t.cur.few t.lim.2).2; omega, fun q hq => ⟨(t.cur.pcs q hq).lst, fun a ha => by
  have := ((t.cur.pcs q hq).blk a ha).1
  exact ⟨this, (t.lo _ this).2⟩⟩, t.cur.small⟩
theorem iter_none (C : Cl P S) {Z : Nat → Prop} {h0 : Heap} {size : Int} {ch : Nat → List Int} {a1 a3 : Addr} (hsz : size < 1) (c1 : Sw.cell h0 a1 = some (i64v size)) (z1 : Z a1.block) :
  IterC P (.func (.func S.f_Text_Chunks_1) #[] #[.pointer (some a1), .pointer (some a3)]) 0 ch Z 8 h0 := by
 intro h y J F hs hz fy sJ sF hY j0
 refine C.chunks y (some a1) (some a3) h _ ?_
 unfold F_Text_Chunks_1
 refine wp_grd fy (s_new1 y fun g1 e1 o1 s1 => ?_)
 have hz1 : Held Z h0 g1 := hz.trans (Held.of_ext e1)
 refine wp_load1 (b := .int .i64) a1 size rfl (hz1.cell c1 z1) (wp_ifB (fun hc => s_ret ⟨rfl, rfl, e1.size, hz1, .inl (sJ _ _ _ j0 (Chg.of_ext e1))⟩) fun hc => by rw [ltI_not] at hc; omega)
theorem c_TChunks (C : Cl P S) {n : Nat} {T : TX} {Z : Nat → Prop} {size : Int} (t : TextR S n h T) (cr : ChR S Z h T.cur.root T.cur.t T.cur.ps) (hs : fitsI .i64 size) :
  Gives P (F_Text_Chunks S (some T.p) size) [.one .any] h fun (y : Value × Unit) h' => ∃ a1 a3 : Addr, y.1 = .func (.func S.f_Text_Chunks_1) #[] #[.pointer (some a1), .pointer (some a3)] ∧
   IterC P y.1 (nchI (bytesL T.cur.ps).length size) (chunkI (bytesL T.cur.ps) size) (fun i => Z i ∨ h.size ≤ i) 8 h' := by
 unfold F_Text_Chunks Gives
 have hs := fits_i64.1 hs
 refine s_new1 _ fun h1 e1 o1 s1 => ?_
 refine s_root (t.ext e1) (s_newput _ (.pointer T.cur.root) rfl fun h2 e2 o2 => s_ret ⟨rfl, e1.trans e2, (_, ()), rfl, ⟨h.size, 0, none⟩, ⟨h1.size, 0, none⟩, rfl, ?_⟩)
 have e12 := e1.trans e2
 have c1 := cell_own (o1.ext e2)
 have c3 := cell_own o2
 by_cases hc : size < 1
 ·unfold nchI
  rw [if_pos hc]
  exact iter_none C hc c1 (.inr (Nat.le_refl _))
 ·obtain ⟨sz, rfl⟩ : ∃ sz : Nat, size = sz := ⟨size.toNat, by omega⟩
  unfold nchI chunkI
  rw [if_neg hc, Int.toNat_natCast]
  exact iter_chunks C (cr.mono e12 fun i _ hz => .inl hz) (by omega) (by omega) c1 c3 (.inr (Nat.le_refl _)) (.inr (by dsimp only; omega))
structure CbI (hc : Heap) (aN aS : Addr) (k : Nat) (st : Bool) (h' : Heap) : Prop where
 c : Chg (fun i => i = aN.block ∨ i = aS.block) hc h'
 n : Cel 0 h' aN (i64v k)
 s : Cel 0 h' aS (.bool st)
end Go.Sw.Piece

set_option linter.unusedVariables false
set_option linter.unusedSimpArgs false
set_option maxRecDepth 100000
namespace Go.Sw.Piece
open Go.Sw.Any Go.Sw.Codec
open Go.Sw.Tree (iv s_putAll s_newP s_getP s_getT s_putP eqI_self Placed cell_own wp_whileG minI_eq)
variable {P : Program} {S : Ids} {h : Heap} {Q : Nat → List Value → Heap → Prop}
end Go.Sw.Piece

set_option linter.unusedVariables false
set_option linter.unusedSimpArgs false
set_option maxRecDepth 100000
namespace Go.Sw.Piece
open Go.Sw.Any Go.Sw.Codec
open Go.Sw.Tree (iv s_putAll s_newP s_getP s_getT s_putP eqI_self Placed cell_own wp_whileG minI_eq)
variable {P : Program} {S : Ids} {h : Heap} {Q : Nat → List Value → Heap → Prop}
structure SnapD (n : Nat) (h h' : Heap) (R R' : RX) : Prop where
 r : RefT n h' R'
 b : R'.b = R.b
 enc : R'.enc = R.enc
 limit : R'.limit = R.limit
 E : R'.E = R.E
 K : R'.K = R.K ++ [(R.sa, R.st, R.E)]
 zm : ∀ i, R.Z i → R'.Z i
 zn : ∀ i, R'.Z i → R.Z i ∨ h.size ≤ i
structure SnK where
 a : Addr
 i : Nat
 s : St
 num : Nat
structure WX where
 t : Nat → Option TX
 r : Nat → Option RX
 sn : List SnK
 sS : Sl
 sO : Sl
 sN : Sl
 pen : Option PenS
 ρ : Nat → Nat
def penP : Option PenS → Option Addr
 | none => none
 | some s => some (at0 s.ob)
abbrev WX.cells (w : WX) : List Value := [.pointer (tP (w.t 0)), .pointer (tP (w.t 1)), .pointer (rP (w.r 0)), .pointer (rP (w.r 1)), slv w.sS, slv w.sO, slv w.sN, .pointer (penP w.pen)]
structure SnapG (n : Nat) (h : Heap) (w : WX) (k : SnK) : Prop where
 lt : k.i < 2
 go : ∃ T R, w.t k.i = some T ∧ w.r k.i = some R ∧ SnapR n h k.a T.p k.s ∧ k.s ∈ T.kept ∧ (bytesL k.s.ps).length ≤ T.limit ∧ ∃ q, R.K[k.num]? = some q ∧ q.2.2 = els T.enc k.s.ps
structure WorldR (S : Ids) (n : Nat) (h : Heap) (wb : Nat) (w : WX) (am ks : Nat) : Prop where
 ob : Own n 1 h ⟨some (at0 wb), 8, 8⟩ w.cells
 pair : ∀ i, i < 2 → PairO S n h (w.t i) (w.r i)
 pen : PenO n h (penP w.pen) w.pen
 lS : Own n 1 h w.sS (w.sn.map fun k => .pointer (some k.a))
 lO : OwnL n .i64 h w.sO (w.sn.map fun k => (k.i : Int))
 lN : OwnL n .i64 h w.sN (w.sn.map fun k => (k.num : Int))
 snap : ∀ k, k ∈ w.sn → SnapG n h w k
 few : w.sn.length ≤ ks
 kfew : ∀ i, i < 2 → ∀ R, w.r i = some R → R.K.length ≤ ks
 A : ∀ i, i < 2 → ∀ T, w.t i = some T → T.A.length ≤ am
 r1 : w.ρ wb = 1
 r2 : ∀ a, w.sS.base = some a → w.ρ a.block = 2
 r3 : ∀ a, w.sO.base = some a → w.ρ a.block = 3
 r4 : ∀ a, w.sN.base = some a → w.ρ a.block = 4
 r5 : ∀ k, k ∈ w.sn → w.ρ k.a.block = 5
 r6 : ∀ i, i < 2 → ∀ T, w.t i = some T → ∀ x, T.Z x → w.ρ x = 6 + 2 * i
 r7 : ∀ i, i < 2 → ∀ R, w.r i = some R → ∀ x, R.Z x → w.ρ x = 7 + 2 * i
 r10 : ∀ x, oZ w.pen x → w.ρ x = 10
 lo : ∀ x, w.ρ x ≠ 0 → n ≤ x ∧ x < h.size
variable {n wb am ks : Nat} {w : WX}
end Go.Sw.Piece

set_option linter.unusedVariables false
set_option linter.unusedSimpArgs false
set_option maxRecDepth 100000
namespace Go.Sw.Piece
open Go.Sw.Any Go.Sw.Codec
open Go.Sw.Tree (iv s_putAll s_newP s_getP s_getT s_putP eqI_self Placed cell_own wp_whileG minI_eq)
variable {P : Program} {S : Ids} {h : Heap} {Q : Nat → List Value → Heap → Prop}
variable {n wb am ks : Nat} {w : WX}
end Go.Sw.Piece

set_option linter.unusedVariables false
set_option linter.unusedSimpArgs false
set_option maxRecDepth 100000
namespace Go.Sw.Piece
open Go.Sw.Any Go.Sw.Codec
open Go.Sw.Tree (iv s_putAll s_newP s_getP s_getT s_putP eqI_self Placed cell_own wp_whileG minI_eq)
variable {P : Program} {S : Ids} {h : Heap} {Q : Nat → List Value → Heap → Prop}
variable {n wb am ks : Nat} {w : WX}
end Go.Sw.Piece

set_option linter.unusedVariables false
set_option linter.unusedSimpArgs false
set_option maxRecDepth 100000
namespace Go.Sw.Piece
open Go.Sw.Any Go.Sw.Codec
open Go.Sw.Tree (iv s_putAll s_newP s_getP s_getT s_putP eqI_self Placed cell_own wp_whileG minI_eq)
variable {P : Program} {S : Ids} {h : Heap} {Q : Nat → List Value → Heap → Prop}
variable {n wb am ks : Nat} {w : WX}
abbrev StepD := Int × Int × Int × Int × Eds × Unit
end Go.Sw.Piece

set_option linter.unusedVariables false
set_option linter.unusedSimpArgs false
set_option maxRecDepth 100000
namespace Go.Sw.Piece
open Go.Sw.Any Go.Sw.Codec
open Go.Sw.Tree (iv s_putAll s_newP s_getP s_getT s_putP eqI_self Placed cell_own wp_whileG minI_eq)
variable {P : Program} {S : Ids} {h : Heap} {Q : Nat → List Value → Heap → Prop}
variable {n wb am ks : Nat} {w : WX}
abbrev PlayD := (Int × Int × Unit) × (Int × Int × Unit) × ((Sl × List Int) × (Sl × List Int) × Unit) × (Sl × List StepD) × Unit
section laws
variable {y : PlayD}
end laws
end Go.Sw.Piece

set_option linter.unusedVariables false
set_option linter.unusedSimpArgs false
set_option maxRecDepth 100000
namespace Go.Sw.Piece
open Go.Sw.Any Go.Sw.Codec
open Go.Sw.Tree (iv s_putAll s_newP s_getP s_getT s_putP eqI_self Placed cell_own wp_whileG minI_eq)
variable {P : Program} {S : Ids} {h : Heap} {Q : Nat → List Value → Heap → Prop}
structure ClF (P : Program) (S : Ids) : Prop where
 rg : ∀ (c : Sl) (x1 : Option Addr), Dyn P (.func (.func S.f_law5_ranged_1) #[] #[.pointer x1]) [slv c] (F_law5_ranged_1 S c x1)
 bg : ∀ (c : Sl) (x1 x2 x3 x4 : Option Addr), Dyn P (.func (.func S.f_law5_begun_1) #[] #[.pointer x1, .pointer x2, .pointer x3, .pointer x4]) [slv c] (F_law5_begun_1 S c x1 x2 x3 x4)
 fl : ∀ (c : Sl) (x1 x2 x3 x4 x5 x6 x7 x8 x9 x10 : Option Addr), Dyn P (.func (.func S.f_law5_PieceFlow_1) #[] #[.pointer x1, .pointer x2, .pointer x3, .pointer x4, .pointer x5, .pointer x6, .pointer x7, .pointer x8, .pointer x9, .pointer x10]) [slv c] (F_law5_PieceFlow_1 S c x1 x2 x3 x4 x5 x6 x7 x8 x9 x10)
theorem s_scrib {n : Nat} {s : Sl} {l : List Int} {V : Int → (Int → Prog) → Prog} {K : Nat → List Value → Prog} (v : Int → Int) (C : Heap → Prop) (ho : OwnL n .u8 h s l) (hl : l.length ≤ 1099511627776) (h0 : C h) (hf : ∀ i, fitsI .u8 (v i))
  (hC : ∀ h1 h2 l', OwnL n .u8 h1 s l' → C h1 → Upd s h1 h2 → C h2) (hV : ∀ (i : Nat) (h1 : Heap) (X : Int → Prog) (R : Nat → List Value → Heap → Prop), i < l.length → C h1 → wp P (X (v i)) h1 R → wp P (V i X) h1 R)
  (hk : ∀ h' l', OwnL n .u8 h' s l' → C h' → Upd s h h' → wp P (K 2 []) h' Q) :
  wp P (.bind (.loop [.one (.int .i64)] ((0 : Int), ()) fun (r : Int × Unit) =>
   ifB (ltI r.1 (natI s.len)) (V r.1 fun w => grd (andB (someB s.base) (inB r.1 s.len)) <| .store (shiftTo s.base (mulN (toN r.1) 1)) [.int .u8 w] <| .ret 0 [.int .i64 (addI .i64 r.1 1)]) <| .ret 2 []) K) h Q := by
 have ls := ho.len
 refine wp_while (fun (r : Int × Unit) h' => ∃ i : Nat, i ≤ l.length ∧ r.1 = (i : Int) ∧ (∃ l', l'.length = l.length ∧ OwnL n .u8 h' s l') ∧ C h' ∧ Upd s h h') (fun r _ => (l.length - r.1).toNat)
  (fun tag vs h' => tag = 2 ∧ vs = [] ∧ (∃ l', OwnL n .u8 h' s l') ∧ C h' ∧ Upd s h h') ⟨0, Nat.zero_le _, rfl, ⟨l, rfl, ho⟩, h0, Nat.le_refl _, fun _ _ _ => rfl, fun _ x => x⟩ ?_ ?_
 ·rintro ⟨(r : Int), u⟩ h1 ⟨i, hi, hr, ⟨l', hl', o1⟩, c1, u1⟩
  dsimp only at hr ⊢
  subst hr
  refine wp_ifB (fun hc => ?_) fun hc => s_ret ⟨fun hh => absurd hh (by decide), fun _ => ⟨rfl, rfl, ⟨l', o1⟩, c1, u1⟩⟩
  rw [ltI_iff, natI_def, ls] at hc
  refine hV i h1 _ _ (by omega) c1 (s_set o1 (by omega) (by omega) (hf i) fun h2 o2 u2 _ => ?_)
  rw [add_ok (by omega) (by omega)]
  exact s_ret ⟨fun _ => ⟨((i : Int) + 1, ()), rfl, ⟨i + 1, by omega, by dsimp only; omega, ⟨_, by rw [List.length_set]; exact hl', o2⟩, hC _ _ _ o1 c1 u2, ⟨Nat.le_trans u1.1 u2.1, fun j hj hn => (u2.2.1 j (Nat.lt_of_lt_of_le hj u1.1) hn).trans (u1.2.1 j hj hn), fun a x => u2.2.2 a (u1.2.2 a x)⟩⟩, by dsimp only; omega⟩, fun hh => absurd rfl hh⟩
 ·rintro tag vs h1 ⟨rfl, rfl, ⟨l', o1⟩, c1, u1⟩
  exact hk h1 l' o1 c1 u1
theorem chunk_add (B : List Int) (sz c : Nat) : B.take (c * sz) ++ (B.drop (c * sz)).take sz = B.take ((c + 1) * sz) := by rw [Nat.succ_mul, List.take_add]
theorem take_all {B : List Int} {sz : Nat} (hs : 1 ≤ sz) : B.take (nch B.length sz * sz) = B := by
 refine List.take_of_length_le ?_
 by_cases h : B.length ≤ nch B.length sz * sz
 ·exact h
 ·have := (lt_nch (L := B.length) hs (c := nch B.length sz)).2 (by omega); omega
abbrev chk (B : List Int) (sz k : Nat) : List Int := (B.drop (k * sz)).take sz
structure Gr (hc : Heap) (a : Addr) (L : List Int) (h' : Heap) (s : Sl) : Prop where
 cel : Cel 0 h' a (slv s)
 o : OwnL 0 .u8 h' s L
 sb : ∀ b, s.base = some b → hc.size + 8 ≤ b.block
theorem Gr.chg {hc a' b' : Heap} {a : Addr} {L : List Int} {s : Sl} {F : Nat → Prop} (g : Gr hc a L a' s) (c : Chg F a' b') (h1 : ¬ F a.block) (h2 : ∀ b, s.base = some b → ¬ F b.block) : Gr hc a L b' s :=
 ⟨c.own g.cel fun x hx f => by cases hx; exact h1 f, c.ownL g.o fun x hx f => h2 x hx f, g.sb⟩
theorem c_grow {hc hp : Heap} {a : Addr} {L m : List Int} {s s1 : Sl} {K : Prog} (g : Gr hc a L h s) (hs : hc.size + 8 ≤ hp.size) (hps : hp.size ≤ h.size) (hsp : ∀ b, s.base = some b → b.block < hp.size) (la : a.block < hc.size) (o1 : OwnL hp.size .u8 h s1 m) (hl : L.length + m.length ≤ 1099511627776)
  (hk : ∀ h' s', Gr hc a (L ++ m) h' s' → OwnL hp.size .u8 h' s1 m → (∀ b, s'.base = some b → ∀ c, s1.base = some c → b.block ≠ c.block) → Chg (fun i => i = a.block ∨ ∃ b, s.base = some b ∧ b.block = i) h h' → (∀ b, s'.base = some b → s.base = some b ∨ h.size ≤ b.block) → wp P K h' Q) :
  wp P (.append 1 1 [.int .u8 0] s s1 fun (l2 : Sl) => .store (some a) [slv l2] K) h Q := by
 refine s_append g.o (Nat.zero_le _) o1.lst (by omega) (by omega) fun s' h1 k1 os u1 b1 => ?_
 have hlt := (g.cel.lt rfl).2
 have ce : Cel 0 h1 a (slv s) := g.cel.keep fun y hy => by cases hy; exact u1.2.1 _ hlt fun z hz e => by have := g.sb z hz; omega
 have o1' : OwnL hp.size .u8 h1 s1 m := o1.upd u1 fun x y hx hy => by have := (o1.own.lt hx).1; have := hsp y hy; omega
 refine s_celput (slv s') ce rfl fun h2 o2 u2 => ?_
 have c12 : Chg (fun i => i = a.block) h1 h2 := Chg.of_upd u2 fun x hx _ => by cases hx; rfl
 have sb' : ∀ b, s'.base = some b → hc.size + 8 ≤ b.block := fun b hb => by
  rcases b1 b hb with h | h
  ·exact g.sb b h
  ·omega
 refine hk h2 s' ⟨o2, c12.ownL os fun x hx f => by have := sb' x hx; omega, sb'⟩ (c12.ownL o1' fun x hx f => by have := (o1'.own.lt hx).1; omega) (fun b hb c hc' => ?_) ?_ b1
 ·have := o1.own.lt hc'
  rcases b1 b hb with h | h
  ·have := hsp b h; omega
  ·omega
 ·exact (Chg.of_upd (F := fun i => i = a.block ∨ ∃ b, s.base = some b ∧ b.block = i) u1 fun x hx _ => .inr ⟨x, hx, rfl⟩).trans c12 fun i _ f => .inl f
theorem c_ranged (W : ClF P S) {it : Value} {B : List Int} {sz : Nat} {Z : Nat → Prop} {h0 : Heap} (hs : 1 ≤ sz) (hB : B.length ≤ 1099511627776) (itc : IterC P it (nch B.length sz) (chk B sz) Z 8 h0) (hz : Held Z h0 h) :
  Gives P (F_law5_ranged S it) [.one .sl] h fun (y : Sl × Unit) h' => OwnL h.size .u8 h' y.1 B := by
 unfold F_law5_ranged Gives
 refine s_new1 _ fun hc e1 o1 z1 => ?_
 have hz1 : Held Z h0 hc := hz.trans (Held.of_ext e1)
 have q0 := hz.1
 refine wp_callv (DynE.mono (itc hc _ (fun c h' => Chg (fun i => i = h.size) hc h' ∧ ∃ s, Gr hc ⟨h.size, 0, none⟩ (B.take (c * sz)) h' s) (fun _ => False) (by omega) hz1 rfl ?_ (fun a b f => f.elim) ?_ ⟨Chg.refl _ _, ⟨none, 0, 0⟩, o1.mono (Nat.zero_le _), by rw [Nat.zero_mul, List.take_zero]; exact OwnL.nil _ _ _, fun b hb => by cases hb⟩) fun vs h2 ⟨hv, s2, hz2, hend⟩ => ⟨(), hv, ?_⟩).toV
 ·rintro c a b ⟨c1, s, g⟩ cc
  exact ⟨c1.trans cc fun i hi f => by have := f.1; omega, s, g.chg cc (fun f => by have := f.1; dsimp only at this; omega) fun x hx f => by have := g.sb x hx; have := f.2; omega⟩
 ·rintro c hp h1 s1 hcN ⟨c1, s, g⟩ hps cc hzz os
  have g1 : Gr hc ⟨h.size, 0, none⟩ (B.take (c * sz)) h1 s := g.chg cc (fun f => by have := f.1; dsimp only at this; omega) fun x hx f => by have := g.sb x hx; have := f.2; omega
  have c1' : Chg (fun i => i = h.size) hc h1 := c1.trans cc fun i hi f => by have := f.1; omega
  refine (W.rg s1 _ h1 _ ?_).toV
  unfold F_law5_ranged_1
  have hcl : c * sz ≤ B.length := Nat.le_of_lt ((lt_nch hs).1 hcN)
  refine s_cel (b := .sl) (x := s) g1.cel (c_grow g1 hps cc.1 (fun b hb => (g.o.own.lt hb).2) (by dsimp only; omega) os (by rw [List.length_take, List.length_take, List.length_drop]; omega) fun h2 s' g2 os2 hne c2 b2 => ?_)
  rw [chunk_add] at g2
  have hfix : fitsI .u8 (77 : Int) := fits_u8.2 (by decide)
  refine s_scrib (V := fun _ X => X 77) (fun _ => 77) (fun h' => Gr hc ⟨h.size, 0, none⟩ (B.take ((c + 1) * sz)) h' s') os2 (by rw [List.length_take, List.length_drop]; omega) g2 (fun _ => hfix) (fun ha hb l' ol ga u => ga.chg (Chg.of_upd (F := fun i => ∃ x, s1.base = some x ∧ x.block = i) u fun x hx _ => ⟨x, hx, rfl⟩) (fun ⟨x, hx, e⟩ => by have := (ol.own.lt hx).1; dsimp only at e; omega) fun b hb ⟨x, hx, e⟩ => hne b hb x hx e.symm) (fun i ha X R _ _ w => w) fun h3 l' ol g3 u3 => ?_
  have c3 : Chg (fun i => ∃ x, s1.base = some x ∧ x.block = i) h2 h3 := Chg.of_upd u3 fun x hx _ => ⟨x, hx, rfl⟩
  have call : Chg (fun i => i = h.size ∨ hc.size + 8 ≤ i) h1 h3 := (c2.mono fun i _ f => by
   rcases f with f | ⟨b, hb, e⟩
   ·exact .inl f
   ·have := g.sb b hb; exact .inr (by omega)).trans c3 fun i hi ⟨x, hx, e⟩ => .inr (by have := (ol.own.lt hx).1; omega)
  refine s_tag (s_cast0 (s_ret ⟨rfl, true, rfl, Held.of_chg call fun i hi hw f => ?_, fun _ => ⟨c1'.trans call fun i hi f => by rcases f with f | f; exact f; omega, s', g3⟩, fun h => by cases h⟩))
  rcases hw with hw | hw
  ·have := hw.1; have := hw.2; omega
  ·omega
 ·rcases hend with ⟨c2, s, g⟩ | hf
  ·rw [take_all hs] at g
   exact s_cel (b := .sl) (x := s) g.cel (s_ret ⟨rfl, Keep.trans e1 (c2.keep (by omega) fun i hi f => by omega), (s, ()), rfl, g.o.raise fun a ha => by have := g.sb a ha; omega⟩)
  ·exact hf.elim
theorem c_begun (W : ClF P S) {it : Value} {B : List Int} {sz most : Nat} {Z : Nat → Prop} {h0 : Heap} (hs : 1 ≤ sz) (hB : B.length ≤ 1099511627776) (hm : 1 ≤ most) (hm2 : most ≤ 1000) (itc : IterC P it (nch B.length sz) (chk B sz) Z 8 h0) (hz : Held Z h0 h) :
  Gives P (F_law5_begun S it (most : Int)) [.one .sl, .one .bool] h fun (y : Sl × Bool × Unit) h' => OwnL h.size .u8 h' y.1 (B.take (most * sz)) ∧ y.2.1 = true := by
 unfold F_law5_begun Gives
 refine s_new1 _ fun h1 e1 o1 z1 => s_new1 _ fun h2 e2 o2 z2 => s_newput _ (i64v 0) rfl fun h3 e3 o3 => s_newput _ (.bool true) rfl fun hc e4 o4 => ?_
 have q1 := e1.size; have q2 := e2.size; have q3 := e3.size; have q4 := e4.size
 have l3 : h2.size < h3.size := (o3.lt rfl).2
 have l4 : h3.size < hc.size := (o4.lt rfl).2
 have ec := ((e1.trans e2).trans e3).trans e4
 have hz1 : Held Z h0 hc := hz.trans (Held.of_ext ec)
 have q0 := hz.1
 have oM : Cel 0 hc ⟨h.size, 0, none⟩ (i64v most) := (((o1.ext e2).ext e3).ext e4).mono (Nat.zero_le _)
 have oA : Cel 0 hc ⟨h1.size, 0, none⟩ (slv ⟨none, 0, 0⟩) := ((o2.ext e3).ext e4).mono (Nat.zero_le _)
 have oN : Cel 0 hc ⟨h2.size, 0, none⟩ (i64v 0) := (o3.ext e4).mono (Nat.zero_le _)
 have oR : Cel 0 hc ⟨h3.size, 0, none⟩ (.bool true) := o4.mono (Nat.zero_le _)
 let J : Nat → Heap → Prop := fun c h' => Chg (fun i => i = h1.size ∨ i = h2.size) hc h' ∧ Cel 0 h' ⟨h2.size, 0, none⟩ (i64v c) ∧ ∃ s, Gr hc ⟨h1.size, 0, none⟩ (B.take (c * sz)) h' s
 have sJ : ∀ c a b, J c a → Chg (own hc.size 8) a b → J c b := by
  rintro c a b ⟨c1, n1, s, g⟩ cc
  exact ⟨c1.trans cc fun i hi f => by have := f.1; omega, cc.own n1 fun x hx f => by cases hx; have := f.1; dsimp only at this; omega, s, g.chg cc (fun f => by have := f.1; dsimp only at this; omega) fun x hx f => by have := g.sb x hx; have := f.2; omega⟩
 refine wp_callv (DynE.mono (itc hc _ (fun c h' => J c h' ∧ c < most) (fun h' => J most h') (by omega) hz1 rfl (fun c a b j cc => ⟨sJ c a b j.1 cc, j.2⟩) (fun a b j cc => sJ most a b j cc) ?_ ⟨⟨Chg.refl _ _, oN, ⟨none, 0, 0⟩, oA, by rw [Nat.zero_mul, List.take_zero]; exact OwnL.nil _ _ _, fun b hb => by cases hb⟩, hm⟩) fun vs h5 ⟨hv, s5, hz5, hend⟩ => ⟨(), hv, ?_⟩).toV
 ·rintro c hp h6 s1 hcN ⟨j, hcm⟩ hps cc hzz os
  obtain ⟨_, _, s0, g0⟩ := j
  have j6 := sJ c hp h6 ⟨‹_›, ‹_›, s0, g0⟩ cc
  have g : Gr hc ⟨h1.size, 0, none⟩ (B.take (c * sz)) h6 s0 := g0.chg cc (fun f => by have := f.1; dsimp only at this; omega) fun x hx f => by have := g0.sb x hx; have := f.2; omega
  obtain ⟨c6, n6, _⟩ := j6
  have oM6 : Cel 0 h6 ⟨h.size, 0, none⟩ (i64v most) := c6.own oM fun x hx f => by cases hx; dsimp only at f; omega
  refine (W.bg s1 _ _ _ _ h6 _ ?_).toV
  unfold F_law5_begun_1
  have hcl : c * sz ≤ B.length := Nat.le_of_lt ((lt_nch hs).1 hcN)
  refine s_cel (b := .int .i64) (x := (c : Int)) n6 (s_cel (b := .int .i64) (x := (most : Int)) oM6 (wp_ifB (fun hg => ?_) fun _ => ?_))
  ·rw [geI_iff] at hg; omega
  refine s_cel (b := .sl) (x := s0) g.cel (c_grow g hps cc.1 (fun b hb => (g0.o.own.lt hb).2) (by dsimp only; omega) os (by rw [List.length_take, List.length_take, List.length_drop]; omega) fun h7 s' g7 os7 hne c7 b7 => ?_)
  rw [chunk_add] at g7
  have ne7 : ∀ {a : Addr} {v : Value}, Cel 0 h6 a v → a.block ≠ h1.size → a.block < hc.size → Cel 0 h7 a v := fun o h1' h2' => c7.own o fun x hx f => by
   cases hx
   rcases f with f | ⟨b, hb, e⟩
   ·exact h1' f
   ·have := g0.sb b hb; omega
  have n7 := ne7 n6 (by dsimp only; omega) (by dsimp only; omega)
  have m7 := ne7 oM6 (by dsimp only; omega) (by dsimp only; omega)
  have hfix : fitsI .u8 (78 : Int) := fits_u8.2 (by decide)
  refine s_scrib (V := fun _ X => X 78) (fun _ => 78) (fun h' => Gr hc ⟨h1.size, 0, none⟩ (B.take ((c + 1) * sz)) h' s' ∧ Cel 0 h' ⟨h2.size, 0, none⟩ (i64v c) ∧ Cel 0 h' ⟨h.size, 0, none⟩ (i64v most)) os7 (by rw [List.length_take, List.length_drop]; omega) ⟨g7, n7, m7⟩ (fun _ => hfix) (fun ha hb l' ol ⟨ga, na, ma⟩ u => ?_) (fun i ha X R _ _ w => w) fun h8 l' ol ⟨g8, n8, m8⟩ u8' => ?_
  ·have cu := Chg.of_upd (F := fun i => ∃ x, s1.base = some x ∧ x.block = i) u fun x hx _ => ⟨x, hx, rfl⟩
   exact ⟨ga.chg cu (fun ⟨x, hx, e⟩ => by have := (ol.own.lt hx).1; dsimp only at e; omega) fun b hb ⟨x, hx, e⟩ => hne b hb x hx e.symm, cu.own na fun y hy ⟨x, hx, e⟩ => by cases hy; have := (ol.own.lt hx).1; dsimp only at e; omega, cu.own ma fun y hy ⟨x, hx, e⟩ => by cases hy; have := (ol.own.lt hx).1; dsimp only at e; omega⟩
  have c8 : Chg (fun i => ∃ x, s1.base = some x ∧ x.block = i) h7 h8 := Chg.of_upd u8' fun x hx _ => ⟨x, hx, rfl⟩
  refine s_tag (s_cast0 (s_cel (b := .int .i64) (x := (c : Int)) n8 ?_))
  rw [add_ok (by omega) (by omega)]
  refine s_celput (i64v ((c : Int) + 1)) n8 rfl fun h9 n9 u9 => ?_
  have c9 : Chg (fun i => i = h2.size) h8 h9 := Chg.of_upd u9 fun x hx _ => by cases hx; rfl
  have m9 := c9.own m8 fun x hx f => by cases hx; dsimp only at f; omega
  have g9 := g8.chg c9 (by dsimp only; omega) fun b hb f => by have := g8.sb b hb; omega
  refine s_cel (b := .int .i64) (x := (c : Int) + 1) n9 (s_cel (b := .int .i64) (x := (most : Int)) m9 (s_ret ⟨rfl, _, rfl, ?_, fun hb => ?_, fun hb => ?_⟩))
  all_goals have call : Chg (fun i => i = h1.size ∨ i = h2.size ∨ hc.size + 8 ≤ i) h6 h9 := ((c7.mono fun i _ f => by
   rcases f with f | ⟨b, hb, e⟩
   ·exact .inl f
   ·have := g0.sb b hb; exact .inr (.inr (by omega))).trans c8 fun i hi ⟨x, hx, e⟩ => .inr (.inr (by have := (ol.own.lt hx).1; omega))).trans c9 fun i hi f => .inr (.inl f)
  ·refine Held.of_chg call fun i hi hw f => ?_
   rcases hw with hw | hw
   ·have := hw.1; have := hw.2; omega
   ·omega
  all_goals have cc9 : Chg (fun i => i = h1.size ∨ i = h2.size) hc h9 := c6.trans call fun i hi f => by omega
  ·rw [ltI_iff] at hb
   exact ⟨⟨cc9, n9, s', g9⟩, by omega⟩
  ·rw [ltI_not] at hb
   have : c + 1 = most := by omega
   subst this
   exact ⟨cc9, n9, s', g9⟩
 ·have fin : ∃ L, L = B.take (most * sz) ∧ Chg (fun i => i = h1.size ∨ i = h2.size) hc h5 ∧ ∃ s, Gr hc ⟨h1.size, 0, none⟩ L h5 s := by
   rcases hend with ⟨⟨c5, _, s, g⟩, hlt⟩ | ⟨c5, _, s, g⟩
   ·refine ⟨_, ?_, c5, s, g⟩
    rw [take_all hs, List.take_of_length_le]
    have h1 := List.length_take_le (nch B.length sz * sz) B
    rw [take_all hs] at h1
    have h2 : nch B.length sz * sz ≤ most * sz := Nat.mul_le_mul_right _ (by omega)
    have h3 := congrArg List.length (take_all (B := B) hs)
    rw [List.length_take] at h3
    omega
   ·exact ⟨_, rfl, c5, s, g⟩
  obtain ⟨L, rfl, c5, s, g⟩ := fin
  have oR5 : Cel 0 h5 ⟨h3.size, 0, none⟩ (.bool true) := c5.own oR fun x hx f => by cases hx; dsimp only at f; omega
  exact s_cel (b := .sl) (x := s) g.cel (s_cel (b := .bool) (x := true) oR5 (s_ret ⟨rfl, Keep.trans ec (c5.keep (by omega) fun i hi f => by omega), (s, true, ()), rfl, g.o.raise fun a ha => by have := g.sb a ha; omega, rfl⟩))
end Go.Sw.Piece
