/-
  A text: heads and tails of pieces; what a text shows; replace.
-/
import Derived.Test.YtaebgdhdldfigaaGreatSwG0
import Derived.Test.YtaebgdhdldfigaaGreatSwCD
set_option linter.unusedVariables false
set_option linter.unusedSimpArgs false
set_option maxRecDepth 100000
namespace Go.Sw.Piece
open Go.Sw.Any Go.Sw.Codec
open Go.Sw.Tree (iv s_putAll s_newP s_getP s_getT s_putP eqI_self Placed cell_own wp_whileG minI_eq)
variable {P : Program} {S : Ids} {h : Heap} {Q : Nat → List Value → Heap → Prop}
def headPc (enc : Int) (q : Pc) (n : Nat) : Pc := (headP enc q.1 q.2 n, q.2.take (offs ((toks enc q.2).take n)))
def tailPc (enc : Int) (q : Pc) (n : Nat) : Pc := (tailP enc q.1 q.2 n, q.2.drop (offs ((toks enc q.2).take n)))
theorem elsP_head {enc : Int} {q : Pc} (hb : isBytes q.2) {n : Nat} (hn : n ≤ (toks enc q.2).length) : elsP enc (headPc enc q n) = (elsP enc q).take n := by
 unfold elsP headPc
 dsimp only
 rw [toks_take hb n hn, elsF_take]; rfl
theorem elsP_tail {enc : Int} {q : Pc} (hb : isBytes q.2) {n : Nat} (hn : n ≤ (toks enc q.2).length) : elsP enc (tailPc enc q n) = (elsP enc q).drop n := by
 unfold elsP tailPc
 dsimp only
 rw [(toks_at hb n hn).2, elsF_drop]
 show elsF (tagF q.1.2.1 _) 0 _ = _
 rw [elsF_tag]
theorem offs_pos {ts : List (Int × Int)} (h : okT ts) (hl : 0 < ts.length) : 0 < offs ts := by
 cases ts with
 | nil => simp at hl
 | cons t ts => have := h t (List.mem_cons_self ..); rw [offs_cons]; omega
theorem PcR.base {T : TX} {q : Pc} (r : PcR h T q) : ∃ a, q.1.1.base = some a := by
 obtain ⟨a, e, _⟩ := r.lst.rd.at (i := 0) r.ne
 exact ⟨a, e⟩
theorem PcR.head {T : TX} {q : Pc} (r : PcR h T q) {n : Nat} (h0 : 0 < n) (hn : n ≤ (toks T.enc q.2).length) : PcR h T (headPc T.enc q n) := by
 have hb := r.bytes
 have okt := okT_toks (enc := T.enc) hb
 have hk := (toks_at (enc := T.enc) hb n hn).1.le hb
 have hpos := offs_pos (okt.take n) (by rw [List.length_take]; omega)
 have htt := toks_take (enc := T.enc) hb n hn
 have hlen := r.lst.len
 have hcap := r.lst.cap
 have hmax := r.lst.max
 have htag := r.tag
 have hl := r.len
 unfold headPc headP
 generalize hkk : offs ((toks T.enc q.2).take n) = k at *
 have hlt : (q.2.take k).length = k := by rw [List.length_take]; omega
 refine ⟨r.lst.take hk (Nat.le_refl _) (by omega), by dsimp only; omega, ?_, ?_, by dsimp only; omega, fun a ha => ?_⟩
 ·dsimp only; rw [htt]; rfl
 ·dsimp only; rw [hlt]
  show -1 ≤ q.1.2.1 ∧ q.1.2.1 + (k : Int) ≤ 65536
  omega
 ·obtain ⟨b1, b2, b3⟩ := r.blk a ha
  refine ⟨b1, b2, fun b hb hab => ?_⟩
  obtain ⟨b4, b5⟩ := b3 b hb hab
  exact ⟨b4, by dsimp only; omega⟩
theorem PcR.tail {T : TX} {q : Pc} (r : PcR h T q) {n : Nat} (hn : n < (toks T.enc q.2).length) : PcR h T (tailPc T.enc q n) := by
 have hb := r.bytes
 have okt := okT_toks (enc := T.enc) hb
 have hk := (toks_at (enc := T.enc) hb n (by omega)).1.le hb
 have htd := (toks_at (enc := T.enc) hb n (by omega)).2
 have hoff := toks_offs (enc := T.enc) hb
 have hsp := offs_append ((toks T.enc q.2).take n) ((toks T.enc q.2).drop n)
 rw [List.take_append_drop] at hsp
 have hpos := offs_pos (okt.drop n) (by rw [List.length_drop]; omega)
 have hlen := r.lst.len
 have hcap := r.lst.cap
 have hmax := r.lst.max
 have htag := r.tag
 have hl := r.len
 unfold tailPc tailP
 generalize hkk : offs ((toks T.enc q.2).take n) = k at *
 have hlt : (q.2.drop k).length = q.2.length - k := List.length_drop
 obtain ⟨a0, ha0⟩ := r.base
 have hcut : cutBase q.1.1.base q.1.1.cap k 1 = some (a0.add k) := by unfold cutBase; rw [if_neg (by omega), ha0]; simp
 refine ⟨r.lst.tail (i := k) hk, by dsimp only; omega, ?_, ?_, by dsimp only; omega, fun a ha => ?_⟩
 ·dsimp only; rw [htd]; rfl
 ·dsimp only; rw [hlt]
  show -1 ≤ tagF q.1.2.1 k ∧ tagF q.1.2.1 k + ((q.2.length - k : Nat) : Int) ≤ 65536
  unfold tagF; split <;> omega
 ·have ha : cutBase q.1.1.base q.1.1.cap k 1 = some a := ha
  rw [hcut] at ha
  cases ha
  obtain ⟨b1, b2, b3⟩ := r.blk a0 ha0
  rw [add_block]
  refine ⟨b1, b2, fun b hb hab => ?_⟩
  obtain ⟨b4, b5⟩ := b3 b hb hab
  refine ⟨add_spot b4 _, ?_⟩
  rw [add_off]
  show a0.off + k + (q.2.drop k).length ≤ _
  omega
theorem els_append (enc : Int) (a b : List Pc) : els enc (a ++ b) = els enc a ++ els enc b := by simp [els]
theorem els_one (enc : Int) (q : Pc) : els enc [q] = elsP enc q := by simp [els]
theorem els_split {enc : Int} {ps : List Pc} {i : Nat} {q : Pc} (hq : ps[i]? = some q) : els enc ps = els enc (ps.take i) ++ elsP enc q ++ els enc (ps.drop (i + 1)) := by
 have hlt := (List.getElem?_eq_some_iff.1 hq).1
 have he := (List.getElem?_eq_some_iff.1 hq).2
 have h2 : ps = ps.take i ++ [q] ++ ps.drop (i + 1) := by
  rw [← he, List.append_assoc]
  show ps = ps.take i ++ (ps[i] :: ps.drop (i + 1))
  rw [← List.drop_eq_getElem_cons hlt, List.take_append_drop]
 conv => lhs; rw [h2]
 rw [els_append, els_append, els_one]
theorem elsP_len (enc : Int) (q : Pc) : (elsP enc q).length = (toks enc q.2).length := elsF_len ..
theorem els_take {enc : Int} {ps : List Pc} {at_ : Int} {i n : Nat} (f : FindR enc ps at_ i n) (h0 : 0 ≤ at_) : (els enc ps).take at_.toNat = els enc (ps.take i) ++ (match ps[i]? with | some q => (elsP enc q).take n | none => []) ∧
  (els enc ps).drop at_.toNat = (match ps[i]? with | some q => (elsP enc q).drop n | none => []) ++ els enc (ps.drop (i + 1)) ∧ (∀ q, ps[i]? = some q → n ≤ (toks enc q.2).length) := by
 obtain ⟨f1, f2, f3, f4⟩ := f
 have hat : at_.toNat = (els enc (ps.take i)).length + n := by rw [els_len]; omega
 cases hq : ps[i]? with
 | none =>
  by_cases h : 0 < at_
  ·obtain ⟨q, hq', _⟩ := f4 h; rw [hq] at hq'; cases hq'
  ·obtain ⟨rfl, rfl⟩ := f3 (by omega)
   have : ps = [] := by
    cases ps with
    | nil => rfl
    | cons q ps => simp at hq
   subst this
   exact ⟨by simp [els], by simp [els], fun q hq => (by cases hq)⟩
 | some q =>
  have hn : n ≤ (elsP enc q).length := by
   rw [elsP_len]
   by_cases h : 0 < at_
   ·obtain ⟨q', hq', _, h3⟩ := f4 h; rw [hq] at hq'; cases hq'; exact h3
   ·obtain ⟨_, rfl⟩ := f3 (by omega); exact Nat.zero_le _
  have hs := els_split (enc := enc) hq
  refine ⟨?_, ?_, fun q' hq' => by cases hq'; rw [← elsP_len]; exact hn⟩
  ·rw [hs, hat, List.append_assoc, List.take_append, List.take_of_length_le (by omega), Nat.add_sub_cancel_left, List.take_append_of_le_length hn]
  ·rw [hs, hat, List.append_assoc, List.drop_append, List.drop_of_length_le (by omega), Nat.add_sub_cancel_left, List.drop_append_of_le_length hn, List.nil_append]
theorem find_mono {enc : Int} {ps : List Pc} {a b : Int} {i n j m : Nat} (f : FindR enc ps a i n) (g : FindR enc ps b j m) (h0 : 0 ≤ a) (hab : a ≤ b) : i ≤ j := by
 obtain ⟨f1, f2, f3, f4⟩ := f
 obtain ⟨g1, g2, g3, g4⟩ := g
 by_cases ha : 0 < a
 ·obtain ⟨q, hq, n0, n1⟩ := f4 ha
  obtain ⟨r, hr, m0, m1⟩ := g4 (by omega)
  by_cases hij : i ≤ j
  ·exact hij
  ·have h1 := toksL_succ (enc := enc) hr
   have h2 : (toksL enc (ps.take (j + 1))).length ≤ (toksL enc (ps.take i)).length := by
    have : ps.take (j + 1) = (ps.take i).take (j + 1) := by rw [List.take_take, Nat.min_eq_left (by omega)]
    rw [this]; exact toksL_take_le _ _
   rw [h1, List.length_append] at h2
   omega
 ·have := (f3 (by omega)).1; omega
theorem elsF_fst (tag : Int) : ∀ (ts : List (Int × Int)) (o : Nat), (elsF tag o ts).map (·.1) = ts.map (·.1)
 | [], _ => rfl
 | t :: ts, o => by simp only [elsF, List.map_cons, elsF_fst tag ts]
theorem els_fst (enc : Int) : ∀ (ps : List Pc), (els enc ps).map (·.1) = (toksL enc ps).map (·.1)
 | [] => rfl
 | q :: ps => by
  have := els_fst enc ps
  unfold els toksL at this ⊢
  rw [List.flatMap_cons, List.flatMap_cons, List.map_append, List.map_append, this]
  unfold elsP; rw [elsF_fst]
theorem toksL_els {enc : Int} (he : known enc) : ∀ {ps : List Pc}, (∀ q, q ∈ ps → isBytes q.2) → toksL enc ps = ((els enc ps).map (·.1)).map (tk enc) ∧ bytesL ps = ((els enc ps).map (·.1)).flatMap (putF enc) ∧ ∀ a, a ∈ (els enc ps).map (·.1) → 0 < sizeF enc a
 | [], _ => ⟨rfl, rfl, fun a ha => (by cases ha)⟩
 | q :: ps, hb => by
  have hq := toks_is he (hb q (List.mem_cons_self ..))
  obtain ⟨i1, i2, i3⟩ := toksL_els he (ps := ps) fun x hx => hb x (List.mem_cons_of_mem _ hx)
  have e : els enc (q :: ps) = elsP enc q ++ els enc ps := by simp [els]
  have e1 : (elsP enc q).map (·.1) = (toks enc q.2).map (·.1) := by unfold elsP; rw [elsF_fst]
  have e2 : toks enc q.2 = ((toks enc q.2).map (·.1)).map (tk enc) := by
   rw [List.map_map]
   conv => lhs; rw [← List.map_id (toks enc q.2)]
   refine List.map_congr_left fun t ht => ?_
   show t = (t.1, sizeF enc t.1)
   rw [← (hq.1 t ht).2]
  rw [e, List.map_append, List.map_append, List.flatMap_append, e1]
  refine ⟨?_, ?_, fun a ha => ?_⟩
  ·rw [← e2, ← i1]; simp [toksL]
  ·rw [← i2, List.flatMap_map, hq.2]; simp [bytesL]
  ·rcases List.mem_append.1 ha with ha | ha
   ·obtain ⟨t, ht, rfl⟩ := List.mem_map.1 ha
    exact (hq.1 t ht).1
   ·exact i3 a ha
theorem elsP_new {enc : Int} {q : Pc} (h : q.1.2.1 = -1) : elsP enc q = (toks enc q.2).map fun t => (t.1, -1) := by
 unfold elsP
 rw [h]
 have : ∀ (ts : List (Int × Int)) (o : Nat), elsF (-1) o ts = ts.map fun t => (t.1, -1) := by
  intro ts
  induction ts with
  | nil => intro o; rfl
  | cons t ts ih => intro o; simp only [elsF, List.map_cons, ih]; rw [if_pos (by decide)]
 exact this _ _
theorem els_new {enc : Int} : ∀ {qs : List Pc}, (∀ q, q ∈ qs → q.1.2.1 = -1) → els enc qs = (toksL enc qs).map fun t => (t.1, -1)
 | [], _ => rfl
 | q :: qs, h => by
  have := els_new (enc := enc) (qs := qs) fun x hx => h x (List.mem_cons_of_mem _ hx)
  unfold els toksL at this ⊢
  rw [List.flatMap_cons, List.flatMap_cons, List.map_append, this, elsP_new (h q (List.mem_cons_self ..))]
structure Nxt (T T' : TX) (m : Nat) : Prop where
 p : T'.p = T.p
 enc : T'.enc = T.enc
 limit : T'.limit = T.limit
 kept : T'.kept = T.kept
 zm : ∀ i, T.Z i → T'.Z i
 zn : ∀ i, T'.Z i → T.Z i ∨ m ≤ i
 adc : ∀ b, T'.ad.base = some b → T.ad.base = some b ∨ m ≤ b.block
theorem Nxt.refl (T : TX) (m : Nat) : Nxt T T m := ⟨rfl, rfl, rfl, rfl, fun _ h => h, fun _ h => .inl h, fun _ h => .inl h⟩
theorem Nxt.trans {T T' T'' : TX} {m m' : Nat} (a : Nxt T T' m) (b : Nxt T' T'' m') (hm : m ≤ m') : Nxt T T'' m :=
 ⟨b.p.trans a.p, b.enc.trans a.enc, b.limit.trans a.limit, b.kept.trans a.kept, fun i hi => b.zm i (a.zm i hi), fun i hi => (b.zn i hi).elim (a.zn i) fun h => .inr (Nat.le_trans hm h),
  fun x hx => (b.adc x hx).elim (a.adc x) fun h => .inr (Nat.le_trans hm h)⟩
theorem Nxt.foot {T T' : TX} {m i : Nat} (a : Nxt T T' m) (hi : wfoot T' i) : wfoot T i ∨ m ≤ i := by
 rcases hi with rfl | ⟨b, hb, rfl⟩
 ·rw [a.p]; exact .inl (.inl rfl)
 ·exact (a.adc b hb).imp (fun h => .inr ⟨b, h, rfl⟩) id
end Go.Sw.Piece

set_option linter.unusedVariables false
set_option linter.unusedSimpArgs false
set_option maxRecDepth 100000
namespace Go.Sw.Piece
open Go.Sw.Any Go.Sw.Codec
open Go.Sw.Tree (iv s_putAll s_newP s_getP s_getT s_putP eqI_self Placed cell_own wp_whileG minI_eq)
variable {P : Program} {S : Ids} {h : Heap} {Q : Nat → List Value → Heap → Prop}
theorem wp_callW {m : Prog} {tys : List Ty} {K : Ts.den tys → Prog} {R : Nat → List Value → Heap → Prop} (g : wp P m h R) (hk : ∀ t vs h', R t vs h' → t = 0 ∧ ∃ x, vs = Ts.inj tys x ∧ wp P (K x) h' Q) : wp P (.call m tys K) h Q := wp_mono m hk g
theorem its_own {n : Nat} {Z : Nat → Prop} {s : Sl} {l : List Part} (o : OwnPs n h s l) (hw : ∀ x, x ∈ l → VS (wtP x) (sumP x)) : Its (part S Z) h s l := ⟨o.rd, o.2.1, o.2.2.1, hw⟩
theorem pcs_le {T : TX} : ∀ {ps : List Pc}, (∀ q, q ∈ ps → PcR h T q) → ps.length ≤ (bytesL ps).length
 | [], _ => Nat.le_refl _
 | q :: ps, hq => by
  have h1 := pcs_le (ps := ps) fun x hx => hq x (List.mem_cons_of_mem _ hx)
  have h2 := (hq q (List.mem_cons_self ..)).ne
  unfold bytesL at h1 ⊢
  rw [List.flatMap_cons, List.length_append, List.length_cons]; omega
theorem bytesL_append (a b : List Pc) : bytesL (a ++ b) = bytesL a ++ bytesL b := by simp [bytesL]
theorem bytes_sub {ps qs : List Pc} (hs : qs.Sublist ps) : (bytesL qs).length ≤ (bytesL ps).length := by
 induction hs with
 | slnil => exact Nat.le_refl _
 | cons q hs ih => unfold bytesL at ih ⊢; rw [List.flatMap_cons, List.length_append]; omega
 | cons_cons q hs ih => unfold bytesL at ih ⊢; rw [List.flatMap_cons, List.flatMap_cons, List.length_append, List.length_append]; omega
theorem set_state {n : Nat} {T : TX} {h2 : Heap} {m : Nat} {root : Option Addr} {t' : Bt Part} {ps' : List Pc} (t : TextR S n h T) (hm : ∀ i, T.Z i → i < m) (hmh : n ≤ m ∧ m ≤ h.size)
  (nd : Nd (part S fun i => T.Z i ∨ m ≤ i) h root t') (ls : t'.list = ps'.map (·.1)) (pcs : ∀ q, q ∈ ps' → PcR h T q) (small : (bytesL ps').length ≤ 1099511627776)
  (o2 : Own n 1 h2 ⟨some T.p, 4, 4⟩ [i64v T.enc, i64v T.limit, .pointer root, slv T.ad]) (u2 : Upd ⟨some T.p, 4, 4⟩ h h2) :
  TextR S n h2 { T with cur := ⟨root, t', ps'⟩, Z := fun i => (T.Z i ∨ m ≤ i) ∧ i < h2.size } := by
 have hp : T.p.block < h.size := (t.lo _ t.zp).2
 have hpe : (⟨T.p.block, 0, none⟩ : Addr) = T.p := by
  obtain ⟨_, _, _, o4⟩ := t.ob
  obtain ⟨e0, e1, _⟩ := o4
  show (⟨T.p.block, 0, none⟩ : Addr) = ⟨T.p.block, T.p.off, T.p.spot⟩
  rw [e0, e1]
 have ku : ∀ b, (⟨some T.p, 4, 4⟩ : Sl).base = some b → ∃ k x, Sw.cell h ⟨b.block, 0, none⟩ = some (.int k x) := fun b hb => by
  cases hb
  have c := t.c0
  rw [add_zero'] at c
  rw [hpe]; exact ⟨_, _, c⟩
 have hs2 := u2.1
 have pc : ∀ {q}, PcR h T q → PcR h2 { T with cur := ⟨root, t', ps'⟩, Z := fun i => (T.Z i ∨ m ≤ i) ∧ i < h2.size } q := fun {q} pq =>
  ⟨pq.lst.blocks fun a ha hl => u2.2.1 _ hl fun b hb => by cases hb; exact fun e => (pq.blk a ha).2.1 e.symm, pq.ne, pq.is, pq.tag, pq.len, fun a ha => ⟨⟨.inl (pq.blk a ha).1, by have := (t.lo _ (pq.blk a ha).1).2; omega⟩, (pq.blk a ha).2⟩⟩
 have st : ∀ {s}, StR S h T s → StR S h2 { T with cur := ⟨root, t', ps'⟩, Z := fun i => (T.Z i ∨ m ≤ i) ∧ i < h2.size } s := fun {s} hs => ⟨part_mono (hs.nd.updK u2 ku) fun i hi hz => ⟨.inl hz, hi⟩, hs.ls, fun q hq => pc (hs.pcs q hq), hs.small⟩
 refine ⟨t.enc, t.lim, o2, t.ad.upd u2 fun a b ha hb => by cases hb; exact fun e => t.adp a ha e.symm, t.adp, t.adk, ⟨part_mono (nd.updK u2 ku) fun i hi hz => ⟨hz, hi⟩, ls, fun q hq => pc (pcs q hq), small⟩, fun s hs => st (t.kept s hs), ⟨.inl t.zp, show T.p.block < h2.size by omega⟩, fun b hb => ⟨.inl (t.za b hb), by have := (t.lo _ (t.za b hb)).2; omega⟩, fun i hi => ?_⟩
 obtain ⟨hi | hi, hlt⟩ := hi
 ·exact ⟨(t.lo i hi).1, hlt⟩
 ·exact ⟨by omega, hlt⟩
def leftL (enc : Int) (ps : List Pc) (i n : Nat) : List Pc := match ps[i]? with | some q => if 0 < n then [headPc enc q n] else [] | none => []
def rightL (enc : Int) (ps : List Pc) (j m : Nat) : List Pc := match ps[j]? with | some q => if m < (toks enc q.2).length then [tailPc enc q m] else [] | none => []
theorem c_replace (M : Meth0 P S) {n : Nat} {T : TX} {from_ to : Int} {put : Sl} {l : List Int} (t : TextR S n h T) (hn : n ≤ h.size) (hp : Lst .i64 h put l) (hf : ∀ a, a ∈ l → 0 < sizeF T.enc a) (hA : T.A.length + 4 * l.length ≤ 1099511627776)
  (hz : l ≠ [] → ∀ a, put.base = some a → ¬ T.Z a.block) (h0 : 0 ≤ from_) (h1 : from_ ≤ to) (h2 : to ≤ (els T.enc T.cur.ps).length) (hroom : (bytesL T.cur.ps).length + 4 * l.length ≤ 500000000000) :
  wp P (F_Text_replace S (some T.p) from_ to put) h fun tg vs h' => tg = 0 ∧ vs = [] ∧ Chg (wfoot T) h h' ∧ ∃ T', TextR S n h' T' ∧ Nxt T T' h.size ∧ T'.A = T.A ++ l.flatMap (putF T.enc) ∧
   els T.enc T'.cur.ps = (els T.enc T.cur.ps).take from_.toNat ++ l.map (fun a => (a, -1)) ++ (els T.enc T.cur.ps).drop to.toNat := by
 unfold F_Text_replace
 have htl : (toksL T.enc T.cur.ps).length = (els T.enc T.cur.ps).length := (els_len ..).symm
 have hpsl := pcs_le t.cur.pcs
 have hput := put_le hf
 refine wp_call (c_find t h0 (by omega)) fun ⟨(i' : Int), (n' : Int), _⟩ ha ea ⟨i, ni, hi, hni, fi⟩ => wp_call (c_find (t.ext ea) (by omega) (by omega)) fun ⟨(j' : Int), (m' : Int), _⟩ hb eb ⟨j, mj, hj, hmj, fj⟩ => ?_
 have hi : i' = i := hi
 have hni : n' = ni := hni
 have hj : j' = j := hj
 have hmj : m' = mj := hmj
 subst hi; subst hni; subst hj; subst hmj
 dsimp only
 have hij := find_mono fi fj h0 h1
 obtain ⟨eT, _, hniq⟩ := els_take fi h0
 obtain ⟨_, eD, hmjq⟩ := els_take fj (by omega : 0 ≤ to)
 have e0b := ea.trans eb
 have tb := t.ext e0b
 have O : ∀ Z, (part S Z).Ok P := fun Z => part_ok S Z
 have hil := fi.1
 have hjl := fj.1
 have hbT := t.cur.bytes
 have hleft : ∀ q, q ∈ leftL T.enc T.cur.ps i ni → PcR h T q := fun q hq => by
  unfold leftL at hq
  cases hqi : T.cur.ps[i]? with
  | none => rw [hqi] at hq; cases hq
  | some x =>
   rw [hqi] at hq
   dsimp only at hq
   split at hq
   ·rw [List.mem_singleton.1 hq]; exact (t.cur.pcs x (List.mem_of_getElem? hqi)).head (by omega) (hniq x hqi)
   ·cases hq
 refine wp_bind (fun tg vs h' => tg = 0 ∧ Ext hb h' ∧ ∃ s, vs = [slv s] ∧ OwnPs hb.size h' s ((leftL T.enc T.cur.ps i ni).map (·.1))) ?_ ?_
 ·cases hq : T.cur.ps[i]? with
  | none =>
   have hll : leftL T.enc T.cur.ps i ni = [] := by unfold leftL; rw [hq]
   refine s_root tb (wp_call (R := fun (y : Part × Bool × Unit) _ => y.1 = zP ∧ y.2.1 = false) (c_AtNo (O T.Z) tb.cur.nd (Nat.le_of_lt (tb.cur.room tb.lim.2)) (by omega) (.inr ?_)) fun ⟨(y : Part), (ok : Bool), _⟩ h5 e5 ⟨hy, hok⟩ => ?_)
   ·have h1 : T.cur.t.list.length ≤ i := by rw [t.cur.ls, List.length_map]; exact List.getElem?_eq_none_iff.1 hq
    show ((List.length T.cur.t.list : Nat) : Int) ≤ _
    omega
   ·have hok : ok = false := hok
    subst hok
    dsimp only
    refine s_newO (bs := PB) zP (by decide) fun h6 e6 o6 => s_stoO (bs := PB) y o6 (flatP _) fun h7 o7 u7 => ?_
    have e57 : Ext hb h7 := Upd.extN (e5.trans e6) u7 (by intro x hx; cases hx; exact e5.size)
    refine bind_bool False (s_ifF (s_ret ⟨rfl, Ext.refl _, false, rfl, Iff.intro (fun h => by cases h) False.elim⟩)) fun bb h8 e8 hb8 => wp_ifB (fun hx => (hb8.1 hx).elim) fun _ => s_ret ⟨rfl, e57.trans e8, ⟨none, 0, 0⟩, rfl, ?_⟩
    rw [hll]; exact Own.nil _ _ _
  | some q =>
   have hx : T.cur.t.list[((i : Int)).toNat]? = some q.1 := by rw [Int.toNat_natCast, t.cur.ls, List.getElem?_map, hq]; rfl
   refine s_root tb (wp_call (R := fun (y : Part × Bool × Unit) _ => y.1 = q.1 ∧ y.2.1 = true) (c_At (O T.Z) tb.cur.nd tb.cur.wf (Nat.le_of_lt (tb.cur.room tb.lim.2)) (by omega) hx) fun ⟨(y : Part), (ok : Bool), _⟩ h5 e5 ⟨hy, hok⟩ => ?_)
   have hok : ok = true := hok
   have hy : y = q.1 := hy
   subst hok; subst hy
   dsimp only
   refine s_newO (bs := PB) zP (by decide) fun h6 e6 o6 => s_stoO (bs := PB) q.1 o6 (flatP _) fun h7 o7 u7 => ?_
   have e57 : Ext hb h7 := Upd.extN (e5.trans e6) u7 (by intro x hx; cases hx; exact e5.size)
   have t7 := tb.ext e57
   have hqm := List.mem_of_getElem? hq
   refine bind_bool (0 < ni) (s_ifT (s_ret ⟨rfl, Ext.refl _, _, rfl, by rw [gtI_iff]; omega⟩)) fun bb h8 e8 hb8 => wp_ifB (fun hx => ?_) fun hx => ?_
   ·have hpos := hb8.1 hx
    have hll : leftL T.enc T.cur.ps i ni = [headPc T.enc q ni] := by unfold leftL; rw [hq]; dsimp only; rw [if_pos hpos]
    have t8 := t7.ext e8
    have pc := t8.cur.pcs q hqm
    refine wp_bind (fun tg vs h' => tg = 0 ∧ Ext h8 h' ∧ ∃ A : Addr, vs = [.pointer (some A)] ∧ OwnP h8.size h' A (headP T.enc q.1 q.2 ni)) ?_ ?_
    ·refine c_cutB M (fin := fun A B => .ret 0 [.pointer (some A)]) t8 (x := q.1) (bs := q.2) pc (o7.ext e8) (by omega) (by have := hniq q hq; omega) fun h9 A B e9 oA oB => s_ret ⟨rfl, e9, A, rfl, ?_⟩
     rw [Int.toNat_natCast] at oA; exact oA
    ·rintro tg vs h9 ⟨rfl, e9, A, rfl, oA⟩
     refine s_tag (wp_cast (tys := [.one .ptr]) (some A, ()) rfl ?_)
     dsimp only
     refine s_getO (bs := PB) oA ?_
     have e09 := (e57.trans e8).trans e9
     refine wp_push (n := hb.size) (old := []) (new := Bs.inj PB (headP T.enc q.1 q.2 ni)) (Own.nil _ _ _) e09.size rfl (flatP _) rfl (by decide) (by decide) fun r h10 a10 b10 u10 d10 => s_ret ⟨rfl, ?_, r, rfl, ?_⟩
     ·exact Upd.extN e09 u10 (by intro x hx; cases hx)
     ·rw [hll]
      show Own hb.size 7 h10 r (cP [headP T.enc q.1 q.2 ni])
      rw [cP_one]; simpa using a10
   ·have hll : leftL T.enc T.cur.ps i ni = [] := by unfold leftL; rw [hq]; dsimp only; rw [if_neg fun k => by rw [hb8.2 k] at hx; cases hx]
    refine s_ret ⟨rfl, e57.trans e8, ⟨none, 0, 0⟩, rfl, ?_⟩
    rw [hll]; exact Own.nil _ _ _
 rintro tg vs hc ⟨rfl, ec, s, rfl, os⟩
 refine s_tag (wp_cast (tys := [.one .sl]) (s, ()) rfl ?_)
 dsimp only
 have e0c := e0b.trans ec
 have tc := t.ext e0c
 have hnc : n ≤ hc.size := Nat.le_trans hn e0c.size
 refine wp_callW (c_fresh M tc hnc (hp.ext e0c) hf hA hz) fun tg vs h' hx => ?_
 obtain ⟨rfl, cd, g, rfl, F⟩ := hx
 refine ⟨rfl, (g.ps, ()), rfl, ?_⟩
 dsimp only
 have td := F.t
 have cT : Chg (wfoot T) h h' := Chg.pre e0c cd
 have hs0 : ∀ {x : Addr}, hb.size ≤ x.block → ¬ wfoot T x.block := fun {x} hx hw => by have := (tb.lo _ (wfoot_Z tb hw)).2; omega
 have osd : OwnPs hb.size h' s ((leftL T.enc T.cur.ps i ni).map (·.1)) := cd.own os fun x hx hw => hs0 (os.lt hx).1 hw
 have hll1 : (leftL T.enc T.cur.ps i ni).length ≤ 1 := by unfold leftL; split; split <;> simp; simp
 have hsl := OwnPs.len os
 rw [List.length_map] at hsl
 have hgl := OwnPs.len F.op
 rw [List.length_map] at hgl
 have hqn : g.qs.length ≤ 4 * l.length := by
  have h1 := pcs_le fun q hq => (F.pcs q hq).1
  rw [F.put] at h1; omega
 refine wp_append osd (Nat.le_trans ec.size cd.1) F.op.rd (cP_flat _) rfl (by show (s.len + g.ps.len) * 64 ≤ _; omega) (by omega) fun r1 he a1 b1 u1 d1 => ?_
 rw [← cP_append, ← List.map_append] at a1
 have ce : Chg (fun i => ∃ b, s.base = some b ∧ b.block = i) h' he := Chg.of_upd u1 fun x hx _ => ⟨x, hx, rfl⟩
 have snz : ∀ b, s.base = some b → ¬ g.Z b.block := fun b hb hz => by
  have h1 := (os.lt hb)
  rcases F.zn _ hz with hx | hx
  ·have := (tb.lo _ hx).2; omega
  ·omega
 have te : TextR S n he (T.at_ g) := td.chg ce fun i hi ⟨b, hb, e⟩ => snz b hb (e ▸ hi)
 have pcsE : ∀ q, q ∈ g.qs → PcR he (T.at_ g) q := fun q hq => (F.pcs q hq).1.chg ce fun i hi ⟨b, hb, e⟩ => snz b hb (e ▸ hi)
 have r1nz : ∀ b, r1.base = some b → ¬ g.Z b.block ∧ hb.size ≤ b.block := fun b hb => by
  refine ⟨fun hz => ?_, (a1.lt hb).1⟩
  rcases d1 b hb with hx | hx
  ·exact snz b hx hz
  ·have := (td.lo _ hz).2; omega
 refine wp_bind (fun tg vs h' => tg = 0 ∧ Chg (fun i => ∃ b, r1.base = some b ∧ b.block = i) he h' ∧ ∃ r2, vs = [slv r2] ∧ OwnPs hb.size h' r2 ((leftL T.enc T.cur.ps i ni ++ g.qs ++ rightL T.enc T.cur.ps j mj).map (·.1)) ∧ ∀ b, r2.base = some b → ¬ g.Z b.block) ?_ ?_
 ·cases hq : T.cur.ps[j]? with
  | none =>
   have hrr : rightL T.enc T.cur.ps j mj = [] := by unfold rightL; rw [hq]
   refine s_root (T := T.at_ g) te (wp_call (R := fun (y : Part × Bool × Unit) _ => y.1 = zP ∧ y.2.1 = false) (c_AtNo (O g.Z) te.cur.nd (Nat.le_of_lt (te.cur.room te.lim.2)) (by omega) (.inr ?_)) fun ⟨(y : Part), (ok : Bool), _⟩ h5 e5 ⟨hy, hok⟩ => ?_)
   ·have h1 : T.cur.t.list.length ≤ j := by rw [t.cur.ls, List.length_map]; exact List.getElem?_eq_none_iff.1 hq
    show ((List.length T.cur.t.list : Nat) : Int) ≤ _
    omega
   ·have hok : ok = false := hok
    subst hok
    dsimp only
    refine s_newO (bs := PB) zP (by decide) fun h6 e6 o6 => s_stoO (bs := PB) y o6 (flatP _) fun h7 o7 u7 => ?_
    have e57 : Ext he h7 := Upd.extN (e5.trans e6) u7 (by intro x hx; cases hx; exact e5.size)
    refine s_ifF (s_ret ⟨rfl, Chg.of_ext e57, r1, rfl, ?_, fun b hb => (r1nz b hb).1⟩)
    rw [hrr, List.append_nil]; exact a1.ext e57
  | some q =>
   have hx : T.cur.t.list[((j : Int)).toNat]? = some q.1 := by rw [Int.toNat_natCast, t.cur.ls, List.getElem?_map, hq]; rfl
   refine s_root (T := T.at_ g) te (wp_call (R := fun (y : Part × Bool × Unit) _ => y.1 = q.1 ∧ y.2.1 = true) (c_At (O g.Z) te.cur.nd te.cur.wf (Nat.le_of_lt (te.cur.room te.lim.2)) (by omega) hx) fun ⟨(y : Part), (ok : Bool), _⟩ h5 e5 ⟨hy, hok⟩ => ?_)
   have hok : ok = true := hok
   have hy : y = q.1 := hy
   subst hok; subst hy
   dsimp only
   refine s_newO (bs := PB) zP (by decide) fun h6 e6 o6 => s_stoO (bs := PB) q.1 o6 (flatP _) fun h7 o7 u7 => s_ifT ?_
   have e57 : Ext he h7 := Upd.extN (e5.trans e6) u7 (by intro x hx; cases hx; exact e5.size)
   have t7 := te.ext e57
   have hqm := List.mem_of_getElem? hq
   have pc := t7.cur.pcs q hqm
   have hmq := hmjq q hq
   refine wp_bind (fun tg vs h' => tg = 0 ∧ Ext h7 h' ∧ ∃ B : Addr, vs = [.pointer (some B)] ∧ OwnP h7.size h' B (tailP T.enc q.1 q.2 mj)) ?_ ?_
   ·refine c_cutB M (T := T.at_ g) (fin := fun A B => .ret 0 [.pointer (some B)]) t7 (x := q.1) (bs := q.2) pc o7 (by omega) (show ((mj : Nat) : Int) ≤ ((toks T.enc q.2).length : Nat) by omega) fun h9 A B e9 oA oB => s_ret ⟨rfl, e9, B, rfl, ?_⟩
    rw [Int.toNat_natCast] at oB; exact oB
   ·rintro tg vs h9 ⟨rfl, e9, B, rfl, oB⟩
    refine s_tag (wp_cast (tys := [.one .ptr]) (some B, ()) rfl ?_)
    dsimp only
    have e09 := e57.trans e9
    have okt := okT_toks (enc := T.enc) (hbT q hqm)
    have hcell : Sw.cell h9 ((B.add 2).add 0) = some (i64v ((toks T.enc q.2).drop mj).length) := by
     rw [add_zero']
     have := cells_iff.1 oB.cells 2 _ rfl
     rw [this]
     show some (Value.int .i64 (sumT ((toks T.enc q.2).drop mj)).1) = _
     rw [(sumT_is (okt.drop mj)).1]
    refine wp_grd rfl (wp_grd rfl (wp_load1 (b := .int .i64) ((B.add 2).add 0) _ rfl hcell (wp_ifB (fun hx => ?_) fun hx => ?_)))
    ·rw [gtI_iff, List.length_drop] at hx
     have hrr : rightL T.enc T.cur.ps j mj = [tailPc T.enc q mj] := by unfold rightL; rw [hq]; dsimp only; rw [if_pos (by omega)]
     refine s_getO (bs := PB) oB ?_
     have hr1 := OwnPs.len a1
     rw [List.length_map, List.length_append] at hr1
     refine wp_push (n := hb.size) (new := Bs.inj PB (tailP T.enc q.1 q.2 mj)) (a1.ext e09) (Nat.le_trans (Nat.le_trans ec.size cd.1) (Nat.le_trans ce.1 e09.size)) rfl (flatP _) rfl (by show (r1.len + 1) * 64 ≤ _; omega) (by omega) fun r2 h10 a10 b10 u10 d10 => s_ret ⟨rfl, ?_, r2, rfl, ?_, fun b hb => ?_⟩
     ·exact (Chg.of_ext e09).trans (Chg.of_upd u10 fun x hx _ => ⟨x, hx, rfl⟩) fun i _ x => x
     ·rw [hrr, List.map_append]
      show Own hb.size 7 h10 r2 (cP (_ ++ [tailP T.enc q.1 q.2 mj]))
      rw [cP_append, cP_one]; exact a10
     ·rcases d10 b hb with hx | hx
      ·exact (r1nz b hx).1
      ·intro hz; have := (te.lo _ hz).2; have := e09.size; omega
    ·rw [gtI_not, List.length_drop] at hx
     have hrr : rightL T.enc T.cur.ps j mj = [] := by unfold rightL; rw [hq]; dsimp only; rw [if_neg (by omega)]
     refine s_ret ⟨rfl, Chg.of_ext e09, r1, rfl, ?_, fun b hb => (r1nz b hb).1⟩
     rw [hrr, List.append_nil]; exact a1.ext e09
 rintro tg vs hf ⟨rfl, cf, r2, rfl, a2, z2⟩
 refine s_tag (wp_cast (tys := [.one .sl]) (r2, ()) rfl ?_)
 dsimp only
 have tf : TextR S n hf (T.at_ g) := te.chg cf fun i hi ⟨b, hb, e⟩ => (r1nz b hb).1 (e ▸ hi)
 have pcsF : ∀ q, q ∈ g.qs → PcR hf (T.at_ g) q := fun q hq => (pcsE q hq).chg cf fun i hi ⟨b, hb, e⟩ => (r1nz b hb).1 (e ▸ hi)
 have hright : ∀ q, q ∈ rightL T.enc T.cur.ps j mj → PcR hf (T.at_ g) q := fun q hq => by
  unfold rightL at hq
  cases hqi : T.cur.ps[j]? with
  | none => rw [hqi] at hq; cases hq
  | some x =>
   rw [hqi] at hq
   dsimp only at hq
   split at hq
   ·rename_i hlt
    rw [List.mem_singleton.1 hq]
    exact PcR.tail (T := T.at_ g) (tf.cur.pcs x (List.mem_of_getElem? hqi)) hlt
   ·cases hq
 have hleftF : ∀ q, q ∈ leftL T.enc T.cur.ps i ni → PcR hf (T.at_ g) q := fun q hq => by
  unfold leftL at hq
  cases hqi : T.cur.ps[i]? with
  | none => rw [hqi] at hq; cases hq
  | some x =>
   rw [hqi] at hq
   dsimp only at hq
   split at hq
   ·rename_i hlt
    rw [List.mem_singleton.1 hq]
    exact PcR.head (T := T.at_ g) (tf.cur.pcs x (List.mem_of_getElem? hqi)) hlt (hniq x hqi)
   ·cases hq
 have hmid : ∀ q, q ∈ leftL T.enc T.cur.ps i ni ++ g.qs ++ rightL T.enc T.cur.ps j mj → PcR hf (T.at_ g) q := fun q hq => by
  rcases List.mem_append.1 hq with hq | hq
  ·rcases List.mem_append.1 hq with hq | hq
   ·exact hleftF q hq
   ·exact pcsF q hq
  ·exact hright q hq
 have hsize : T.cur.t.list.length = T.cur.ps.length := by rw [t.cur.ls, List.length_map]
 refine s_root (T := T.at_ g) tf (s_root (T := T.at_ g) tf (wp_call (R := fun (x : Int × Unit) _ => x.1 = ((T.cur.t.list.length : Nat) : Int)) (Any.c_Size (I := part S g.Z) tf.cur.nd) fun ⟨(sz : Int), _⟩ hg eg hsz => ?_))
 have hsz : sz = _ := hsz
 rw [hsize] at hsz
 subst hsz
 dsimp only
 have tg := tf.ext eg
 refine s_ckC tg.c2 ?_
 rw [add_ok (by omega) (by omega), minI_eq]
 have hJ : min ((j : Int) + 1) (T.cur.ps.length : Int) = ((min (j + 1) T.cur.ps.length : Nat) : Int) := by omega
 rw [hJ]
 let Z2 : Nat → Prop := fun i => g.Z i ∨ hg.size ≤ i
 have hfr : Fresh (part S Z2) hg := fun i hi => .inr hi
 have nd2 : Nd (part S Z2) hg T.cur.root T.cur.t := part_mono tg.cur.nd fun i _ hi => .inl hi
 have hwM : ∀ x, x ∈ (leftL T.enc T.cur.ps i ni ++ g.qs ++ rightL T.enc T.cur.ps j mj).map (·.1) → VS (wtP x) (sumP x) := fun x hx => by
  obtain ⟨q, hq, rfl⟩ := List.mem_map.1 hx
  exact (hmid q hq).wt.2
 have its : Its (part S Z2) hg r2 ((leftL T.enc T.cur.ps i ni ++ g.qs ++ rightL T.enc T.cur.ps j mj).map (·.1)) := its_own (a2.ext eg) hwM
 have hWm := W_ps hmid
 have hmb : (bytesL (leftL T.enc T.cur.ps i ni ++ g.qs ++ rightL T.enc T.cur.ps j mj)).length ≤ 131072 + 4 * l.length := by
  have h1 : (bytesL (leftL T.enc T.cur.ps i ni)).length ≤ 65536 := by
   unfold leftL
   split
   ·rename_i q hq
    split
    ·have := (t.cur.pcs q (List.mem_of_getElem? hq)).len
     show (bytesL [headPc T.enc q ni]).length ≤ _
     unfold bytesL headPc; simp only [List.flatMap_cons, List.flatMap_nil, List.append_nil, List.length_take]; omega
    ·simp [bytesL]
   ·simp [bytesL]
  have h2 : (bytesL (rightL T.enc T.cur.ps j mj)).length ≤ 65536 := by
   unfold rightL
   split
   ·rename_i q hq
    split
    ·have := (t.cur.pcs q (List.mem_of_getElem? hq)).len
     show (bytesL [tailPc T.enc q mj]).length ≤ _
     unfold bytesL tailPc; simp only [List.flatMap_cons, List.flatMap_nil, List.append_nil, List.length_drop]; omega
    ·simp [bytesL]
   ·simp [bytesL]
  rw [bytesL_append, bytesL_append, List.length_append, List.length_append, F.put]; omega
 have hmt := (toksL_le (enc := T.enc) fun q hq => (hmid q hq).bytes).1
 have hfew := (t.cur.few t.lim.2).2
 have hWr : (part S Z2).W T.cur.t.list + (part S Z2).W ((leftL T.enc T.cur.ps i ni ++ g.qs ++ rightL T.enc T.cur.ps j mj).map (·.1)) ≤ 4398046511104 := by
  have h1 : (part S Z2).W T.cur.t.list ≤ 1099511627776 := hfew
  have h2 : (part S Z2).W ((leftL T.enc T.cur.ps i ni ++ g.qs ++ rightL T.enc T.cur.ps j mj).map (·.1)) = (toksL T.enc (leftL T.enc T.cur.ps i ni ++ g.qs ++ rightL T.enc T.cur.ps j mj)).length := hWm
  rw [h2]
  refine Nat.le_trans (Nat.add_le_add h1 (Nat.le_trans hmt hmb)) ?_
  omega
 have hrep := c_Replace (O Z2) (i := (i : Int)) (j := ((min (j + 1) T.cur.ps.length : Nat) : Int)) nd2 its tg.cur.wf (by omega) (by omega) (by show _ ≤ ((T.cur.t.list.length : Nat) : Int); omega) hWr hfr
 rw [← g_Replace S Z2] at hrep
 refine wp_call (R := fun (y : TR × Int × Unit) h' => y.2.1 = 0 ∧ ∃ t' : Bt Part, Nd (part S Z2) h' y.1.1 t' ∧ t'.list = T.cur.t.list.take ((i : Int)).toNat ++ (leftL T.enc T.cur.ps i ni ++ g.qs ++ rightL T.enc T.cur.ps j mj).map (·.1) ++ T.cur.t.list.drop (((min (j + 1) T.cur.ps.length : Nat) : Int)).toNat) (Gives.mono hrep fun y h' e ⟨h1, t', h2, h3, _⟩ => ⟨h1, t', h2, h3⟩) fun ⟨⟨(root' : Option Addr), _⟩, (er : Int), _⟩ hh eh ⟨_, t', nd', hl'⟩ => ?_
 have nd' : Nd (part S Z2) hh root' t' := nd'
 dsimp only
 have th := tg.ext eh
 refine wp_grd rfl (wp_grd rfl (s_setC' (.pointer root') (show Own n 1 hh ⟨some T.p, 4, 4⟩ [i64v T.enc, i64v T.limit, .pointer T.cur.root, slv g.ad] from th.ob) (by simp) rfl fun hk ok uk => s_ret ⟨rfl, rfl, ?_, ?_⟩))
 ·have c1 : Chg (wfoot T) h hf := (cT.trans ce fun i hi ⟨b, hb, e⟩ => by have := (os.lt hb).1; have := e0b.size; omega).trans cf fun i hi ⟨b, hb, e⟩ => by have := (r1nz b hb).2; have := e0b.size; omega
  exact (c1.ext (eg.trans eh)).trans (upd_chg uk) fun i _ e => .inl e
 ·have ok : Own n 1 hk ⟨some T.p, 4, 4⟩ [i64v T.enc, i64v T.limit, .pointer root', slv g.ad] := ok
  have hdJ : T.cur.ps.drop (min (j + 1) T.cur.ps.length) = T.cur.ps.drop (j + 1) := by
   by_cases hx : j + 1 ≤ T.cur.ps.length
   ·rw [Nat.min_eq_left hx]
   ·rw [Nat.min_eq_right (by omega), List.drop_length, List.drop_of_length_le (by omega)]
  have hls : t'.list = (T.cur.ps.take i ++ (leftL T.enc T.cur.ps i ni ++ g.qs ++ rightL T.enc T.cur.ps j mj) ++ T.cur.ps.drop (j + 1)).map (·.1) := by
   rw [hl', t.cur.ls, Int.toNat_natCast, Int.toNat_natCast, ← List.map_take, ← List.map_drop, hdJ]
   simp only [List.map_append]
  have hb1 := bytes_sub (List.take_sublist i T.cur.ps)
  have hb2 := bytes_sub (List.drop_sublist (j + 1) T.cur.ps)
  have hs := set_state (T := T.at_ g) (ps' := T.cur.ps.take i ++ (leftL T.enc T.cur.ps i ni ++ g.qs ++ rightL T.enc T.cur.ps j mj) ++ T.cur.ps.drop (j + 1)) th (m := hg.size) (fun i hi => (tg.lo i hi).2) ⟨by have := e0c.size; have := cd.1; have := ce.1; have := cf.1; have := eg.size; omega, eh.size⟩ nd' hls
   (fun q hq => by
    rcases List.mem_append.1 hq with hq | hq
    ·rcases List.mem_append.1 hq with hq | hq
     ·exact th.cur.pcs q (List.mem_of_mem_take hq)
     ·exact (hmid q hq).chg (Chg.of_ext (F := fun _ => False) (eg.trans eh)) fun _ _ x => x
    ·exact th.cur.pcs q (List.mem_of_mem_drop hq))
   (by rw [bytesL_append, bytesL_append, List.length_append, List.length_append]; omega) ok uk
  refine ⟨_, hs, ⟨rfl, rfl, rfl, rfl, fun i hi => ⟨.inl (F.zm i hi), ?_⟩, fun i hi => ?_, fun b hb => ?_⟩, F.all, ?_⟩
  ·have h1 := (t.lo i hi).2; have := e0c.size; have := cd.1; have := ce.1; have := cf.1; have := eg.size; have := eh.size; have := uk.1; omega
  ·rcases hi.1 with hx | hx
   ·exact (F.zn i hx).imp id fun h => by have := e0c.size; omega
   ·right; have := e0c.size; have := cd.1; have := ce.1; have := cf.1; have := eg.size; omega
  ·exact (F.adc b hb).imp id fun h => by have := e0c.size; omega
  ·show els T.enc (T.cur.ps.take i ++ (leftL T.enc T.cur.ps i ni ++ g.qs ++ rightL T.enc T.cur.ps j mj) ++ T.cur.ps.drop (j + 1)) = _
   have hq1 : els T.enc g.qs = l.map fun a => (a, -1) := by
    rw [els_new fun q hq => (F.pcs q hq).2, F.tks, List.map_map]; rfl
   have hl1 : els T.enc (leftL T.enc T.cur.ps i ni) = (match T.cur.ps[i]? with | some q => (elsP T.enc q).take ni | none => []) := by
    unfold leftL
    cases hq : T.cur.ps[i]? with
    | none => rfl
    | some q =>
     dsimp only
     by_cases hx : 0 < ni
     ·rw [if_pos hx, els_one, elsP_head (hbT q (List.mem_of_getElem? hq)) (hniq q hq)]
     ·rw [if_neg hx, show ni = 0 by omega]; simp [els]
   have hr1 : els T.enc (rightL T.enc T.cur.ps j mj) = (match T.cur.ps[j]? with | some q => (elsP T.enc q).drop mj | none => []) := by
    unfold rightL
    cases hq : T.cur.ps[j]? with
    | none => rfl
    | some q =>
     dsimp only
     by_cases hx : mj < (toks T.enc q.2).length
     ·rw [if_pos hx, els_one, elsP_tail (hbT q (List.mem_of_getElem? hq)) (hmjq q hq)]
     ·rw [if_neg hx, List.drop_of_length_le (by rw [elsP_len]; omega)]; simp [els]
   rw [els_append, els_append, els_append, els_append, hq1, hl1, hr1, eT, eD]
   simp only [List.append_assoc]
   all_goals rfl
end Go.Sw.Piece

set_option linter.unusedVariables false
set_option linter.unusedSimpArgs false
set_option maxRecDepth 100000
namespace Go.Sw.Piece
open Go.Sw.Any Go.Sw.Codec
open Go.Sw.Tree (iv s_putAll s_newP s_getP s_getT s_putP eqI_self Placed cell_own wp_whileG minI_eq)
variable {P : Program} {S : Ids} {h : Heap} {Q : Nat → List Value → Heap → Prop}
abbrev El := Int × Int
def one1 (E : List El) (e : EdD) : List El := E.take e.1.toNat ++ e.2.2.1.2.map (fun a => (a, -1)) ++ E.drop e.2.1.toNat
def allE (E : List El) (es : List EdD) : List El := es.foldr (fun e E => one1 E e) E
theorem allE_cons (E : List El) (e : EdD) (es : List EdD) : allE E (e :: es) = one1 (allE E es) e := rfl
def blen (enc : Int) (E : List El) : Nat := ((E.map (·.1)).flatMap (putF enc)).length
theorem blen_append (enc : Int) (a b : List El) : blen enc (a ++ b) = blen enc a + blen enc b := by simp [blen]
theorem blen_state {T : TX} {s : St} (r : StR S h T s) (he : known T.enc) : blen T.enc (els T.enc s.ps) = (bytesL s.ps).length := by
 unfold blen; rw [← (toksL_els he r.bytes).2.1]
theorem blen_one {enc : Int} {E : List El} {e : EdD} (hf : fitsE enc e.2.2.1.2) (h0 : 0 ≤ e.1) (h1 : e.1 ≤ e.2.1) : blen enc (one1 E e) ≤ blen enc E + 4 * e.2.2.1.2.length := by
 unfold one1
 have h2 := blen_append enc (E.take e.1.toNat) (E.drop e.1.toNat)
 rw [List.take_append_drop] at h2
 have h3 := blen_append enc ((E.drop e.1.toNat).take (e.2.1.toNat - e.1.toNat)) ((E.drop e.1.toNat).drop (e.2.1.toNat - e.1.toNat))
 rw [List.take_append_drop, List.drop_drop, show e.1.toNat + (e.2.1.toNat - e.1.toNat) = e.2.1.toNat by omega] at h3
 have h4 : blen enc (e.2.2.1.2.map fun a => ((a, -1) : El)) ≤ 4 * e.2.2.1.2.length := by
  have := (put_le hf).2
  unfold blen
  rw [List.map_map]
  have e2 : (List.map ((fun x : El => x.1) ∘ fun a => ((a, -1) : El)) e.2.2.1.2) = e.2.2.1.2 := by
   conv => rhs; rw [← List.map_id e.2.2.1.2]
   rfl
  rw [e2]; exact this
 rw [blen_append, blen_append]; omega
theorem puts_split {es : List EdD} {i : Nat} {e : EdD} (hi : es[i]? = some e) : (putsOf (es.drop i)).length = e.2.2.1.2.length + (putsOf (es.drop (i + 1))).length := by
 have hlt := (List.getElem?_eq_some_iff.1 hi).1
 have he := (List.getElem?_eq_some_iff.1 hi).2
 rw [List.drop_eq_getElem_cons hlt, he]; simp [putsOf]
theorem puts_drop_le (es : List EdD) (i : Nat) : (putsOf (es.drop i)).length ≤ (putsOf es).length := by
 have : putsOf es = putsOf (es.take i) ++ putsOf (es.drop i) := by unfold putsOf; rw [← List.flatMap_append, List.take_append_drop]
 rw [this, List.length_append]; omega
structure ChangeR (S : Ids) (n : Nat) (T : TX) (h0 h : Heap) (es : List EdD) (r : Int) (T' : TX) : Prop where
 ref : RefR T.enc T.limit (toksL T.enc T.cur.ps) es r
 t : TextR S n h T'
 nx : Nxt T T' h0.size
 els : els T.enc T'.cur.ps = if r = 0 then allE (els T.enc T.cur.ps) es else els T.enc T.cur.ps
 len : T'.A.length ≤ T.A.length + 4 * (putsOf es).length
theorem c_Change (M : Meth0 P S) {n : Nat} {T : TX} {x : Eds} (t : TextR S n h T) (hn : n ≤ h.size) (hok : ∀ h', Chg (wfoot T) h h' → (Sh.list EdSh).ok h' x) (hz : ∀ e, e ∈ x.2 → e.2.2.1.2 ≠ [] → ∀ a, e.2.2.1.1.base = some a → ¬ T.Z a.block)
  (hA : T.A.length + 4 * (putsOf x.2).length ≤ 400000000000) (hsm : (bytesL T.cur.ps).length ≤ T.limit) :
  wp P (F_Text_Change S (some T.p) x.1) h fun tg vs h' => tg = 0 ∧ Chg (wfoot T) h h' ∧ ∃ r T', vs = [i64v r] ∧ ChangeR S n T h h' x.2 r T' := by
 unfold F_Text_Change
 have ho := hok h (Chg.refl _ _)
 have hxl := ho.len
 have hcap := ho.2.1
 have hmax := ho.2.2.1
 refine wp_call (c_refuse M t ho (by omega) hsm) fun ⟨(r : Int), _⟩ h1 e1 hr => ?_
 have hr : RefR T.enc T.limit (toksL T.enc T.cur.ps) x.2 r := hr
 dsimp only
 refine wp_ifB (fun hc => ?_) fun hc => ?_
 ·rw [neI_iff] at hc
  exact s_ret ⟨rfl, Chg.of_ext e1, r, T, rfl, hr, t.ext e1, Nxt.refl _ _, by rw [if_neg hc], by omega⟩
 rw [neI_not] at hc
 subst hc
 obtain ⟨hmany, hpl, hfit, _⟩ : x.2.length ≤ 70000 ∧ Plc (toksL T.enc T.cur.ps).length 0 x.2 ∧ fitsE T.enc (putsOf x.2) ∧ True := by
  cases hr with
  | ok a b c d => exact ⟨a, b, c, trivial⟩
 have hlen : (toksL T.enc T.cur.ps).length = (els T.enc T.cur.ps).length := (els_len ..).symm
 have hbl := blen_state t.cur t.enc
 have hlim := t.lim
 have hlenI : subI .i64 (natI x.1.len) 1 = (x.2.length : Int) - 1 := by rw [natI_def, hxl, sub_ok (by omega) (by omega)]
 rw [hlenI]
 refine wp_whileG (G := Nat × TX) (fun g (s : Int × Unit) h' => s.1 = (g.1 : Int) - 1 ∧ g.1 ≤ x.2.length ∧ Chg (wfoot T) h h' ∧ TextR S n h' g.2 ∧ Nxt T g.2 h.size ∧ els T.enc g.2.cur.ps = allE (els T.enc T.cur.ps) (x.2.drop g.1) ∧
   lastTo 0 (x.2.take g.1) ≤ (els T.enc g.2.cur.ps).length ∧ (bytesL g.2.cur.ps).length ≤ (bytesL T.cur.ps).length + 4 * (putsOf (x.2.drop g.1)).length ∧ g.2.A.length ≤ T.A.length + 4 * (putsOf (x.2.drop g.1)).length) (fun g => g.1)
  (fun tg vs h' => tg = 2 ∧ vs = [] ∧ Chg (wfoot T) h h' ∧ ∃ T', TextR S n h' T' ∧ Nxt T T' h.size ∧ els T.enc T'.cur.ps = allE (els T.enc T.cur.ps) x.2 ∧ T'.A.length ≤ T.A.length + 4 * (putsOf x.2).length)
  (x.2.length, T) ⟨rfl, Nat.le_refl _, Chg.of_ext e1, t.ext e1, Nxt.refl _ _, by rw [List.drop_length]; rfl, ?_, Nat.le_add_right _ _, Nat.le_add_right _ _⟩ ?_ ?_
 ·rw [List.take_length, ← hlen]
  have : ∀ (es : List EdD) (a L : Int), a ≤ L → Plc L a es → lastTo a es ≤ L := by
   intro es
   induction es with
   | nil => intro a L h _; exact h
   | cons e es ih => intro a L h ⟨_, _, h3, h4⟩; exact ih _ _ h3 h4
  exact this _ _ _ (by omega) hpl
 ·rintro ⟨k, T1⟩ ⟨(s : Int), u⟩ h2 ⟨hs, hk, c2, t2, nx, hE, hlo, hby, hA1⟩
  dsimp only at hs hk t2 nx hE hlo hby hA1 ⊢
  subst hs
  refine wp_ifB (fun hc => ?_) fun hc => ?_
  ·rw [geI_iff] at hc
   obtain ⟨i, rfl⟩ : ∃ i, k = i + 1 := ⟨k - 1, by omega⟩
   have hi : ((i + 1 : Nat) : Int) - 1 = (i : Int) := by omega
   rw [hi]
   obtain ⟨e, hie⟩ : ∃ e, x.2[i]? = some e := ⟨x.2[i]'(by omega), List.getElem?_eq_getElem (by omega)⟩
   have hem := List.mem_of_getElem? hie
   have hpe := hpl.at hie
   have hlo0 := lastTo_lo (hpl.take i)
   have htk : x.2.take (i + 1) = x.2.take i ++ [e] := by rw [List.take_add_one, hie]; rfl
   rw [htk, lastTo_snoc] at hlo
   have hdr : x.2.drop i = e :: x.2.drop (i + 1) := by
    have hlt := (List.getElem?_eq_some_iff.1 hie).1
    have he := (List.getElem?_eq_some_iff.1 hie).2
    rw [List.drop_eq_getElem_cons hlt, he]
   have hps := puts_split hie
   have hpd := puts_drop_le x.2 i
   have hfe : fitsE T.enc e.2.2.1.2 := fun a ha => hfit a (by unfold putsOf; exact List.mem_flatMap.2 ⟨e, hem, ha⟩)
   have hsucc : allE (els T.enc T.cur.ps) (x.2.drop i) = one1 (els T.enc T1.cur.ps) e := by rw [hdr, allE_cons, ← hE]
   have hlo' : lastTo 0 (x.2.take i) ≤ (one1 (els T.enc T1.cur.ps) e).length := by
    unfold one1; rw [List.length_append, List.length_append, List.length_take]; omega
   refine wp_bind (fun tg vs h' => tg = 0 ∧ vs = [] ∧ Chg (wfoot T) h h' ∧ ∃ T2, TextR S n h' T2 ∧ Nxt T T2 h.size ∧ els T.enc T2.cur.ps = allE (els T.enc T.cur.ps) (x.2.drop i) ∧ (bytesL T2.cur.ps).length ≤ (bytesL T.cur.ps).length + 4 * (putsOf (x.2.drop i)).length ∧ T2.A.length ≤ T.A.length + 4 * (putsOf (x.2.drop i)).length) ?_ ?_
   ·refine s_edit (hok h2 c2) hie fun a h3 e3 _ o3 => ?_
    have l0 : ∀ {K : Int → Prog} {Q : Nat → List Value → Heap → Prop} {h'}, Ext h3 h' → wp P (K e.1) h' Q → wp P (.load (.one (.int .i64)) (shiftTo (some a) 0) K) h' Q := fun q hk => wp_load1 (b := .int .i64) _ e.1 rfl (cells_iff.1 (o3.ext q).cells 0 _ rfl) hk
    have l1 : ∀ {K : Int → Prog} {Q : Nat → List Value → Heap → Prop} {h'}, Ext h3 h' → wp P (K e.2.1) h' Q → wp P (.load (.one (.int .i64)) (shiftTo (some a) 1) K) h' Q := fun q hk => wp_load1 (b := .int .i64) _ e.2.1 rfl (cells_iff.1 (o3.ext q).cells 1 _ rfl) hk
    have l2 : ∀ {K : Sl → Prog} {Q : Nat → List Value → Heap → Prop} {h'}, Ext h3 h' → wp P (K e.2.2.1.1) h' Q → wp P (.load (.one .sl) (shiftTo (some a) 2) K) h' Q := fun q hk => wp_load1 (b := .sl) _ e.2.2.1.1 rfl (cells_iff.1 (o3.ext q).cells 2 _ rfl) hk
    have hlst : ∀ {h'}, Chg (wfoot T) h h' → Lst .i64 h' e.2.2.1.1 e.2.2.1.2 := fun c => Sh.lst ((hok _ c).el hie).2.2.1
    have hll := (hlst c2).len
    have c3 := c2.ext e3
    have E3 := Ext.refl h3
    refine bind_bool (e.1 < e.2.1 ∨ 0 < e.2.2.1.2.length) ?_ fun bb h4 e4 hb => wp_ifB (fun hx => ?_) fun hx => ?_
    ·refine l0 E3 (l1 E3 (wp_ifB (fun hx => s_ret ⟨rfl, Ext.refl _, true, rfl, ?_⟩) fun hx => l2 E3 (s_ret ⟨rfl, Ext.refl _, _, rfl, ?_⟩)))
     ·rw [ltI_iff] at hx; exact Iff.intro (fun _ => .inl hx) fun _ => rfl
     ·rw [ltI_not] at hx; rw [gtI_iff, natI_def]; omega
    ·have c4 := c3.ext e4
     have t4 := (t2.ext e3).ext e4
     have hp1 : T1.p = T.p := nx.p
     have he1 : T1.enc = T.enc := nx.enc
     refine l0 e4 (l1 e4 (l2 e4 ?_))
     rw [← hp1]
     refine wp_callW (c_replace M (T := T1) t4 (Nat.le_trans hn c4.1) (hlst c4) (by rw [he1]; exact hfe) (by omega) (fun hne b hb hzb => ?_) (by omega) hpe.2.1 (by rw [he1]; omega) (by omega)) fun tg vs h5 hx5 => ?_
     ·have h0 : b.block < h.size := by
       have hl0 := hlst (Chg.refl _ _)
       obtain ⟨y, l', hyl⟩ : ∃ y l', e.2.2.1.2 = y :: l' := by
        cases hh : e.2.2.1.2 with
        | nil => exact absurd hh hne
        | cons y l' => exact ⟨y, l', rfl⟩
       obtain ⟨b', eb, cb⟩ := hl0.rd.at (i := 0) (by rw [hyl]; simp)
       rw [hb] at eb; cases eb
       have := cell_lt cb
       rw [add_block] at this; exact this
      rcases nx.zn _ hzb with hy | hy
      ·exact hz e hem hne b hb hy
      ·omega
     ·obtain ⟨rfl, rfl, c5, T2, t5, nx5, hA5, hE5⟩ := hx5
      refine ⟨rfl, (), rfl, s_ret ⟨rfl, rfl, ?_, T2, t5, nx.trans nx5 c4.1, ?_, ?_, ?_⟩⟩
      ·exact c4.trans c5 fun i hi hw => (nx.foot hw).elim id fun h => by omega
      ·rw [hsucc]; rw [he1] at hE5; exact hE5
      ·have h6 := blen_state t5.cur t5.enc
       have h7 := blen_state t2.cur t2.enc
       rw [nx5.enc, he1] at h6
       rw [he1] at h7 hE5
       rw [← h6, hE5]
       have h8 := blen_one (E := els T.enc T1.cur.ps) hfe (by omega) hpe.2.1
       unfold one1 at h8
       rw [h7] at h8
       omega
      ·rw [hA5, List.length_append]
       have := (put_le hfe).2
       rw [he1]; omega
    ·have hno : ¬ (e.1 < e.2.1 ∨ 0 < e.2.2.1.2.length) := fun k => by rw [hb.2 k] at hx; cases hx
     have hnil : e.2.2.1.2 = [] := List.eq_nil_of_length_eq_zero (by omega)
     refine s_ret ⟨rfl, rfl, c3.ext e4, T1, (t2.ext e3).ext e4, nx, ?_, by omega, by omega⟩
     rw [hsucc]
     unfold one1
     rw [hnil, show e.2.1 = e.1 by omega]
     simp
   ·rintro tg vs h3 ⟨rfl, rfl, c3, T2, t3, nx3, hE3, hb3, hA3⟩
    refine s_tag (s_cast0 ?_)
    rw [sub_ok (by omega) (by omega)]
    exact s_ret ⟨fun _ => ⟨(i, T2), ((i : Int) - 1, ()), rfl, ⟨rfl, by dsimp only; omega, c3, t3, nx3, hE3, by dsimp only; rw [hE3, hsucc]; exact hlo', hb3, hA3⟩, by dsimp only; omega⟩, fun h => absurd rfl h⟩
  ·rw [geI_not] at hc
   have : k = 0 := by omega
   subst this
   exact s_ret ⟨fun h => absurd h (by decide), fun _ => ⟨rfl, rfl, c2, T1, t2, nx, hE, hA1⟩⟩
 ·rintro tg vs h2 ⟨rfl, rfl, c2, T1, t2, nx, hE, hA1⟩
  exact s_tag (s_cast0 (s_ret ⟨rfl, c2, 0, T1, rfl, hr, t2, nx, by rw [if_pos rfl]; exact hE, hA1⟩))
end Go.Sw.Piece

set_option linter.unusedVariables false
set_option linter.unusedSimpArgs false
set_option maxRecDepth 100000
namespace Go.Sw.Piece
open Go.Sw.Any Go.Sw.Codec
open Go.Sw.Tree (iv s_putAll s_newP s_getP s_getT s_putP eqI_self Placed cell_own wp_whileG minI_eq)
variable {P : Program} {S : Ids} {h : Heap} {Q : Nat → List Value → Heap → Prop}
structure Cl0 (P : Program) (S : Ids) : Prop where
 it : ∀ (y : Value) (a b : Option Addr), Dyn P (.func (.func S.f_Tree_part_Items_1) #[] #[.pointer a, .pointer b]) [y] (F_Tree_part_Items_1 S y a b)
 wk : ∀ (p : Option Addr) (i : Int) (a b : Option Addr), Dyn P (.func (.func S.f_Tree_part_Items_1_1) #[] #[.pointer a, .pointer b]) [.pointer p, iv i] (F_Tree_part_Items_1_1 S p i a b)
 atoms : ∀ (a t : Int) (p : Option Addr), Dyn P (.func (.func S.f_Text_Atoms_1) #[] #[.pointer p]) [iv a, iv t] (F_Text_Atoms_1 S a t p)
structure Cl1 (P : Program) (S : Ids) : Prop extends Cl0 P S where
 tags : ∀ (a t : Int) (p : Option Addr), Dyn P (.func (.func S.f_Text_Tags_1) #[] #[.pointer p]) [iv a, iv t] (F_Text_Tags_1 S a t p)
structure Cl (P : Program) (S : Ids) : Prop extends Cl1 P S where
 chunks : ∀ (y : Value) (a b : Option Addr), Dyn P (.func (.func S.f_Text_Chunks_1) #[] #[.pointer a, .pointer b]) [y] (F_Text_Chunks_1 S y a b)
instance : Coe (Cl P S) (Cl1 P S) := ⟨Cl.toCl1⟩
instance : Coe (Cl1 P S) (Cl0 P S) := ⟨Cl1.toCl0⟩
theorem Cl0.clos (C : Cl0 P S) (Z : Nat → Prop) : Clos P (part S Z) := ⟨fun y a b => C.it y a b, fun p i a b => C.wk p i a b⟩
structure ItR (h : Heap) (root : Option Addr) (i : Int) (a b : Addr) : Prop where
 ca : Sw.cell h a = some (.pointer root)
 cb : Sw.cell h b = some (iv i)
theorem c_ItemsF {p : Option Addr} {i : Int} : Gives P (F_Tree_part_Items S (p, ()) i) [.one .any] h fun (y : Value × Unit) h' => ∃ a b, y.1 = .func (.func S.f_Tree_part_Items_1) #[] #[.pointer (some a), .pointer (some b)] ∧ ItR h' p i a b ∧ h.size ≤ a.block ∧ h.size ≤ b.block := by
 unfold F_Tree_part_Items Gives
 refine s_newP p fun h1 e1 o1 => fun el => ?_
 have e2 : Ext h1 (h1.push (.cells [iv i].toArray el)) := Ext.push ..
 have q2 : Own h1.size 1 (h1.push (.cells [iv i].toArray el)) ⟨some ⟨h1.size, 0, none⟩, 1, 1⟩ [iv i] := own_alloc rfl (by decide) (by decide)
 generalize (h1.push (.cells [iv i].toArray el)) = h2 at e2 q2 ⊢
 exact s_ret ⟨rfl, e1.trans e2, (_, ()), rfl, _, _, rfl, ⟨cell_own (o1.ext e2), cell_own q2⟩, Nat.le_refl _, e1.size⟩
theorem wp_rangeP (C : Cl0 P S) {n : Nat} {T : TX} {i : Int} {a b : Addr} {body : Option Addr × Unit → Prog} {K : Nat → Prog} (t : TextR S n h T) (hi : fitsI .i64 i) (it : ItR h T.cur.root i a b) (J : Nat → Heap → Prop) (F : Nat → Heap → Prop)
  (sJ : ∀ k a b, J k a → Chg (own h.size 4) a b → J k b) (sF : ∀ k a b, F k a → Chg (own h.size 4) a b → F k b)
  (hr : ∀ k q h1 c, (T.cur.ps.drop i.toNat)[k]? = some q → J k h1 → h.size + 4 ≤ h1.size → OwnP (h.size + 4) h1 c q.1 → wp P (body (some c, ())) h1 fun tag _ h2 => Held (fun i => own h.size 4 i ∨ ((T.Z i ∨ i = a.block ∨ i = b.block) ∧ i < h.size)) h1 h2 ∧ (tag = 0 → J (k + 1) h2) ∧ (tag ≠ 0 → F tag h2))
  (j0 : J 0 h)
  (hk : ∀ j h5, h.size + 2 ≤ h5.size → (j = 0 ∧ J (T.cur.ps.drop i.toNat).length h5 ∨ j ≠ 0 ∧ F j h5) → wp P (K j) h5 fun t vs h6 => Held (own h.size 1) h5 h6 ∧ ∀ h7, Chg (own h.size 1) h6 h7 → h7.size = h6.size → Q t vs h7) :
  wp P (.range (.func (.func S.f_Tree_part_Items_1) #[] #[.pointer (some a), .pointer (some b)]) [.agg PB] [.one .ptr] (fun (r : Part × Unit) =>
   .alloc (Bs.inj PB zP) fun (c : Addr) => .store (some c) (Bs.inj PB r.1) <| .ret 0 [.pointer (some c)]) body K) h Q := by
 let Z : Nat → Prop := fun i => T.Z i ∨ i = a.block ∨ i = b.block
 have nd : Nd (part S Z) h T.cur.root T.cur.t := part_mono t.cur.nd fun _ _ h => .inl h
 have itg := iter_items (part_ok S Z (P := P)) (C.clos Z) nd (Nat.le_of_lt (t.cur.room t.lim.2)) hi it.ca it.cb (.inr (.inl rfl)) (.inr (.inr rfl))
 refine wp_range (A := AL (part S Z) (T.cur.t.list.drop i.toNat)) (N := (T.cur.t.list.drop i.toNat).length) (Z := Z) (m := 2) (h0 := h) itg (Held.refl _ _) J F sJ sF (fun k hp h1 args ⟨r, _, e⟩ => ⟨(r, ()), e⟩) ?_ j0 ?_
 ·rintro k hp h1 ⟨x, u⟩ hkN j hps c hs1 hz1 ⟨r, hrr, hre⟩
  have hx : Bs.inj PB x = Bs.inj PB r := by
   have h1 := congrArg (fun l => l.head?) hre
   simp only [Ts.inj, List.head?_cons, Option.some.injEq] at h1
   have h2 : (Value.agg (Bs.inj PB x).toArray) = Value.agg (Bs.inj PB r).toArray := h1
   injection h2 with h2
   exact List.toArray_inj h2
  dsimp only
  rw [hx]
  have hq : ∃ q, (T.cur.ps.drop i.toNat)[k]? = some q ∧ r = q.1 := by
   have h1 : (T.cur.t.list.drop i.toNat)[k]? = some r := hrr
   rw [t.cur.ls, ← List.map_drop, List.getElem?_map] at h1
   cases hq : (T.cur.ps.drop i.toNat)[k]? with
   | none => rw [hq] at h1; cases h1
   | some q => rw [hq] at h1; exact ⟨q, rfl, (Option.some.inj h1).symm⟩
  obtain ⟨q, hq, rfl⟩ := hq
  refine s_newO (bs := PB) zP (by decide) fun h2 e2 o2 => s_stoO (bs := PB) q.1 o2 (flatP _) fun h3 o3 u3 => s_ret ⟨rfl, (some ⟨h1.size, 0, none⟩, ()), rfl, ?_, fun h3' c3 hs3 => ?_⟩
  ·exact Held.of_ext (Upd.extN e2 u3 (by intro z hz; cases hz; exact Nat.le_refl _))
  ·have e13 : Ext h1 h3 := Upd.extN e2 u3 (by intro z hz; cases hz; exact Nat.le_refl _)
   refine hr k q h3' _ hq ?_ (by have := e13.size; omega) ((c3.own o3 fun z hz hw => by cases hz; have := hw.2; dsimp only at this; omega).mono (by omega))
   exact sJ _ _ _ (sJ _ _ _ (sJ _ _ _ j c) (Chg.of_ext e13)) c3
 ·intro j h5 hs5 hz5 hx
  refine hk j h5 hs5 ?_
  have : (T.cur.t.list.drop i.toNat).length = (T.cur.ps.drop i.toNat).length := by rw [t.cur.ls, List.length_drop, List.length_drop, List.length_map]
  rw [← this]; exact hx
theorem s_copyAt {n : Nat} {k : IntKind} {s x : Sl} {pre mid post l : List Int} {i : Nat} {K : Nat → Prog} (ho : OwnL n k h s (pre ++ mid ++ post)) (hx : Lst k h x l) (hl : l.length = mid.length) (h0 : 0 < l.length) (hi : i = pre.length)
  (hk : ∀ h', OwnL n k h' s (pre ++ l ++ post) → Upd s h h' → h'.size = h.size → wp P (K l.length) h' Q) : wp P (.copy 1 ⟨cutBase s.base s.cap i 1, subN s.len i, subN s.cap i⟩ x K) h Q := by
 subst hi
 have hxl := hx.len
 have hsl := ho.len
 simp only [List.length_append] at hsl
 obtain ⟨o1, o2, o3, o4⟩ := ho.own
 cases hb : s.base with
 | none => rw [hb] at o4; simp only at o4; omega
 | some a =>
  rw [hb] at o4
  obtain ⟨b, off, spot⟩ := a
  obtain ⟨e0, e1, e2, cs, elem, e3, e4, e5⟩ := o4
  simp only at e0 e1 e2 e3
  subst e0; subst e1
  have hcut : cutBase (some (⟨b, 0, none⟩ : Addr)) s.cap pre.length 1 = some ⟨b, pre.length, none⟩ := by
   unfold cutBase; rw [if_neg (by omega)]; simp [add_mk]
  rw [hcut]
  have hmin : min x.len (subN s.len pre.length) = l.length := by unfold subN; omega
  obtain ⟨w, cs', c1, c2, c3, c4, c5, c6⟩ := puts_block (vs := l.map (.int k)) (i := 0) (off := pre.length) e3 (by intro y hy; obtain ⟨z, _, rfl⟩ := List.mem_map.1 hy; rfl) (by rw [List.length_map]; simp at e4; omega)
  refine ⟨l.map (.int k), ?_, ?_⟩
  ·rw [hmin]
   have := hx.rd.firsts
   rw [hxl] at this; exact this
  ·dsimp only
   rw [hmin]
   refine ⟨w, hk _ ⟨⟨by simp at o1 ⊢; omega, o2, o3, ?_⟩, ?_⟩ ⟨by unfold puts; omega, fun j hj hne => c6 j fun e => (hne _ hb) e.symm, fun a e => by unfold puts; rw [thaw_putFrom]; exact e⟩ (by unfold puts; omega)⟩
   ·rw [hb]
    refine ⟨rfl, rfl, e2, cs', elem, c1, by rw [c2, e4], fun j v hj => ?_⟩
    rw [List.map_append, List.map_append] at hj
    by_cases hj1 : j < pre.length
    ·rw [List.append_assoc, List.getElem?_append_left (by rw [List.length_map]; exact hj1)] at hj
     rw [c4 j (by omega)]
     exact e5 j v (by rw [List.map_append, List.map_append, List.append_assoc, List.getElem?_append_left (by rw [List.length_map]; exact hj1)]; exact hj)
    ·by_cases hj2 : j < pre.length + l.length
     ·rw [List.getElem?_append_left (by simp; omega), List.getElem?_append_right (by simp; omega), List.length_map] at hj
      have := c3 (j - pre.length) v hj
      rw [show pre.length + 0 + (j - pre.length) = j by omega] at this; exact this
     ·rw [List.getElem?_append_right (by simp; omega)] at hj
      rw [c4 j (by simp; omega)]
      refine e5 j v ?_
      rw [List.map_append, List.map_append, List.getElem?_append_right (by simp; omega)]
      simp only [List.length_append, List.length_map] at hj ⊢
      rw [show j - (pre.length + mid.length) = j - (pre.length + l.length) by omega]; exact hj
   ·intro y hy
    rcases List.mem_append.1 hy with hy | hy
    ·rcases List.mem_append.1 hy with hy | hy
     ·exact ho.wf y (List.mem_append_left _ (List.mem_append_left _ hy))
     ·exact hx.wf y hy
    ·exact ho.wf y (List.mem_append_right _ hy)
end Go.Sw.Piece

set_option linter.unusedVariables false
set_option linter.unusedSimpArgs false
set_option maxRecDepth 100000
namespace Go.Sw.Piece
open Go.Sw.Any Go.Sw.Codec
open Go.Sw.Tree (iv s_putAll s_newP s_getP s_getT s_putP eqI_self Placed cell_own wp_whileG minI_eq)
variable {P : Program} {S : Ids} {h : Heap} {Q : Nat → List Value → Heap → Prop}
theorem s_mkZ {k : IntKind} {bytes n : Nat} {K : Sl → Prog} (h1 : n < 2 ^ 63) (h2 : bytes * n ≤ 2 ^ 48) (hk : ∀ h' r, Ext h h' → OwnL h.size k h' r (List.replicate n 0) → wp P (K r) h' Q) : wp P (.mk bytes [.int k 0] (n : Int) (n : Int) K) h Q := by
 refine ⟨⟨by omega, Int.le_refl _, by omega, by exact_mod_cast h2⟩, fun elem => hk _ _ (Ext.push ..) ⟨⟨by simp, by simp, by dsimp only; omega, ?_⟩, fun x hx => by rw [(List.mem_replicate.1 hx).2]; exact fits_zero k⟩⟩
 refine ⟨rfl, rfl, Nat.le_refl _, _, elem, Array.getElem?_push_size, ?_, fun i v hi => ?_⟩
 ·rw [zeros_one]; simp
 ·rw [zeros_one]
  rw [List.map_replicate] at hi
  rw [List.getElem?_toArray]
  simpa using hi
theorem s_new1 (v : Value) {K : Addr → Prog} (hk : ∀ h', Ext h h' → Own h.size 1 h' ⟨some ⟨h.size, 0, none⟩, 1, 1⟩ [v] → h'.size = h.size + 1 → wp P (K ⟨h.size, 0, none⟩) h' Q) : wp P (.alloc [v] K) h Q :=
 fun el => hk _ (Ext.push ..) (own_alloc rfl (by decide) (by decide)) (by simp)
abbrev Cel (n : Nat) (h : Heap) (a : Addr) (v : Value) : Prop := Own n 1 h ⟨some a, 1, 1⟩ [v]
theorem s_cel {n : Nat} {a : Addr} {b : B} {x : b.den} {K : b.den → Prog} (o : Cel n h a (b.inj x)) (hk : wp P (K x) h Q) : wp P (.load (.one b) (some a) K) h Q := wp_load1 a x rfl (cell_own o) hk
theorem s_celput {n : Nat} {a : Addr} {v : Value} (w : Value) {K : Prog} (o : Cel n h a v) (hw : flat w = true) (hk : ∀ h', Cel n h' a w → Upd ⟨some a, 1, 1⟩ h h' → wp P K h' Q) : wp P (.store (some a) [w] K) h Q :=
 s_putAll [w] o rfl (by intro u hu; rw [List.mem_singleton.1 hu]; exact hw) hk
theorem s_newput (z w : Value) {K : Addr → Prog} (hw : flat w = true) (hk : ∀ h', Ext h h' → Cel h.size h' ⟨h.size, 0, none⟩ w → wp P (K ⟨h.size, 0, none⟩) h' Q) : wp P (.alloc [z] fun a => .store (some a) [w] (K a)) h Q :=
 s_new1 z fun h1 e1 o1 _ => s_celput w o1 hw fun h2 o2 u2 => hk h2 (Upd.extN e1 u2 (by intro x hx; cases hx; exact Nat.le_refl _)) o2
theorem Keep.chg {n : Nat} {F : Nat → Prop} {a b c : Heap} (k : Keep n a b) (c' : Chg F b c) (hn : n ≤ b.size) (hf : ∀ i, F i → n ≤ i) : Keep n a c := Keep.trans k (c'.keep hn fun i hi x => by have := hf i x; omega)
end Go.Sw.Piece

set_option linter.unusedVariables false
set_option linter.unusedSimpArgs false
set_option maxRecDepth 100000
namespace Go.Sw.Piece
open Go.Sw.Any Go.Sw.Codec
open Go.Sw.Tree (iv s_putAll s_newP s_getP s_getT s_putP eqI_self Placed cell_own wp_whileG minI_eq)
variable {P : Program} {S : Ids} {h : Heap} {Q : Nat → List Value → Heap → Prop}
theorem elsF_get (tag : Int) : ∀ (ts : List (Int × Int)) (o w : Nat) (t : Int × Int), ts[w]? = some t → (elsF tag o ts)[w]? = some (t.1, if tag < 0 then -1 else tag + ((o + offs (ts.take w) : Nat) : Int))
 | [], o, w, t, h => by simp at h
 | x :: ts, o, 0, t, h => by simp at h; subst h; simp [elsF, offs]
 | x :: ts, o, w + 1, t, h => by
  have := elsF_get tag ts (o + x.2.toNat) w t (by simpa using h)
  simp only [elsF, List.getElem?_cons_succ, List.take_succ_cons, offs_cons]
  rw [this, Nat.add_assoc]
structure See (P : Program) (see : Value) (f : El → Int) (cc : Addr) : Prop where
 flat : flat see = true
 go : ∀ (h : Heap) (m : Nat) (e : El) (s : Sl) (l : List Int) (Q : Nat → List Value → Heap → Prop) (K : Unit → Prog), m ≤ h.size → Cel m h cc (slv s) → OwnL m .i64 h s l → fitsI .i64 e.1 → fitsI .i64 e.2 → l.length ≤ 1099511627776 → (∀ x, s.base = some x → x.block ≠ cc.block) →
  (∀ h' s', Cel m h' cc (slv s') → OwnL m .i64 h' s' (l ++ [f e]) → Chg (fun i => i = cc.block ∨ ∃ x, s.base = some x ∧ x.block = i) h h' → (∀ x, s'.base = some x → s.base = some x ∨ h.size ≤ x.block) → wp P (K ()) h' Q) → wp P (.callv see [iv e.1, iv e.2] [] K) h Q
theorem see_push {m : Nat} {cc : Addr} {s : Sl} {l : List Int} {v : Int} {K : Prog} (hm : m ≤ h.size) (oc : Cel m h cc (slv s)) (ol : OwnL m .i64 h s l) (hv : fitsI .i64 v) (hl : l.length ≤ 1099511627776) (hne : ∀ x, s.base = some x → x.block ≠ cc.block)
  (hk : ∀ h' s', Cel m h' cc (slv s') → OwnL m .i64 h' s' (l ++ [v]) → Chg (fun i => i = cc.block ∨ ∃ x, s.base = some x ∧ x.block = i) h h' → (∀ x, s'.base = some x → s.base = some x ∨ h.size ≤ x.block) → wp P K h' Q) :
  wp P (.load (.one .sl) (some cc) fun (l1 : Sl) => .alloc [iv v] fun (a2 : Addr) => .append 1 8 [iv 0] l1 ⟨some a2, 1, 1⟩ fun (l3 : Sl) => .store (some cc) [slv l3] K) h Q := by
 refine s_cel (b := .sl) (x := s) oc (s_push ol hm hv (by omega) (by omega) fun r h1 k1 o1 u1 b1 => ?_)
 have c1 : Chg (fun i => ∃ x, s.base = some x ∧ x.block = i) h h1 := Chg.of_upd u1 fun x hx _ => ⟨x, hx, rfl⟩
 have hcc : cc.block < h.size := (oc.lt rfl).2
 refine s_celput (slv r) (c1.own oc fun x hx ⟨y, hy, e⟩ => by cases hx; exact hne y hy e) rfl fun h2 o2 u2 => hk h2 r o2 (o1.upd u2 fun a b ha hb => ?_) ?_ b1
 ·cases hb
  rcases b1 a ha with hx | hx
  ·exact (hne a hx).symm
  ·omega
 ·exact (c1.mono fun i _ e => .inr e).trans ((upd_chg u2).mono fun i _ e => .inl e) fun i _ x => x
theorem see_atoms (C : Cl0 P S) (cc : Addr) : See P (.func (.func S.f_Text_Atoms_1) #[] #[.pointer (some cc)]) (·.1) cc :=
 ⟨rfl, fun h m e s l Q K hm oc ol h1 h2 hl hne hk => wp_dyn (C.atoms _ _ _) (see_push hm oc ol h1 hl hne fun h' s' a b c d => s_ret ⟨rfl, (), rfl, hk h' s' a b c d⟩)⟩
def cutL (E : List El) (from_ to : Int) : List El := (E.take (min to E.length).toNat).drop (max from_ 0).toNat
structure WJ (S : Ids) (P : Program) (n : Nat) (T : TX) (h0 : Heap) (hr m0 : Nat) (a1 a2 a7 a8 cc : Addr) (see : Value) (f : El → Int) (R : List El) (m cnt v : Nat) (h : Heap) (s : Sl) : Prop where
 c : Chg (fun i => i = cc.block) h0 h
 sz : hr ≤ h.size
 t : TextR S n h T
 o1 : Cel h0.size h a1 (.pointer (some T.p))
 o2 : Cel h0.size h a2 see
 o7 : Cel h0.size h a7 (i64v ((m - v : Nat) : Int))
 o8 : Cel h0.size h a8 (i64v ((cnt - (v - m) : Nat) : Int))
 oc : Cel m0 h cc (slv s)
 ol : OwnL m0 .i64 h s (((R.take v).drop m).map f)
 sb : ∀ x, s.base = some x → hr + 4 ≤ x.block ∧ 0 < ((R.take v).drop m).length
 lt : a1.block < hr ∧ a2.block < hr ∧ a7.block < hr ∧ a8.block < hr ∧ cc.block < h0.size ∧ h0.size ≤ hr
variable {n : Nat} {T : TX} {h0 : Heap} {hr m0 : Nat} {a1 a2 a7 a8 cc : Addr} {see : Value} {f : El → Int} {R : List El} {m cnt v : Nat} {s : Sl}
theorem WJ.chg {h' : Heap} {F : Nat → Prop} (j : WJ S P n T h0 hr m0 a1 a2 a7 a8 cc see f R m cnt v h s) (c : Chg F h h') (hF : ∀ i, F i → hr ≤ i ∧ ∀ x, s.base = some x → x.block ≠ i) (hz : ∀ i, T.Z i → i < h0.size) : WJ S P n T h0 hr m0 a1 a2 a7 a8 cc see f R m cnt v h' s := by
 obtain ⟨l1, l2, l7, l8, lc, lh⟩ := j.lt
 exact ⟨j.c.trans (c.mono fun i _ x => x) fun i hi x => by have := (hF i x).1; omega, Nat.le_trans j.sz c.1, j.t.chg c fun i hi x => by have := (hF i x).1; have := hz i hi; omega,
  c.own j.o1 fun x hx y => by cases hx; have := (hF _ y).1; omega, c.own j.o2 fun x hx y => by cases hx; have := (hF _ y).1; omega, c.own j.o7 fun x hx y => by cases hx; have := (hF _ y).1; omega, c.own j.o8 fun x hx y => by cases hx; have := (hF _ y).1; omega,
  c.own j.oc fun x hx y => by cases hx; have := (hF _ y).1; omega, c.ownL j.ol fun x hx y => (hF _ y).2 x hx rfl, j.sb, j.lt⟩
theorem WJ.ext {h' : Heap} (j : WJ S P n T h0 hr m0 a1 a2 a7 a8 cc see f R m cnt v h s) (c : Ext h h') (hz : ∀ i, T.Z i → i < h0.size) : WJ S P n T h0 hr m0 a1 a2 a7 a8 cc see f R m cnt v h' s :=
 j.chg (F := fun _ => False) (Chg.of_ext c) (fun i x => x.elim) hz
theorem own_ne {k : IntKind} {n' : Nat} {l : List Int} {c x : Addr} {q : Part} (o : OwnL m0 k h s l) (hl : 0 < l.length) (hx : s.base = some x) (oc : OwnP n' h c q) : x.block ≠ c.block := by
 intro e
 obtain ⟨_, _, _, o4⟩ := id o.own
 rw [hx] at o4
 obtain ⟨x0, x1, _⟩ := o4
 obtain ⟨_, _, _, c4⟩ := id oc
 obtain ⟨c0, c1, _⟩ := c4
 obtain ⟨y, ey, cy⟩ := o.lst.rd.at (i := 0) hl
 rw [hx] at ey; cases ey
 have cc := cells_iff.1 oc.cells 0 _ rfl
 have : x = c := by
  obtain ⟨xb, xo, xs⟩ := x
  obtain ⟨cb, co, cs⟩ := c
  dsimp only at e x0 x1 c0 c1
  subst e; subst x0; subst x1; subst c0; subst c1; rfl
 rw [this] at cy
 rw [cc] at cy
 cases cy
theorem told_succ {E : El} (hv : R[v]? = some E) (hm : m ≤ v) : (R.take (v + 1)).drop m = (R.take v).drop m ++ [E] := by
 rw [List.take_add_one, hv]
 rw [List.drop_append_of_le_length (by rw [List.length_take]; have := (List.getElem?_eq_some_iff.1 hv).1; omega)]; rfl
theorem told_skip (hm : v < m) : (R.take (v + 1)).drop m = [] ∧ (R.take v).drop m = [] := by
 constructor <;> exact List.drop_of_length_le (by rw [List.length_take]; omega)
theorem c_pass (hs : See P see f cc) {c : Addr} {q : Part} {E : El} {tag at_ : Int} {nr : Nat} {W : Nat → Prop} (j : WJ S P n T h0 hr m0 a1 a2 a7 a8 cc see f R m cnt v h s) (hm0 : m0 ≤ h0.size) (hz : ∀ i, T.Z i → i < h0.size) (hcz : ¬ T.Z cc.block) (hd : a1.block ≠ a7.block ∧ a1.block ≠ a8.block ∧ a2.block ≠ a7.block ∧ a2.block ≠ a8.block ∧ a7.block ≠ a8.block)
  (hge : h0.size ≤ a1.block ∧ h0.size ≤ a2.block ∧ h0.size ≤ a7.block ∧ h0.size ≤ a8.block) (hv : R[v]? = some E) (hlt : v - m < cnt) (hbig : m ≤ 1099511627776 ∧ cnt ≤ 1099511627776 ∧ v ≤ 1099511627776) (oc : OwnP (hr + 4) h c q) (htag : q.2.1 = tag) (hE : E.2 = if tag < 0 then -1 else tag + at_) (hfit : fitsI .i64 E.1 ∧ fitsI .i64 E.2 ∧ -9223372036854775808 ≤ tag + at_ ∧ tag + at_ ≤ 9223372036854775807)
  (hW : ∀ i, W i → i ≠ a7.block ∧ i ≠ a8.block ∧ i ≠ cc.block ∧ i < hr + 4) :
  wp P (.bind
     (.load (.one (.int .i64)) (some a7) fun (n239 : Int) =>
     ifB (gtI n239 0)
      (.load (.one (.int .i64)) (some a7) fun (n240 : Int) =>
      .store (some a7) [i64v (subI .i64 n240 1)] <|
      .ret 0 []) <|
     .bind
      (grd (someB (some c)) <|
      .load (.one (.int .i64)) (shiftTo (some c) 1) fun (n252 : Int) =>
      ifB (ltI n252 0)
       (.load (.one .any) (some a2) fun (c253 : Value) =>
       .callv c253 [i64v E.1, i64v (-1)] [] fun (u254 : Unit) =>
       .ret 0 []) <|
      .load (.one .any) (some a2) fun (c255 : Value) =>
      grd (someB (some c)) <|
      .load (.one (.int .i64)) (shiftTo (some c) 1) fun (n256 : Int) =>
      .callv c255 [i64v E.1, i64v (addI .i64 n256 at_)] [] fun (u257 : Unit) =>
      .ret 0 []) fun (k258 : Nat) =>
     fun (vs259 : List Value) =>
     ifB (eqN k258 0)
      (.cast [] vs259 fun (u260 : Unit) =>
      .load (.one (.int .i64)) (some a8) fun (n261 : Int) =>
      .store (some a8) [i64v (subI .i64 n261 1)] <|
      .load (.one (.int .i64)) (some a8) fun (n262 : Int) =>
      ifB (eqI n262 0)
       (.ret 1 []) <|
      .ret 0 []) <|
     .fail) fun k vs => .ret k vs) h fun tg vs h' => vs = [] ∧ Held W h h' ∧ OwnP (hr + 4) h' c q ∧ ∃ s', WJ S P n T h0 hr m0 a1 a2 a7 a8 cc see f R m cnt (v + 1) h' s' ∧ ((tg = 0 ∧ v + 1 - m < cnt) ∨ (tg = 1 ∧ v + 1 = m + cnt)) := by
 obtain ⟨l1, l2, l7, l8, lc, lh⟩ := j.lt
 obtain ⟨d17, d18, d27, d28, d78⟩ := hd
 have hc4 : hr + 4 ≤ c.block := (oc.lt rfl).1
 refine wp_bind (fun tg vs h' => vs = [] ∧ Held W h h' ∧ OwnP (hr + 4) h' c q ∧ ∃ s', WJ S P n T h0 hr m0 a1 a2 a7 a8 cc see f R m cnt (v + 1) h' s' ∧ ((tg = 0 ∧ v + 1 - m < cnt) ∨ (tg = 1 ∧ v + 1 = m + cnt))) ?_ fun t vs h' hx => s_ret hx
 refine s_cel (b := .int .i64) (x := ((m - v : Nat) : Int)) j.o7 (wp_ifB (fun hc => ?_) fun hc => ?_)
 ·rw [gtI_iff] at hc
  obtain ⟨k1, k2⟩ := told_skip (R := R) (show v < m by omega)
  refine s_cel (b := .int .i64) (x := ((m - v : Nat) : Int)) j.o7 ?_
  rw [sub_ok (by omega) (by omega)]
  refine s_celput (i64v (((m - v : Nat) : Int) - 1)) j.o7 rfl fun h1 o1 u1 => s_ret ⟨rfl, ?_, ?_, s, ?_, .inl ⟨rfl, by omega⟩⟩
  ·exact Held.of_chg (upd_chg u1) fun i hi hw e => (hW i hw).1 e
  ·exact upd_own oc u1 fun x hx => by cases hx; omega
  ·have cg : Chg (fun i => i = a7.block) h h1 := upd_chg u1
   refine ⟨j.c.trans cg fun i hi e => by have e : i = a7.block := e; omega, Nat.le_trans j.sz cg.1, j.t.chg cg fun i hi e => by have := hz i hi; have e : i = a7.block := e; omega, cg.own j.o1 fun x hx e => by cases hx; exact d17 e, cg.own j.o2 fun x hx e => by cases hx; exact d27 e, ?_, ?_, cg.own j.oc fun x hx e => by cases hx; have e : cc.block = a7.block := e; omega, ?_, fun x hx => ?_, j.lt⟩
   ·rw [show ((m - (v + 1) : Nat) : Int) = ((m - v : Nat) : Int) - 1 by omega]; exact o1
   ·rw [show cnt - (v + 1 - m) = cnt - (v - m) by omega]; exact cg.own j.o8 fun x hx e => by cases hx; exact d78 e.symm
   ·rw [k1, ← k2]; exact cg.ownL j.ol fun x hx e => by have := (j.sb x hx).1; have e : x.block = a7.block := e; omega
   ·have := j.sb x hx; rw [k2] at this; exact absurd this.2 (by simp)
 ·rw [gtI_not] at hc
  have hmv : m ≤ v := by omega
  have hts := told_succ hv hmv
  have htl : ((R.take v).drop m).length = v - m := by rw [List.length_drop, List.length_take]; have := (List.getElem?_eq_some_iff.1 hv).1; omega
  have c1 : Sw.cell h (c.add 1) = some (i64v tag) := by rw [← htag]; exact cells_iff.1 oc.cells 1 _ rfl
  have neW : ∀ x, s.base = some x → x.block ≠ c.block := fun x hx => own_ne j.ol (by rw [List.length_map]; exact (j.sb x hx).2) hx oc
  have tell : ∀ {K : Unit → Prog} {Q : Nat → List Value → Heap → Prop}, (∀ h' s', Held W h h' → OwnP (hr + 4) h' c q → h.size ≤ h'.size → WJ S P n T h0 hr m0 a1 a2 a7 a8 cc see f R m (cnt + 0) v h s → (Chg (fun i => i = cc.block ∨ ∃ x, s.base = some x ∧ x.block = i) h h') → Cel m0 h' cc (slv s') → OwnL m0 .i64 h' s' (((R.take (v + 1)).drop m).map f) → (∀ x, s'.base = some x → s.base = some x ∨ h.size ≤ x.block) → wp P (K ()) h' Q) → wp P (.callv see [iv E.1, iv E.2] [] K) h Q := fun hk =>
   hs.go h m0 E s _ _ _ (by have := j.c.1; omega) j.oc j.ol hfit.1 hfit.2.1 (by rw [List.length_map, htl]; omega) (fun x hx => by have := (j.sb x hx).1; omega) fun h' s' o1 o2 cg b1 =>
    hk h' s' (Held.of_chg cg fun i hi hw e => by
     rcases e with e | ⟨x, hx, e⟩
     ·exact (hW i hw).2.2.1 e
     ·have := (j.sb x hx).1; have := (hW i hw).2.2.2; omega) (cg.own oc fun x hx e => by
     cases hx
     rcases e with e | ⟨y, hy, e⟩
     ·omega
     ·exact neW y hy e) cg.1 j cg o1 (by rw [hts, List.map_append]; exact o2) b1
  refine wp_bind (fun tg vs h' => tg = 0 ∧ vs = [] ∧ Held W h h' ∧ OwnP (hr + 4) h' c q ∧ ∃ s', Chg (fun i => i = cc.block ∨ ∃ x, s.base = some x ∧ x.block = i) h h' ∧ Cel m0 h' cc (slv s') ∧ OwnL m0 .i64 h' s' (((R.take (v + 1)).drop m).map f) ∧ ∀ x, s'.base = some x → s.base = some x ∨ h.size ≤ x.block) ?_ ?_
  ·refine wp_grd rfl (wp_load1 (b := .int .i64) (c.add 1) tag rfl c1 (wp_ifB (fun hc => ?_) fun hc => ?_))
   ·rw [ltI_iff] at hc
    rw [if_pos hc] at hE
    rw [← hE]
    exact s_cel (b := .any) (x := see) j.o2 (tell fun h' s' w o sz _ cg o1 o2 b1 => s_ret ⟨rfl, rfl, w, o, s', cg, o1, o2, b1⟩)
   ·rw [ltI_not] at hc
    rw [if_neg (by omega)] at hE
    refine s_cel (b := .any) (x := see) j.o2 (wp_grd rfl (wp_load1 (b := .int .i64) (c.add 1) tag rfl c1 ?_))
    rw [add_ok hfit.2.2.1 hfit.2.2.2, ← hE]
    exact tell fun h' s' w o sz _ cg o1 o2 b1 => s_ret ⟨rfl, rfl, w, o, s', cg, o1, o2, b1⟩
  ·rintro tg vs h1 ⟨rfl, rfl, w1, oc1, s', cg, o1, o2, b1⟩
   have o81 : Cel h0.size h1 a8 (i64v ((cnt - (v - m) : Nat) : Int)) := cg.own j.o8 fun x hx e => by
    cases hx
    rcases e with e | ⟨y, hy, e⟩
    ·omega
    ·have := (j.sb y hy).1; omega
   refine s_tag (s_cast0 (s_cel (b := .int .i64) (x := ((cnt - (v - m) : Nat) : Int)) o81 ?_))
   rw [sub_ok (by omega) (by omega)]
   refine s_celput (i64v (((cnt - (v - m) : Nat) : Int) - 1)) o81 rfl fun h2 o82 u2 => ?_
   have e8 : ((cnt - (v - m) : Nat) : Int) - 1 = ((cnt - (v + 1 - m) : Nat) : Int) := by omega
   have cg2 : Chg (fun i => i = a8.block) h1 h2 := upd_chg u2
   have old : ∀ {a : Addr} {x : Value}, Cel h0.size h a x → a.block < hr → h0.size ≤ a.block → a.block ≠ a8.block → Cel h0.size h2 a x := fun o q1 q2 q3 => cg2.own (cg.own o fun x hx e => by
    cases hx
    rcases e with e | ⟨y, hy, e⟩
    ·omega
    ·have := (j.sb y hy).1; omega) fun x hx e => by cases hx; exact q3 e
   have sb' : ∀ x, s'.base = some x → hr + 4 ≤ x.block := fun x hx => by
    rcases b1 x hx with hy | hy
    ·exact (j.sb x hy).1
    ·have : c.block < h.size := (oc.lt rfl).2; omega
   have J2 : WJ S P n T h0 hr m0 a1 a2 a7 a8 cc see f R m cnt (v + 1) h2 s' := by
    refine ⟨?_, ?_, ?_, old j.o1 l1 hge.1 d18, old j.o2 l2 hge.2.1 d28, ?_, by rw [← e8]; exact o82, cg2.own o1 fun x hx e => by cases hx; have e : cc.block = a8.block := e; omega, cg2.ownL o2 fun x hx e => by have := sb' x hx; have e : x.block = a8.block := e; omega, fun x hx => ⟨sb' x hx, by rw [hts, List.length_append]; simp⟩, j.lt⟩
    ·refine (j.c.trans cg fun i hi e => ?_).trans cg2 fun i hi e => by have e : i = a8.block := e; omega
     rcases e with e | ⟨y, hy, e⟩
     ·exact e
     ·have := (j.sb y hy).1; omega
    ·have := cg.1; have := cg2.1; have := j.sz; omega
    ·refine TextR.chg (TextR.chg j.t cg fun i hi e => ?_) cg2 fun i hi e => by have := hz i hi; have e : i = a8.block := e; omega
     rcases e with e | ⟨y, hy, e⟩
     ·exact hcz (e ▸ hi)
     ·have := (j.sb y hy).1; have := hz i hi; omega
    ·have := old j.o7 l7 hge.2.2.1 d78
     rw [show m - (v + 1) = m - v by omega]; exact this
   have w2 : Held W h h2 := w1.trans (Held.of_chg cg2 fun i hi hw e => (hW i hw).2.1 e)
   have oc2 : OwnP (hr + 4) h2 c q := cg2.own oc1 fun x hx e => by cases hx; have e : c.block = a8.block := e; omega
   refine s_cel (b := .int .i64) (x := (((cnt - (v - m) : Nat) : Int) - 1)) o82 (wp_ifB (fun hx => ?_) fun hx => ?_)
   ·rw [eqI_iff] at hx
    exact s_ret ⟨rfl, w2, oc2, s', J2, .inr ⟨rfl, by omega⟩⟩
   ·rw [eqI_not] at hx
    exact s_ret ⟨rfl, w2, oc2, s', J2, .inl ⟨rfl, by omega⟩⟩
end Go.Sw.Piece

set_option linter.unusedVariables false
set_option linter.unusedSimpArgs false
set_option maxRecDepth 100000
namespace Go.Sw.Piece
open Go.Sw.Any Go.Sw.Codec
open Go.Sw.Tree (iv s_putAll s_newP s_getP s_getT s_putP eqI_self Placed cell_own wp_whileG minI_eq)
variable {P : Program} {S : Ids} {h : Heap} {Q : Nat → List Value → Heap → Prop}
theorem maxI_eq (a b : Int) : maxI a b = max a b := by unfold maxI; split <;> omega
theorem elsP_get {enc : Int} {q : Pc} {w : Nat} {t : Int × Int} (hw : (toks enc q.2)[w]? = some t) : (elsP enc q)[w]? = some (t.1, if q.1.2.1 < 0 then -1 else q.1.2.1 + (offs ((toks enc q.2).take w) : Int)) := by
 have := elsF_get q.1.2.1 (toks enc q.2) 0 w t hw
 unfold elsP
 rw [this, Nat.zero_add]
theorem c_walkT (M : Meth0 P S) (C : Cl0 P S) {n m0 : Nat} {T : TX} {from_ to : Int} {see : Value} {f : El → Int} {cc : Addr} (t : TextR S n h T) (hs : See P see f cc) (oc : Cel m0 h cc (slv ⟨none, 0, 0⟩)) (hm0 : m0 ≤ h.size) (hcz : ¬ T.Z cc.block) (hto : fitsI .i64 to) :
  wp P (F_Text_walk S (some T.p) from_ to see) h fun tg vs h' => tg = 0 ∧ vs = [] ∧ Chg (fun i => i = cc.block) h h' ∧ ∃ s, Cel m0 h' cc (slv s) ∧ OwnL m0 .i64 h' s ((cutL (els T.enc T.cur.ps) from_ to).map f) := by
 unfold F_Text_walk
 rw [fits_i64] at hto
 have hf := t.cur.few t.lim.2
 have hEl : (els T.enc T.cur.ps).length = (toksL T.enc T.cur.ps).length := els_len ..
 have lo := t.lo
 have hcl : cc.block < h.size := (oc.lt rfl).2
 refine s_new1 _ fun h1 e1 o1 z1 => wp_grd hs.flat (s_new1 _ fun h2 e2 o2 z2 => ?_)
 have e02 := e1.trans e2
 refine s_cel (b := .ptr) (x := some T.p) (o1.ext e2) (wp_call (c_Len (t.ext e02)) fun ⟨(L : Int), _⟩ h3 e3 hL => ?_)
 have hL : L = (els T.enc T.cur.ps).length := hL
 subst hL
 dsimp only
 rw [maxI_eq, minI_eq]
 have e03 := e02.trans e3
 have hcutE : cutL (els T.enc T.cur.ps) from_ to = ((els T.enc T.cur.ps).take (min to (els T.enc T.cur.ps).length).toNat).drop (max from_ 0).toNat := rfl
 refine wp_ifB (fun hc => ?_) fun hc => ?_
 ·rw [geI_iff] at hc
  refine s_ret ⟨rfl, rfl, Chg.of_ext e03, ⟨none, 0, 0⟩, oc.ext e03, ?_⟩
  have : cutL (els T.enc T.cur.ps) from_ to = [] := by rw [hcutE]; exact List.drop_of_length_le (by rw [List.length_take]; omega)
  rw [this]; exact OwnL.nil _ _ _
 rw [geI_not] at hc
 generalize hfr : max from_ 0 = fr at *
 generalize htt : min to ((els T.enc T.cur.ps).length : Int) = tt at *
 have hfr0 : 0 ≤ fr := by omega
 have httL : tt ≤ (els T.enc T.cur.ps).length := by omega
 have t3 := t.ext e03
 refine s_cel (b := .ptr) (x := some T.p) (o1.ext (e2.trans e3)) (wp_call (c_find t3 hfr0 (by omega)) fun ⟨(i' : Int), (m' : Int), _⟩ h4 e4 ⟨i, m, hi, hm, fi⟩ => ?_)
 have hi : i' = i := hi
 have hm : m' = m := hm
 subst hi; subst hm
 dsimp only
 have hil := fi.1
 have hfe := fi.2.1
 have hpsl := pcs_le t.cur.pcs
 have hsm := t.cur.small
 refine s_newput _ (i64v (m : Int)) rfl fun h5 e5 o5 => s_newput _ (i64v (subI .i64 tt fr)) rfl fun h6 e6 o6 => ?_
 rw [sub_ok (by omega) (by omega)] at o6
 have e36 := (e4.trans e5).trans e6
 have e06 := e03.trans e36
 refine s_cel (b := .ptr) (x := some T.p) (o1.ext ((e2.trans e3).trans e36)) (s_root (t.ext e06) (wp_call c_ItemsF fun ⟨y, _⟩ h7 e7 hy => ?_))
 obtain ⟨a, b, hy, itr, ha, hb⟩ := hy
 have hy : y = _ := hy
 subst hy
 dsimp only
 have e07 := e06.trans e7
 have t7 := t.ext e07
 generalize hR : els T.enc (T.cur.ps.drop i) = R
 have hsplit : els T.enc T.cur.ps = els T.enc (T.cur.ps.take i) ++ R := by rw [← hR, ← els_append, List.take_append_drop]
 have hRl : R.length + (els T.enc (T.cur.ps.take i)).length = (els T.enc T.cur.ps).length := by rw [hsplit, List.length_append]; omega
 rw [← els_len] at hfe
 have hfm : fr.toNat = (els T.enc (T.cur.ps.take i)).length + m := by omega
 generalize hcnt : (tt - fr).toNat = cnt
 have hres : (R.take (m + cnt)).drop m = cutL (els T.enc T.cur.ps) from_ to := by
  rw [hcutE]
  have h1 : tt.toNat = fr.toNat + cnt := by omega
  have hd : ∀ A : List El, (A ++ R).drop (A.length + m) = R.drop m := fun A => by rw [← List.drop_drop, List.drop_left' rfl]
  rw [List.drop_take, List.drop_take, h1, Nat.add_sub_cancel_left, Nat.add_sub_cancel_left, hfm, hsplit, hd]
 have s12 := e1.size; have s23 := e3.size; have s45 := e5.size
 have g1 : h1.size < h2.size + 0 := by omega
 have p2 : h1.size < h2.size := by omega
 have p5 : h4.size < h5.size := (o5.lt rfl).2
 have p6 : h5.size < h6.size := (o6.lt rfl).2
 have s4 := e4.size; have s7 := e7.size
 let A1 : Addr := ⟨h.size, 0, none⟩
 let A2 : Addr := ⟨h1.size, 0, none⟩
 let A7 : Addr := ⟨h4.size, 0, none⟩
 let A8 : Addr := ⟨h5.size, 0, none⟩
 let V : Nat → Nat := fun k => (els T.enc ((T.cur.ps.drop i).take k)).length
 let J : Nat → Heap → Prop := fun k h' => ∃ s, WJ S P n T h h7.size m0 A1 A2 A7 A8 cc see f R m cnt (V k) h' s ∧ V k - m < cnt
 let F : Nat → Heap → Prop := fun tg h' => tg = 1 ∧ ∃ s, WJ S P n T h h7.size m0 A1 A2 A7 A8 cc see f R m cnt (m + cnt) h' s
 have hz : ∀ i, T.Z i → i < h.size := fun i hi => (lo i hi).2
 have stab : ∀ {v s a b}, WJ S P n T h h7.size m0 A1 A2 A7 A8 cc see f R m cnt v a s → Chg (own h7.size 4) a b → WJ S P n T h h7.size m0 A1 A2 A7 A8 cc see f R m cnt v b s := fun j c =>
  j.chg c (fun i o => ⟨o.1, fun x hx e => by have := (j.sb x hx).1; have := o.2; omega⟩) hz
 have J0 : J 0 h7 := by
  refine ⟨⟨none, 0, 0⟩, ⟨Chg.of_ext e07, Nat.le_refl _, t7, (o1.ext (((e2.trans e3).trans e36).trans e7)), (o2.ext ((e3.trans e36).trans e7)).mono e1.size, ?_, ?_, oc.ext e07, ?_, fun x hx => (by cases hx), ?_⟩, ?_⟩
  ·have : V 0 = 0 := rfl
   rw [this, Nat.sub_zero]; exact (o5.ext (e6.trans e7)).mono (by have := e03.size; omega)
  ·have h1 : V 0 = 0 := rfl
   rw [h1, Nat.zero_sub, Nat.sub_zero]
   have h2 : ((cnt : Nat) : Int) = tt - fr := by omega
   rw [h2]; exact (o6.ext e7).mono (by have := e03.size; omega)
  ·have : V 0 = 0 := rfl
   rw [this]; simp; exact OwnL.nil _ _ _
  ·refine ⟨?_, ?_, ?_, ?_, hcl, e07.size⟩
   ·show h.size < h7.size; omega
   ·show h1.size < h7.size; omega
   ·show h4.size < h7.size; omega
   ·show h5.size < h7.size; omega
  ·have : V 0 = 0 := rfl
   omega
 have hbm : m ≤ 1099511627776 ∧ cnt ≤ 1099511627776 := by omega
 refine wp_rangeP C t7 (i := (i : Int)) (fits_i64.2 (by omega)) itr J F (fun k a b ⟨s, j, l⟩ c => ⟨s, stab j c, l⟩) (fun k a b ⟨h1, s, j⟩ c => ⟨h1, s, stab j c⟩) ?_ J0 ?_
 ·rintro k q h8 c hq ⟨s, j, hlt⟩ hs8 ocP
  rw [Int.toNat_natCast] at hq
  have hqm := List.mem_of_mem_drop (List.mem_of_getElem? hq)
  have pc0 := t.cur.pcs q hqm
  have hby := pc0.bytes
  have okt := okT_toks (enc := T.enc) hby
  have hVs : V (k + 1) = V k + (toks T.enc q.2).length := by
   show (els T.enc ((T.cur.ps.drop i).take (k + 1))).length = (els T.enc ((T.cur.ps.drop i).take k)).length + _
   rw [List.take_add_one, hq, els_append, List.length_append]
   congr 1
   show (els T.enc [q]).length = _
   rw [els_one, elsP_len]
  have hRs : R = els T.enc ((T.cur.ps.drop i).take k) ++ elsP T.enc q ++ els T.enc ((T.cur.ps.drop i).drop (k + 1)) := by rw [← hR]; exact els_split hq
  have hRq : ∀ w E, (elsP T.enc q)[w]? = some E → R[V k + w]? = some E := fun w E hE => by
   have hwl := (List.getElem?_eq_some_iff.1 hE).1
   rw [hRs, List.append_assoc, List.getElem?_append_right (by show (els T.enc ((T.cur.ps.drop i).take k)).length ≤ V k + w; exact Nat.le_add_right _ _)]
   have : V k + w - (els T.enc ((T.cur.ps.drop i).take k)).length = w := by show (els T.enc ((T.cur.ps.drop i).take k)).length + w - _ = w; omega
   rw [this, List.getElem?_append_left hwl]; exact hE
  have hVR : V k + (toks T.enc q.2).length ≤ R.length := by
   rw [hRs, List.length_append, List.length_append, elsP_len]
   show (els T.enc ((T.cur.ps.drop i).take k)).length + _ ≤ (els T.enc ((T.cur.ps.drop i).take k)).length + _ + _; omega
  let W : Nat → Prop := fun i => own h7.size 4 i ∨ ((T.Z i ∨ i = a.block ∨ i = b.block) ∧ i < h7.size)
  have hW : ∀ i, W i → i ≠ A7.block ∧ i ≠ A8.block ∧ i ≠ cc.block ∧ i < h7.size + 4 := fun i hw => by
   show i ≠ h4.size ∧ i ≠ h5.size ∧ i ≠ cc.block ∧ i < h7.size + 4
   rcases hw with o | ⟨hz' | hz' | hz', hlt⟩
   ·have := o.1; have := o.2; omega
   ·have := hz i hz'; have : i ≠ cc.block := fun e => hcz (e ▸ hz'); omega
   ·omega
   ·omega
  refine wp_whileG (G := Nat) (fun w (r : Int × Unit) h' => w ≤ (toks T.enc q.2).length ∧ r.1 = offs ((toks T.enc q.2).take w) ∧ Held W h8 h' ∧ OwnP (h7.size + 4) h' c q.1 ∧ ∃ s, WJ S P n T h h7.size m0 A1 A2 A7 A8 cc see f R m cnt (V k + w) h' s ∧ V k + w - m < cnt) (fun w => (toks T.enc q.2).length - w)
   (fun tg vs h' => vs = [] ∧ Held W h8 h' ∧ ((tg = 4 ∧ J (k + 1) h') ∨ (tg = 1 ∧ F 1 h'))) 0 ⟨Nat.zero_le _, rfl, Held.refl _ _, ocP, s, j, hlt⟩ ?_ ?_
  ·rintro w ⟨(at_ : Int), u⟩ h9 ⟨hw, hat, H9, oc9, s9, j9, hlt9⟩
   dsimp only at hat ⊢
   subst hat
   obtain ⟨hbn, htk⟩ := toks_at (enc := T.enc) hby w hw
   have hle := hbn.le hby
   have pc9 := j9.t.cur.pcs q hqm
   have hq9 : Sw.cell h9 (c.add 0) = some (slv q.1.1) := cells_iff.1 oc9.cells 0 _ rfl
   have hql := pc0.lst.len
   have hlen := pc0.len
   refine wp_grd rfl (wp_load1 (b := .sl) (c.add 0) q.1.1 rfl hq9 (wp_ifB (fun hc => ?_) fun hc => ?_))
   ·rw [ltI_iff, natI_def, hql] at hc
    have hkl : offs ((toks T.enc q.2).take w) < q.2.length := by omega
    have htc := toks_cons (enc := T.enc) (hby.drop (offs ((toks T.enc q.2).take w))) (by rw [List.length_drop]; omega)
    rw [htk] at htc
    have hwlt : w < (toks T.enc q.2).length := by
     by_cases hx : w < (toks T.enc q.2).length
     ·exact hx
     ·rw [List.drop_of_length_le (by omega)] at htc; cases htc
    rw [List.drop_eq_getElem_cons hwlt, List.cons.injEq] at htc
    have hget := elsP_get (enc := T.enc) (q := q) (List.getElem?_eq_getElem hwlt)
    have hsz := okt _ (List.getElem_mem hwlt)
    have hfa := toks_fits (enc := T.enc) hby _ (List.getElem_mem hwlt)
    have hoff : offs ((toks T.enc q.2).take (w + 1)) = offs ((toks T.enc q.2).take w) + (toks T.enc q.2)[w].2.toNat := by
     rw [List.take_add_one, List.getElem?_eq_getElem hwlt, offs_append]; simp [offs]
    refine s_cel (b := .ptr) (x := some T.p) j9.o1 (s_enc j9.t (wp_grd rfl (wp_load1 (b := .sl) (c.add 0) q.1.1 rfl hq9 (wp_call (c_Next M pc9.lst) fun ⟨(x : Int), (sz : Int), _⟩ h10 e10 hx => ?_))))
    have hx : (x, sz) = firstF T.enc (q.2.drop (offs ((toks T.enc q.2).take w))) := by
     rcases hx with ⟨hno, _, _⟩ | ⟨_, _, _, hx⟩
     ·rcases hno with h | h | h
      ·exact absurd t.enc h
      ·omega
      ·omega
     ·rw [Int.toNat_natCast] at hx; exact hx
    rw [← htc.1] at hx
    have hx1 : x = (toks T.enc q.2)[w].1 := congrArg Prod.fst hx
    have hx2 : sz = (toks T.enc q.2)[w].2 := congrArg Prod.snd hx
    dsimp only
    generalize hEE : ((toks T.enc q.2)[w].1, if q.1.2.1 < 0 then (-1 : Int) else q.1.2.1 + (offs ((toks T.enc q.2).take w) : Int)) = E at hget
    have hE1 : x = E.1 := by rw [hx1, ← hEE]
    have htg := pc0.tag
    rw [hE1]
    refine wp_bind _ (c_pass (nr := 0) (W := W) (tag := q.1.2.1) (at_ := (offs ((toks T.enc q.2).take w) : Nat)) (c := c) (E := E) hs (j9.ext e10 hz) hm0 hz hcz ⟨by show h.size ≠ h4.size; have := e03.size; omega, by show h.size ≠ h5.size; have := e03.size; omega, by show h1.size ≠ h4.size; omega, by show h1.size ≠ h5.size; omega, by show h4.size ≠ h5.size; omega⟩
     ⟨Nat.le_refl _, e1.size, by show h.size ≤ h4.size; have := e03.size; omega, by show h.size ≤ h5.size; have := e03.size; omega⟩ (hRq w E hget) hlt9 ⟨hbm.1, hbm.2, by omega⟩ (oc9.ext e10) rfl (by rw [← hEE]) ⟨by rw [← hEE]; exact hfa, by rw [← hEE, fits_i64]; dsimp only; split <;> omega, by omega, by omega⟩ hW) ?_
    rintro tg vs h11 ⟨rfl, H11, oc11, s11, j11, ⟨rfl, hl11⟩ | ⟨rfl, hl11⟩⟩
    ·have HH := (H9.trans (Held.of_ext e10)).trans H11
     refine s_skip (by decide) (s_tag (s_cast0 ?_))
     rw [add_ok (by omega) (by omega)]
     refine s_ret ⟨fun _ => ⟨w + 1, (_, ()), rfl, ⟨hwlt, ?_, HH, oc11, s11, j11, hl11⟩, by omega⟩, fun h => absurd rfl h⟩
     show _ = ((offs ((toks T.enc q.2).take (w + 1)) : Nat) : Int)
     rw [hoff]; omega
    ·have HH := (H9.trans (Held.of_ext e10)).trans H11
     refine s_tag (s_cast0 (s_ret ⟨fun h => absurd h (by decide), fun _ => ⟨rfl, HH, .inr ⟨rfl, rfl, s11, ?_⟩⟩⟩))
     rw [← hl11]; exact j11
   ·rw [ltI_not, natI_def, hql] at hc
    have hwe : w = (toks T.enc q.2).length := by
     have : (toks T.enc q.2).drop w = [] := by rw [← htk]; exact toks_nil (by rw [List.length_drop]; omega)
     rw [List.drop_eq_nil_iff] at this; omega
    subst hwe
    refine s_ret ⟨fun h => absurd h (by decide), fun _ => ⟨rfl, H9, .inl ⟨rfl, s9, ?_⟩⟩⟩
    show WJ S P n T h h7.size m0 A1 A2 A7 A8 cc see f R m cnt (V (k + 1)) h9 s9 ∧ V (k + 1) - m < cnt
    rw [hVs]; exact ⟨j9, hlt9⟩
  ·rintro tg vs h9 ⟨rfl, H9, ⟨rfl, j9⟩ | ⟨rfl, f9⟩⟩
   ·exact s_tag (s_cast0 (s_ret ⟨H9, fun _ => j9, fun h => absurd rfl h⟩))
   ·exact s_skip (by decide) (s_tag (s_cast0 (s_ret ⟨H9, fun h => absurd h (by decide), fun _ => f9⟩)))
 ·intro k h8 hs8 hx
  rcases hx with ⟨rfl, s, j, hlt⟩ | ⟨hk0, rfl, s, j⟩
  ·exfalso
   have hV : V (T.cur.ps.drop i).length = R.length := by
    show (els T.enc ((T.cur.ps.drop i).take (T.cur.ps.drop i).length)).length = _
    rw [List.take_length, hR]
   rw [Int.toNat_natCast, hV] at hlt
   omega
  ·refine s_tag (s_ret ⟨Held.refl _ _, fun h9 c9 _ => ?_⟩)
   have j9 := stab j (c9.mono fun i _ o => ⟨o.1, by have := o.2; omega⟩)
   refine ⟨rfl, rfl, j9.c, s, j9.oc, ?_⟩
   have := j9.ol
   rw [hres] at this; exact this
theorem c_Atoms (M : Meth0 P S) (C : Cl0 P S) {n : Nat} {T : TX} {from_ to : Int} (t : TextR S n h T) (hto : fitsI .i64 to) : Gives P (F_Text_Atoms S (some T.p) from_ to) [.one .sl] h fun (y : Sl × Unit) h' => OwnL h.size .i64 h' y.1 ((cutL (els T.enc T.cur.ps) from_ to).map (·.1)) := by
 unfold F_Text_Atoms Gives
 refine s_new1 _ fun h1 e1 o1 z1 => wp_callW (c_walkT M C (t.ext e1) (see_atoms C _) o1 e1.size (fun hz => by have : h.size < h.size := (t.lo _ hz).2; omega) hto) fun tg vs h2 hx => ?_
 obtain ⟨rfl, rfl, c2, s, o2, ol⟩ := hx
 refine ⟨rfl, (), rfl, s_cel (b := .sl) (x := s) o2 (s_ret ⟨rfl, ?_, (s, ()), rfl, ol⟩)⟩
 exact Keep.chg (e1.keep (Nat.le_refl _)) c2 e1.size fun i e => Nat.le_of_eq e.symm
end Go.Sw.Piece

set_option linter.unusedVariables false
set_option linter.unusedSimpArgs false
set_option maxRecDepth 100000
namespace Go.Sw.Piece
open Go.Sw.Any Go.Sw.Codec
open Go.Sw.Tree (iv s_putAll s_newP s_getP s_getT s_putP eqI_self Placed cell_own wp_whileG minI_eq)
variable {P : Program} {S : Ids} {h : Heap} {Q : Nat → List Value → Heap → Prop}
theorem s_copyAll {n : Nat} {k : IntKind} {s x : Sl} {old l : List Int} {K : Nat → Prog} (ho : OwnL n k h s old) (hx : Lst k h x l) (hl : l.length = old.length)
  (hk : ∀ h', OwnL n k h' s l → Upd s h h' → wp P (K l.length) h' Q) : wp P (.copy 1 s x K) h Q := by
 cases l with
 | nil =>
  have h0 : old = [] := List.eq_nil_of_length_eq_zero hl.symm
  subst h0
  have hs : s.len = 0 := ho.len
  have hxl : x.len = 0 := hx.len
  have hmin : min x.len s.len = 0 := by omega
  refine ⟨[], ?_, ?_⟩
  ·rw [hmin]; have := hx.rd.firsts; rw [hxl] at this; exact this
  ·rw [hmin]
   cases hb : s.base with
   | none => exact hk h ho ⟨Nat.le_refl _, fun _ _ _ => rfl, fun _ e => e⟩
   | some a => exact ⟨trivial, hk h ho ⟨Nat.le_refl _, fun _ _ _ => rfl, fun _ e => e⟩⟩
 | cons y l =>
  have := s_copyAt (P := P) (Q := Q) (K := K) (s := s) (x := x) (pre := []) (mid := old) (post := []) (l := y :: l) (i := 0) (by simpa using ho) hx hl (by simp) rfl fun h' o u z => hk h' (by simpa using o) u
  rw [cutBase_zero, show subN s.len 0 = s.len from rfl, show subN s.cap 0 = s.cap from rfl] at this
  exact this
theorem elsF_append (tag : Int) : ∀ (a b : List (Int × Int)) (o : Nat), elsF tag o (a ++ b) = elsF tag o a ++ elsF tag (o + offs a) b
 | [], b, o => by simp [elsF, offs]
 | x :: a, b, o => by simp only [List.cons_append, elsF, elsF_append tag a b, offs_cons, Nat.add_assoc]
def Ld (enc : Int) (lo : Sl) (l : List Int) (q : Pc) : Prop := ∃ a e : Nat, a < e ∧ e ≤ l.length ∧ q.2 = (l.take e).drop a ∧ q.1 = mkP ⟨cutBase lo.base e a 1, e - a, e - a⟩ a (toks enc q.2)
theorem ld_pcr {m : Nat} {T : TX} {enc : Int} {lo : Sl} {l : List Int} {q : Pc} (ol : OwnL m .u8 h lo l) (hT : T.enc = enc) (had : T.ad = ⟨none, 0, 0⟩) (hz : ∀ b, lo.base = some b → T.Z b.block ∧ b.block ≠ T.p.block) (hlen : l.length ≤ 65536) (ld : Ld enc lo l q) : PcR h T q := by
 obtain ⟨a, e, hae, hel, h2, h1⟩ := ld
 have hlol := ol.len
 have hcap := ol.lst.cap
 have hmax := ol.lst.max
 have hl1 := (ol.lst.take (n := e) (m := e) hel (Nat.le_refl _) (by omega)).tail (i := a) (by rw [List.length_take]; omega)
 dsimp only at hl1
 have hl2 : q.2.length = e - a := by rw [h2, List.length_drop, List.length_take]; omega
 have hb : q.1.1 = ⟨cutBase lo.base e a 1, e - a, e - a⟩ := by rw [h1]; rfl
 have ht : q.1.2.1 = a := by rw [h1]; rfl
 refine ⟨by rw [hb, h2]; exact hl1, by omega, by rw [hT, hb, ht]; exact h1, by rw [ht]; omega, by omega, fun x hx => ?_⟩
 rw [hb] at hx
 have hx : cutBase lo.base e a 1 = some x := hx
 unfold cutBase at hx
 rw [if_neg (by omega)] at hx
 cases hlb : lo.base with
 | none => rw [hlb] at hx; simp at hx
 | some b =>
  rw [hlb] at hx
  have hx : b.add (a * 1) = x := Option.some.inj hx
  subst hx
  rw [add_block]
  exact ⟨(hz b hlb).1, (hz b hlb).2, fun c hc => by rw [had] at hc; cases hc⟩
inductive OpenR (S : Ids) (h0 h : Heap) (enc limit : Int) (l : List Int) : Option Addr → Int → Prop where
 | enc : ¬ known enc → OpenR S h0 h enc limit l none 10
 | arg : known enc → ¬ (0 ≤ limit ∧ limit ≤ 65536) → OpenR S h0 h enc limit l none 1
 | full : known enc → 0 ≤ limit ∧ limit ≤ 65536 → limit < l.length → OpenR S h0 h enc limit l none 50
 | ok (T : TX) : known enc → 0 ≤ limit ∧ limit ≤ 65536 → l.length ≤ limit → TextR S h0.size h T → T.enc = enc → T.limit = limit → T.kept = [] → T.A = [] → els enc T.cur.ps = elsF 0 0 (toks enc l) → bytesL T.cur.ps = l → (∀ i, T.Z i → h0.size ≤ i) → OpenR S h0 h enc limit l (some T.p) 0
theorem c_Open (M : Meth0 P S) {enc limit : Int} {b : Sl} {l : List Int} (hb : Lst .u8 h b l) :
  Gives P (F_piece_Open S enc b limit) [.one .ptr, .one (.int .i64)] h fun (y : Option Addr × Int × Unit) h' => OpenR S h h' enc limit l y.1 y.2.1 := by
 unfold F_piece_Open Gives
 have hbl := hb.len
 have hby : isBytes l := hb.wf
 refine bind_bool (¬ known enc) ?_ fun bb h1 e1 h1b => wp_ifB (fun hx => s_ret ⟨rfl, e1, (none, 10, ()), rfl, .enc (h1b.1 hx)⟩) fun hx => ?_
 ·unfold known
  refine wp_ifB (fun hc => s_ret ⟨rfl, Ext.refl _, true, rfl, ?_⟩) fun hc => s_ret ⟨rfl, Ext.refl _, _, rfl, ?_⟩
  ·rw [ltI_iff] at hc; exact Iff.intro (fun _ => by omega) fun _ => rfl
  ·rw [ltI_not] at hc; rw [gtI_iff]; omega
 have he : known enc := by
  by_cases hk : known enc
  ·exact hk
  ·rw [h1b.2 hk] at hx; cases hx
 refine bind_bool (¬ (0 ≤ limit ∧ limit ≤ 65536)) ?_ fun bb h2 e2 h2b => wp_ifB (fun hx => s_ret ⟨rfl, e1.trans e2, (none, 1, ()), rfl, .arg he (h2b.1 hx)⟩) fun hx => ?_
 ·refine wp_ifB (fun hc => s_ret ⟨rfl, Ext.refl _, true, rfl, ?_⟩) fun hc => s_ret ⟨rfl, Ext.refl _, _, rfl, ?_⟩
  ·rw [ltI_iff] at hc; exact Iff.intro (fun _ => by omega) fun _ => rfl
  ·rw [ltI_not] at hc; rw [gtI_iff]; omega
 have hlim : 0 ≤ limit ∧ limit ≤ 65536 := by
  by_cases hk : 0 ≤ limit ∧ limit ≤ 65536
  ·exact hk
  ·rw [h2b.2 hk] at hx; cases hx
 have e02 := e1.trans e2
 refine wp_ifB (fun hc => s_ret ⟨rfl, e02, (none, 50, ()), rfl, .full he hlim (by rw [gtI_iff, natI_def, hbl] at hc; omega)⟩) fun hc => ?_
 rw [gtI_not, natI_def, hbl] at hc
 have hnat : natI b.len = (l.length : Int) := by rw [natI_def, hbl]
 rw [hnat]
 have okt := okT_toks (enc := enc) hby
 have htl := toks_len (enc := enc) hby
 have hto := toks_offs (enc := enc) hby
 refine s_mkZ (k := .u8) (by omega) (by omega) fun h3 lo e3 olo => s_copyAll olo (hb.ext (e02.trans e3)) (by simp) fun h4 ol4 u4 => ?_
 have e24 : Ext h2 h4 := Upd.extN e3 u4 (fun a ha => (olo.own.lt ha).1)
 have hlol := ol4.len
 refine fun el => ?_
 have e5 : Ext h4 (h4.push (.cells [i64v enc, i64v limit, .pointer none, .slice none 0 0].toArray el)) := Ext.push ..
 have o5 : Own h4.size 1 (h4.push (.cells [i64v enc, i64v limit, .pointer none, .slice none 0 0].toArray el)) ⟨some ⟨h4.size, 0, none⟩, 4, 4⟩ [i64v enc, i64v limit, .pointer none, .slice none 0 0] := own_alloc rfl (by decide) (by decide)
 generalize h4.push (.cells [i64v enc, i64v limit, .pointer none, .slice none 0 0].toArray el) = h5 at e5 o5 ⊢
 have e05 := (e02.trans e24).trans e5
 have ol5 := ol4.ext e5
 have hcapL := ol5.lst.cap
 have hmaxL := ol5.lst.max
 refine wp_whileG (G := Nat × List Pc) (fun g (r : Sl × Int × Unit) h' => g.1 ≤ (toks enc l).length ∧ r.2.1 = offs ((toks enc l).take g.1) ∧ Ext h5 h' ∧ OwnPs h5.size h' r.1 (g.2.map (·.1)) ∧ (∀ q, q ∈ g.2 → Ld enc lo l q) ∧ els enc g.2 = elsF 0 0 ((toks enc l).take g.1) ∧ bytesL g.2 = l.take (offs ((toks enc l).take g.1)) ∧ g.2.length ≤ g.1) (fun g => (toks enc l).length - g.1)
  (fun tg vs h' => tg = 3 ∧ Ext h5 h' ∧ ∃ (s : Sl) (ps : List Pc), vs = [slv s] ∧ OwnPs h5.size h' s (ps.map (·.1)) ∧ (∀ q, q ∈ ps → Ld enc lo l q) ∧ els enc ps = elsF 0 0 (toks enc l) ∧ bytesL ps = l) (0, []) ⟨Nat.zero_le _, rfl, Ext.refl _, Own.nil _ _ _, (fun q hq => by cases hq), rfl, by simp [bytesL, offs], Nat.le_refl _⟩ ?_ ?_
 ·rintro ⟨k, ps⟩ ⟨(s : Sl), (at_ : Int), u⟩ h6 ⟨hk, hat, e6, os, hld, hel, hbs, hpn⟩
  dsimp only at hk hat os hld hel hbs hpn ⊢
  subst hat
  have hbk := toks_at (enc := enc) hby k hk
  have hkl := hbk.1.le hby
  have hLn : natI lo.len = (l.length : Int) := by rw [natI_def, hlol]
  rw [hLn]
  refine wp_ifB (fun hc => ?_) fun hc => ?_
  ·rw [ltI_iff] at hc
   have hklt : k < (toks enc l).length := by
    by_cases hx : k < (toks enc l).length
    ·exact hx
    ·rw [List.take_of_length_le (by omega), hto] at hc; omega
   have ol6 := ol5.ext e6
   refine wp_whileG (G := Nat) (fun w (r : Int × Int × Unit) h' => k + w ≤ (toks enc l).length ∧ w ≤ 128 ∧ r.1 = offs ((toks enc l).take (k + w)) ∧ r.2.1 = w ∧ Ext h6 h') (fun w => (toks enc l).length - w)
    (fun tg vs h' => tg = 5 ∧ Ext h6 h' ∧ ∃ w, 1 ≤ w ∧ k + w ≤ (toks enc l).length ∧ vs = [i64v (offs ((toks enc l).take (k + w)))]) 0 ⟨by omega, by omega, rfl, rfl, Ext.refl _⟩ ?_ ?_
   ·rintro w ⟨(en : Int), (n : Int), u⟩ h7 ⟨hkw, hw, hen, hn, e7⟩
    dsimp only at hen hn ⊢
    subst hen; subst hn
    obtain ⟨hbn, htk⟩ := toks_at (enc := enc) hby (k + w) hkw
    have hle := hbn.le hby
    have hmono : offs ((toks enc l).take k) ≤ offs ((toks enc l).take (k + w)) := by
     have : (toks enc l).take k = ((toks enc l).take (k + w)).take k := by rw [List.take_take, Nat.min_eq_left (by omega)]
     rw [this]; exact offs_take_le _ _
    refine bind_bool (offs ((toks enc l).take (k + w)) < l.length ∧ w < 128) ?_ fun bb h8 e8 hb8 => wp_ifB (fun hx => ?_) fun hx => ?_
    ·refine wp_ifB (fun hc => s_ret ⟨rfl, Ext.refl _, _, rfl, ?_⟩) fun hc => s_ret ⟨rfl, Ext.refl _, false, rfl, ?_⟩
     ·rw [ltI_iff] at hc ⊢; omega
     ·rw [ltI_not] at hc; exact Iff.intro (fun h => by cases h) fun h => by omega
    ·obtain ⟨hlt, hw128⟩ := hb8.1 hx
     have hwlt : k + w < (toks enc l).length := by
      by_cases hx : k + w < (toks enc l).length
      ·exact hx
      ·rw [List.take_of_length_le (by omega), hto] at hlt; omega
     have htc := toks_cons (enc := enc) (hby.drop (offs ((toks enc l).take (k + w)))) (by rw [List.length_drop]; omega)
     rw [htk, List.drop_eq_getElem_cons hwlt, List.cons.injEq] at htc
     have hsz := okt _ (List.getElem_mem hwlt)
     have hoff : offs ((toks enc l).take (k + (w + 1))) = offs ((toks enc l).take (k + w)) + (toks enc l)[k + w].2.toNat := by
      rw [show k + (w + 1) = (k + w) + 1 by omega, List.take_add_one, List.getElem?_eq_getElem hwlt, offs_append]; simp [offs]
     refine wp_call (c_Next M (ol6.ext (e7.trans e8)).lst) fun ⟨(x : Int), (sz : Int), _⟩ h9 e9 hx9 => ?_
     have hx9 : (x, sz) = firstF enc (l.drop (offs ((toks enc l).take (k + w)))) := by
      rcases hx9 with ⟨hno, _, _⟩ | ⟨_, _, _, hx⟩
      ·rcases hno with h | h | h
       ·exact absurd he h
       ·omega
       ·omega
      ·rw [Int.toNat_natCast] at hx; exact hx
     rw [← htc.1] at hx9
     have hx2 : sz = (toks enc l)[k + w].2 := congrArg Prod.snd hx9
     dsimp only
     rw [add_ok (by omega) (by omega), add_ok (a := (w : Int)) (by omega) (by omega)]
     refine s_ret ⟨fun _ => ⟨w + 1, (_, _, ()), rfl, ⟨by omega, by omega, ?_, by dsimp only; omega, (e7.trans e8).trans e9⟩, by omega⟩, fun h => absurd rfl h⟩
     dsimp only
     rw [hoff]; omega
    ·have hno : ¬ (offs ((toks enc l).take (k + w)) < l.length ∧ w < 128) := fun k => by rw [hb8.2 k] at hx; cases hx
     refine s_ret ⟨fun h => absurd h (by decide), fun _ => ⟨rfl, e7.trans e8, w, ?_, hkw, rfl⟩⟩
     by_cases h0 : w = 0
     ·subst h0; exact absurd ⟨by rw [Nat.add_zero]; omega, by omega⟩ hno
     ·omega
   ·rintro tg vs h7 ⟨rfl, e7, w, hw1, hkw, rfl⟩
    refine s_tag (s_castI ?_)
    have hbn := (toks_at (enc := enc) hby (k + w) hkw).1
    have hle := hbn.le hby
    have htt := toks_take (enc := enc) hby (k + w) hkw
    have hsub : ((toks enc l).take (k + w)).take k = (toks enc l).take k := by rw [List.take_take, Nat.min_eq_left (by omega)]
    have hoapp := offs_append (((toks enc l).take (k + w)).take k) (((toks enc l).take (k + w)).drop k)
    rw [List.take_append_drop, hsub] at hoapp
    have hpos := offs_pos (((okt.take (k + w)).drop k)) (by rw [List.length_drop, List.length_take]; omega)
    have htd := (toks_at (enc := enc) (hby.take (offs ((toks enc l).take (k + w)))) k (by rw [htt, List.length_take]; omega)).2
    rw [htt, hsub] at htd
    generalize hA : offs ((toks enc l).take k) = A at *
    generalize hE : offs ((toks enc l).take (k + w)) = E at *
    have hAE : A < E := by omega
    have tA : toN (A : Int) = A := by rw [toN_def]; omega
    have tE : toN (E : Int) = E := by rw [toN_def]; omega
    dsimp only
    refine s_grd (andB_iff.2 ⟨leB_ok (by omega) (by omega), andB_iff.2 ⟨leB_ok (by omega) (by rw [tE]; omega), leB_ok (by omega) (by rw [tE]; omega)⟩⟩) ?_
    rw [tA, tE]
    have ol7 := (ol5.ext e6).ext e7
    have hl1 := (ol7.lst.take (n := E) (m := E) hle (Nat.le_refl _) (by omega)).tail (i := A) (by rw [List.length_take]; omega)
    dsimp only at hl1
    refine wp_call (c_newPart M he (tag := (A : Int)) hl1 (by rw [List.length_drop, List.length_take]; omega)) fun ⟨(y : Part), _⟩ h8 e8 hy => ?_
    have hy : y = mkP ⟨cutBase lo.base E A 1, E - A, E - A⟩ A (toks enc ((l.take E).drop A)) := hy
    dsimp only
    have e68 := e7.trans e8
    have hsl := OwnPs.len os
    rw [List.length_map] at hsl
    refine wp_push (n := h5.size) (new := Bs.inj PB y) (os.ext e68) (Nat.le_trans e6.size e68.size) rfl (flatP _) rfl (by show (s.len + 1) * 64 ≤ _; omega) (by omega) fun r h9 a9 b9 u9 d9 => s_ret ⟨fun _ => ⟨(k + w, ps ++ [(y, (l.take E).drop A)]), (r, (E : Int), ()), rfl, ⟨hkw, by dsimp only; rw [hE], ?_, ?_, ?_, ?_, ?_, by dsimp only; rw [List.length_append]; simp; omega⟩, by dsimp only; omega⟩, fun h => absurd rfl h⟩
    ·exact Upd.extN (e6.trans e68) u9 (fun a ha => (os.lt ha).1)
    ·rw [List.map_append]
     show Own h5.size 7 h9 r (cP (_ ++ [y]))
     rw [cP_append, cP_one]; exact a9
    ·intro q hq
     rcases List.mem_append.1 hq with hq | hq
     ·exact hld q hq
     ·rw [List.mem_singleton.1 hq]
      exact ⟨A, E, hAE, hle, rfl, hy⟩
    ·dsimp only
     rw [els_append, els_one, hel]
     have h1 : (toks enc l).take (k + w) = (toks enc l).take k ++ ((toks enc l).take (k + w)).drop k := by rw [← hsub, List.take_append_drop]
     conv => rhs; rw [h1]
     rw [elsF_append, hA]
     congr 1
     unfold elsP
     dsimp only
     rw [htd, hy]
     show elsF (A : Int) 0 _ = _
     have : (A : Int) = tagF 0 A := by unfold tagF; simp
     rw [this, elsF_tag]
    ·dsimp only
     rw [bytesL_append, hbs, hE]
     have : l.take A = (l.take E).take A := by rw [List.take_take, Nat.min_eq_left (by omega)]
     rw [this]
     simp [bytesL, List.take_append_drop]
  ·rw [ltI_not] at hc
   have hke : k = (toks enc l).length := by
    by_cases hx : k < (toks enc l).length
    ·have h1 := offs_append ((toks enc l).take k) ((toks enc l).drop k)
     rw [List.take_append_drop, hto] at h1
     have := offs_pos (okt.drop k) (by rw [List.length_drop]; omega)
     omega
    ·omega
   subst hke
   rw [List.take_length] at hel hbs
   rw [hto, List.take_length] at hbs
   exact s_ret ⟨fun h => absurd h (by decide), fun _ => ⟨rfl, e6, s, ps, rfl, os, hld, hel, hbs⟩⟩
 ·rintro tg vs h6 ⟨rfl, e6, s, ps, rfl, os, hld, hel, hbs⟩
  refine s_tag (wp_cast (tys := [.one .sl]) (s, ()) rfl ?_)
  dsimp only
  have e06 := e05.trans e6
  have hlo : ∀ b, lo.base = some b → h.size ≤ b.block ∧ b.block < h4.size := fun b hb => by have := ol4.own.lt hb; have := e02.size; omega
  have e04 := e02.trans e24
  let Z : Nat → Prop := fun i => h.size ≤ i
  let T0 : TX := { p := ⟨h4.size, 0, none⟩, enc := enc, limit := limit, cur := ⟨none, .nil, ps⟩, kept := [], ad := ⟨none, 0, 0⟩, A := [], Z := Z }
  have pc6 : ∀ q, q ∈ ps → PcR h6 T0 q := fun q hq => ld_pcr (ol5.ext e6) rfl rfl (fun b hb => ⟨(hlo b hb).1, by show b.block ≠ h4.size; have := (hlo b hb).2; omega⟩) (by omega) (hld q hq)
  have hwM : ∀ x, x ∈ ps.map (·.1) → VS (wtP x) (sumP x) := fun x hx => by
   obtain ⟨q, hq, rfl⟩ := List.mem_map.1 hx
   exact (pc6 q hq).wt.2
  have its : Its (part S Z) h6 s (ps.map (·.1)) := its_own os hwM
  have hfr : Fresh (part S Z) h6 := fun i hi => Nat.le_trans e06.size hi
  have hWm : ((ps.map (·.1)).map wtP).sum = (toksL enc ps).length := W_ps pc6
  have hmt := (toksL_le (enc := enc) fun q hq => (pc6 q hq).bytes).1
  rw [hbs] at hmt
  have hof := c_Of (part_ok S Z (P := P)) its (show (part S Z).W (ps.map (·.1)) ≤ 4398046511104 from by
   have : (part S Z).W (ps.map (·.1)) = (toksL enc ps).length := hWm
   rw [this]; omega) hfr
  rw [← g_Of S Z] at hof
  refine wp_call (R := fun (y : TR × Unit) h' => ∃ t' : Bt Part, Nd (part S Z) h' y.1.1 t' ∧ t'.list = ps.map (·.1)) (Gives.mono hof fun y h' e ⟨t', q1, q2, _⟩ => ⟨t', q1, q2⟩) fun ⟨⟨(root : Option Addr), _⟩, _⟩ h7 e7 ⟨t', nd, hl'⟩ => ?_
  have nd : Nd (part S Z) h7 root t' := nd
  dsimp only
  have o7 := o5.ext (e6.trans e7)
  refine s_setC' (.pointer root) o7 (by simp) rfl fun h8 o8 u8 => ?_
  have o8 : Own h4.size 1 h8 ⟨some ⟨h4.size, 0, none⟩, 4, 4⟩ [i64v enc, i64v limit, .pointer root, .slice none 0 0] := o8
  have e08 : Ext h h8 := Upd.extN (e06.trans e7) u8 (by intro x hx; cases hx; exact e04.size)
  have ol8 : OwnL h2.size .u8 h8 lo l := ((ol5.ext e6).ext e7).upd u8 fun x y hx hy => by cases hy; have := (hlo x hx).2; show h4.size ≠ x.block; omega
  have hp8 : h4.size < h8.size := (o8.lt rfl).2
  let T : TX := { p := ⟨h4.size, 0, none⟩, enc := enc, limit := limit, cur := ⟨root, t', ps⟩, kept := [], ad := ⟨none, 0, 0⟩, A := [], Z := fun i => h.size ≤ i ∧ i < h8.size }
  have nd8 : Nd (part S Z) h8 root t' := nd.updK u8 fun b hb => by
   cases hb
   have := cells_iff.1 o7.cells 0 _ rfl
   rw [add_zero'] at this
   exact ⟨_, _, this⟩
  refine s_ret ⟨rfl, e08, (some ⟨h4.size, 0, none⟩, 0, ()), rfl, .ok T he hlim (by omega) ⟨he, hlim, o8.mono e04.size, OwnL.nil _ _ _, fun b hb => (by cases hb), fun b hb => (by cases hb), ⟨part_mono nd8 fun i hi hz => ⟨hz, hi⟩, hl', fun q hq => ld_pcr ol8 rfl rfl (fun b hb => ⟨⟨(hlo b hb).1, by have := (hlo b hb).2; omega⟩, by show b.block ≠ h4.size; have := (hlo b hb).2; omega⟩) (by omega) (hld q hq), ?_⟩, fun s hs => (by cases hs), ⟨e04.size, hp8⟩, fun b hb => (by cases hb), fun i hi => hi⟩ rfl rfl rfl rfl hel hbs fun i hi => hi.1⟩
  show (bytesL ps).length ≤ _
  rw [hbs]; omega
end Go.Sw.Piece

set_option linter.unusedVariables false
set_option linter.unusedSimpArgs false
set_option maxRecDepth 100000
namespace Go.Sw.Piece
open Go.Sw.Any Go.Sw.Codec
open Go.Sw.Tree (iv s_putAll s_newP s_getP s_getT s_putP eqI_self Placed cell_own wp_whileG minI_eq)
variable {P : Program} {S : Ids} {h : Heap} {Q : Nat → List Value → Heap → Prop}
end Go.Sw.Piece

set_option linter.unusedVariables false
set_option linter.unusedSimpArgs false
set_option maxRecDepth 100000
namespace Go.Sw.Piece
open Go.Sw.Any Go.Sw.Codec
open Go.Sw.Tree (iv s_putAll s_newP s_getP s_getT s_putP eqI_self Placed cell_own wp_whileG minI_eq)
variable {P : Program} {S : Ids} {h : Heap} {Q : Nat → List Value → Heap → Prop}
end Go.Sw.Piece

set_option linter.unusedVariables false
set_option linter.unusedSimpArgs false
set_option maxRecDepth 100000
namespace Go.Sw.Piece
open Go.Sw.Any Go.Sw.Codec
open Go.Sw.Tree (iv s_putAll s_newP s_getP s_getT s_putP eqI_self Placed cell_own wp_whileG minI_eq)
variable {P : Program} {S : Ids} {h : Heap} {Q : Nat → List Value → Heap → Prop}
end Go.Sw.Piece

set_option linter.unusedVariables false
set_option linter.unusedSimpArgs false
set_option maxRecDepth 100000
namespace Go.Sw.Piece
open Go.Sw.Any Go.Sw.Codec
open Go.Sw.Tree (iv s_putAll s_newP s_getP s_getT s_putP eqI_self Placed cell_own wp_whileG minI_eq)
variable {P : Program} {S : Ids} {h : Heap} {Q : Nat → List Value → Heap → Prop}
structure Opened (S : Ids) (h0 h : Heap) (enc limit : Int) (l : List Int) (T : TX) : Prop where
 t : TextR S h0.size h T
 en : T.enc = enc
 li : T.limit = limit
 kept : T.kept = []
 A : T.A = []
 el : Piece.els enc T.cur.ps = elsF 0 0 (toks enc l)
 bytes : bytesL T.cur.ps = l
 z : ∀ i, T.Z i → h0.size ≤ i
end Go.Sw.Piece

set_option linter.unusedVariables false
set_option linter.unusedSimpArgs false
set_option maxRecDepth 100000
namespace Go.Sw.Piece
open Go.Sw.Any Go.Sw.Codec
variable {P : Program} {S : Ids} {h : Heap} {Q : Nat → List Value → Heap → Prop}
end Go.Sw.Piece

set_option linter.unusedVariables false
set_option linter.unusedSimpArgs false
set_option maxRecDepth 100000
namespace Go.Sw.Piece
open Go.Sw.Any Go.Sw.Codec
open Go.Sw.Tree (iv s_putAll s_newP s_getP s_getT s_putP eqI_self Placed cell_own wp_whileG minI_eq)
variable {P : Program} {S : Ids} {h : Heap} {Q : Nat → List Value → Heap → Prop}
structure MI (S : Ids) (h0 : Heap) (p0 : Addr) (enc : Int) (i : Nat) (h : Heap) (T : TX) (s : Sl) (L : List Int) : Prop where
 k : Keep h0.size h0 h
 t : TextR S h0.size h T
 p : T.p = p0
 en : T.enc = enc
 li : T.limit = 65536
 A : T.A.length ≤ 4 * i
 z : ∀ i, T.Z i → h0.size ≤ i
 el : els enc T.cur.ps = L.map fun a => (a, -1)
 fit : ∀ a, a ∈ L → 0 < sizeF enc a
 len : L.length ≤ i
 ol : OwnL h0.size .i64 h s L
 nz : ∀ b, s.base = some b → ¬ T.Z b.block
end Go.Sw.Piece

set_option linter.unusedVariables false
set_option linter.unusedSimpArgs false
set_option maxRecDepth 100000
namespace Go.Sw.Piece
open Go.Sw.Any Go.Sw.Codec
open Go.Sw.Tree (iv s_putAll s_newP s_getP s_getT s_putP eqI_self Placed cell_own wp_whileG minI_eq)
variable {P : Program} {S : Ids} {h : Heap} {Q : Nat → List Value → Heap → Prop}
abbrev at0 (b : Nat) : Addr := ⟨b, 0, none⟩
abbrev slb (b k : Nat) : Sl := ⟨some (at0 b), k, k⟩
def Reg (n : Nat) (h : Heap) (b : Nat) (vs : List Value) : Prop :=
 n ≤ b ∧ ∃ (cs : Array Value) (elem : TypeId), h[b]? = some (.cells cs elem) ∧ vs.length ≤ cs.size ∧ ∀ (i : Nat) (v : Value), vs[i]? = some v → cs[i]? = some v
def Blk (n : Nat) (h : Heap) (b k : Nat) : Prop := n ≤ b ∧ ∃ (cs : Array Value) (elem : TypeId), h[b]? = some (.cells cs elem) ∧ k ≤ cs.size
structure PenS where
 ob : Nat
 all : Option Nat
 pu : Sl
 ws : List Nat
def allSl : Option Nat → Sl
 | none => ⟨none, 0, 0⟩
 | some b => slb b 200
def penM (s : PenS) (i : Nat) : Prop := i = s.ob ∨ ∃ a, s.pu.base = some a ∧ a.block = i
def penW (s : PenS) (i : Nat) : Prop := s.all = some i ∨ i ∈ s.ws
structure PenR (n : Nat) (h : Heap) (s : PenS) : Prop where
 ob : Own n 1 h ⟨some (at0 s.ob), 2, 2⟩ [slv (allSl s.all), slv s.pu]
 all : ∀ b, s.all = some b → Blk n h b 600
 pu : Own n 1 h s.pu (s.ws.map fun b => slv (slb b 400))
 ws : ∀ b, b ∈ s.ws → Blk n h b 400
 nd : s.ws.Nodup
 na : ∀ b, s.all = some b → b ∉ s.ws
 mw : ∀ i, penM s i → ¬ penW s i
 mm : ∀ a, s.pu.base = some a → a.block ≠ s.ob
 few : s.ws.length ≤ 8
def PenO (n : Nat) (h : Heap) (p : Option Addr) : Option PenS → Prop
 | none => p = none
 | some s => p = some (at0 s.ob) ∧ PenR n h s
def oM : Option PenS → Nat → Prop
 | none, _ => False
 | some s, i => penM s i
def oZ : Option PenS → Nat → Prop
 | none, _ => False
 | some s, i => penM s i ∨ penW s i
def RoleA (s : Option PenS) (b : Nat) : Prop := (∃ t, s = some t ∧ t.all = some b) ∨ ¬ oZ s b
def RoleW (s : Option PenS) (j b : Nat) : Prop := (∃ t, s = some t ∧ t.ws[j]? = some b) ∨ ¬ oZ s b
end Go.Sw.Piece

set_option linter.unusedVariables false
set_option linter.unusedSimpArgs false
set_option maxRecDepth 100000
namespace Go.Sw.Piece
open Go.Sw.Any Go.Sw.Codec
open Go.Sw.Tree (iv s_putAll s_newP s_getP s_getT s_putP eqI_self Placed cell_own wp_whileG minI_eq)
variable {P : Program} {S : Ids} {h : Heap} {Q : Nat → List Value → Heap → Prop}
structure PenEd (n : Nat) (h h' : Heap) (p : Option Addr) (s s' : Option PenS) (b k : Nat) : Prop where
 pen : PenO n h' p s'
 chg : Chg (oM s) h h'
 blk : Blk n h' b (k * 3)
 zone : ∀ i, oZ s' i → oZ s i ∨ h.size ≤ i
 old : oZ s b ∨ h.size ≤ b
 role : RoleA s' b
structure PenPu (n : Nat) (h h' : Heap) (p : Option Addr) (s s' : Option PenS) (i b k : Nat) : Prop where
 pen : PenO n h' p s'
 chg : Chg (oM s) h h'
 blk : Blk n h' b k
 zone : ∀ i, oZ s' i → oZ s i ∨ h.size ≤ i
 old : oZ s b ∨ h.size ≤ b
 role : RoleW s' i b
 new : (∃ t, s' = some t ∧ t.ws[i]? = some b) ∨ h.size ≤ b
 ra : ∀ c, c < h.size → RoleA s c → RoleA s' c
 rw : ∀ j c, c < h.size → RoleW s j c → RoleW s' j c
end Go.Sw.Piece

set_option linter.unusedVariables false
set_option linter.unusedSimpArgs false
set_option maxRecDepth 100000
namespace Go.Sw.Piece
open Go.Sw.Any Go.Sw.Codec
open Go.Sw.Tree (iv s_putAll s_newP s_getP s_getT s_putP eqI_self Placed cell_own wp_whileG minI_eq)
variable {P : Program} {S : Ids} {h : Heap} {Q : Nat → List Value → Heap → Prop}
abbrev putLen (e : EdD) : Nat := e.2.2.1.2.length
def putSl (room : Nat) (e : EdD) (b : Nat) : Sl := if e.2.2.1.1.base = none then ⟨none, 0, 0⟩ else ⟨some (at0 b), putLen e, putLen e + room⟩
abbrev edC (room : Nat) (e : EdD) (b : Nat) : List Value := [i64v e.1, i64v e.2.1, slv (putSl room e b)]
abbrev markC (i : Nat) : List Value := [i64v (-771 - (i : Int)), i64v (-772), .slice none 0 0]
def markE (m k : Nat) : List Int := (List.range k).map fun (j : Nat) => 771 + ((m : Int) + (j : Int))
def putC (room : Nat) (e : EdD) : List Value := (e.2.2.1.2 ++ markE (putLen e) room).map (.int .i64)
structure HI (n : Nat) (h0 : Heap) (p : Option Addr) (s0 : Option PenS) (x : Eds) (room hb a2 i k : Nat) (h : Heap) (s : Option PenS) (ws : List Nat) (pu : Sl) : Prop where
 chg : Chg (oZ s0) h0 h
 pen : PenO n h p s
 zone : ∀ i, oZ s i → oZ s0 i ∨ h0.size ≤ i
 ob : Own h0.size 1 h ⟨some (at0 a2), 3, 3⟩ [i64v room, slv (slb hb (x.2.length + room)), slv pu]
 obz : ¬ oZ s a2
 obb : a2 ≠ hb ∧ a2 ∉ ws
 blk : Blk n h hb ((x.2.length + room) * 3)
 ra : RoleA s hb
 old : ∀ b, b = hb ∨ b ∈ ws → oZ s0 b ∨ h0.size ≤ b
 len : ws.length = k
 le : k ≤ x.2.length
 el : ∀ (j : Nat) (e : EdD) (b : Nat), j < i → x.2[j]? = some e → ws[j]? = some b → Cells h ⟨hb, j * 3, none⟩ (edC room e b)
 w : ∀ (j : Nat) (e : EdD) (b : Nat), x.2[j]? = some e → ws[j]? = some b → Reg n h b (putC room e)
 rw : ∀ (j b : Nat), ws[j]? = some b → RoleW s j b
 nd : (hb :: ws).Nodup
 put : ∃ vs : List Value, Own h0.size 1 h pu vs ∧ vs.length = k ∧ ∀ (j : Nat) (e : EdD) (b : Nat), x.2[j]? = some e → ws[j]? = some b → vs[j]? = some (slv (slb b (putLen e + room)))
 pub : ∀ a, pu.base = some a → a.block ≠ hb ∧ a.block ∉ ws ∧ ¬ oZ s a.block ∧ a.block ≠ a2
variable {n : Nat} {h0 : Heap} {p : Option Addr} {s0 : Option PenS} {x : Eds} {room hb a2 i k : Nat} {s : Option PenS} {ws : List Nat} {pu : Sl}
structure NewW (n : Nat) (h0 : Heap) (s0 : Option PenS) (hb a2 : Nat) (s : Option PenS) (ws : List Nat) (pu : Sl) (k b : Nat) : Prop where
 role : RoleW s k b
 na : b ≠ a2 ∧ b ≠ hb ∧ b ∉ ws ∧ (∀ a, pu.base = some a → a.block ≠ b)
 old : oZ s0 b ∨ h0.size ≤ b
end Go.Sw.Piece

set_option linter.unusedVariables false
set_option linter.unusedSimpArgs false
set_option maxRecDepth 100000
namespace Go.Sw.Piece
open Go.Sw.Any Go.Sw.Codec
open Go.Sw.Tree (iv s_putAll s_newP s_getP s_getT s_putP eqI_self Placed cell_own wp_whileG minI_eq)
variable {P : Program} {S : Ids} {h : Heap} {Q : Nat → List Value → Heap → Prop}
variable {n : Nat} {h0 : Heap} {p : Option Addr} {s0 : Option PenS} {x : Eds} {room hb a2 i k : Nat} {s : Option PenS} {ws : List Nat} {pu : Sl}
structure HandR (n : Nat) (h : Heap) (x : Eds) (room hb : Nat) (ws : List Nat) (pu : Sl) : Prop where
 len : ws.length = x.2.length
 blk : Blk n h hb ((x.2.length + room) * 3)
 el : ∀ (j : Nat) (e : EdD) (b : Nat), x.2[j]? = some e → ws[j]? = some b → Cells h ⟨hb, j * 3, none⟩ (edC room e b)
 mks : ∀ j : Nat, j < room → Cells h ⟨hb, (x.2.length + j) * 3, none⟩ (markC (x.2.length + j))
 w : ∀ (j : Nat) (e : EdD) (b : Nat), x.2[j]? = some e → ws[j]? = some b → Reg n h b (putC room e)
 nd : (hb :: ws).Nodup
 put : ∃ vs : List Value, Own n 1 h pu vs ∧ vs.length = x.2.length ∧ ∀ (j : Nat) (e : EdD) (b : Nat), x.2[j]? = some e → ws[j]? = some b → vs[j]? = some (slv (slb b (putLen e + room)))
 pub : ∀ a, pu.base = some a → a.block ≠ hb ∧ a.block ∉ ws
end Go.Sw.Piece

set_option linter.unusedVariables false
set_option linter.unusedSimpArgs false
set_option maxRecDepth 100000
namespace Go.Sw.Piece
open Go.Sw.Any Go.Sw.Codec
open Go.Sw.Tree (iv s_putAll s_newP s_getP s_getT s_putP eqI_self Placed cell_own wp_whileG minI_eq)
variable {P : Program} {S : Ids} {h : Heap} {Q : Nat → List Value → Heap → Prop}
variable {n : Nat} {p : Option Addr} {x : Eds} {room hb : Nat} {s : Option PenS} {ws : List Nat} {pu : Sl}
end Go.Sw.Piece

set_option linter.unusedVariables false
set_option linter.unusedSimpArgs false
set_option maxRecDepth 100000
namespace Go.Sw.Piece
open Go.Sw.Any Go.Sw.Codec
open Go.Sw.Tree (iv s_putAll s_newP s_getP s_getT s_putP eqI_self Placed cell_own wp_whileG minI_eq)
variable {P : Program} {S : Ids} {h : Heap} {Q : Nat → List Value → Heap → Prop}
variable {n : Nat} {p : Option Addr} {x : Eds} {room hb : Nat} {s : Option PenS} {ws : List Nat} {pu : Sl}
structure WrR (S : Ids) (n : Nat) (T : TX) (p : Option Addr) (s : Option PenS) (h0 h : Heap) (es : List EdD) (r : Int) (T' : TX) (s' : Option PenS) : Prop where
 ref : RefR T.enc T.limit (toksL T.enc T.cur.ps) es r
 t : TextR S n h T'
 nx : Nxt T T' h0.size
 els : els T.enc T'.cur.ps = if r = 0 then allE (els T.enc T.cur.ps) es else els T.enc T.cur.ps
 len : T'.A.length ≤ T.A.length + 4 * (putsOf es).length
 chg : Chg (fun i => wfoot T i ∨ oZ s i) h0 h
 pen : PenO n h p s'
 zone : ∀ i, oZ s' i → oZ s i ∨ h0.size ≤ i
 far : ∀ i, T'.Z i → ¬ oZ s' i
end Go.Sw.Piece

set_option linter.unusedVariables false
set_option linter.unusedSimpArgs false
set_option maxRecDepth 100000
namespace Go.Sw.Piece
open Go.Sw.Any Go.Sw.Codec
variable {P : Program} {S : Ids} {h : Heap} {Q : Nat → List Value → Heap → Prop}
theorem sum_mem_le {α : Type} (f : α → Nat) {l : List α} {y : α} (hy : y ∈ l) : f y ≤ (l.map f).sum := by
 induction l with
 | nil => cases hy
 | cons z l ih =>
  rw [List.map_cons, List.sum_cons]
  rcases List.mem_cons.1 hy with rfl | hy
  ·omega
  ·have := ih hy; omega
def tg (x : El) : Bool := decide (x.2 ≠ -1)
end Go.Sw.Piece

set_option linter.unusedVariables false
set_option linter.unusedSimpArgs false
set_option maxRecDepth 100000
namespace Go.Sw.Piece
open Go.Sw.Any Go.Sw.Codec
open Go.Sw.Tree (iv s_putAll s_newP s_getP s_getT s_putP eqI_self Placed cell_own wp_whileG minI_eq)
variable {P : Program} {S : Ids} {h : Heap} {Q : Nat → List Value → Heap → Prop}
end Go.Sw.Piece
namespace Go.Sw
open Go.Sw.Piece
open Go.Sw.Any Go.Sw.Codec
open Go.Sw.Tree (iv s_putAll s_newP s_getP s_getT s_putP eqI_self Placed cell_own wp_whileG minI_eq)
variable {P : Program} {S : Ids} {h : Heap} {Q : Nat → List Value → Heap → Prop}
theorem Lst.sub {k : IntKind} {s : Sl} {l : List Int} (hr : Lst k h s l) {i j : Nat} (hi : i ≤ j) (hj : j ≤ l.length) : Lst k h ⟨cutBase s.base s.cap i 1, subN j i, subN s.cap i⟩ ((l.drop i).take (j - i)) := by
 have h1 := hr.tail (i := i) (by omega)
 have hl := hr.len
 have hc := hr.cap
 have hm := hr.max
 exact h1.take (n := j - i) (m := s.cap - i) (by rw [List.length_drop]; omega) (by omega) (by omega)
end Go.Sw
namespace Go.Sw.Piece
open Go.Sw.Any Go.Sw.Codec
open Go.Sw.Tree (iv s_putAll s_newP s_getP s_getT s_putP eqI_self Placed cell_own wp_whileG minI_eq)
variable {P : Program} {S : Ids} {h : Heap} {Q : Nat → List Value → Heap → Prop}
end Go.Sw.Piece

set_option linter.unusedVariables false
set_option linter.unusedSimpArgs false
set_option maxRecDepth 100000
namespace Go.Sw.Piece
open Go.Sw.Any Go.Sw.Codec
open Go.Sw.Tree (iv s_putAll s_newP s_getP s_getT s_putP eqI_self Placed cell_own wp_whileG minI_eq)
variable {P : Program} {S : Ids} {h : Heap} {Q : Nat → List Value → Heap → Prop}
structure On (S : Ids) (n : Nat) (T0 : TX) (hm : Heap) (am : Nat) (h : Heap) (T : TX) : Prop where
 t : TextR S n h T
 nx : Nxt T0 T hm.size
 chg : Chg T0.Z hm h
 A : T.A.length ≤ am
 sm : (bytesL T.cur.ps).length ≤ T.limit
variable {n am : Nat} {T0 T : TX} {hm : Heap}
end Go.Sw.Piece

set_option linter.unusedVariables false
set_option linter.unusedSimpArgs false
set_option maxRecDepth 100000
namespace Go.Sw.Piece
open Go.Sw.Any Go.Sw.Codec
open Go.Sw.Tree (iv s_putAll s_newP s_getP s_getT s_putP eqI_self Placed cell_own wp_whileG minI_eq)
variable {P : Program} {S : Ids} {h : Heap} {Q : Nat → List Value → Heap → Prop}
structure GI (F : Nat → Prop) (hz : Heap) (n a3 : Nat) (h : Heap) (sA sT : Sl) (LA LT : List Int) : Prop where
 held : Held F hz h
 fz : ∀ i, F i → i < hz.size ∧ i ≠ a3 ∧ (∀ a, sA.base = some a → a.block ≠ i) ∧ ∀ a, sT.base = some a → a.block ≠ i
 o3 : Own 0 1 h ⟨some (at0 a3), 3, 3⟩ [slv sA, slv sT, .slice none 0 0]
 la : OwnL n .i64 h sA LA
 lt : OwnL n .i64 h sT LT
 ne : ∀ a b, sA.base = some a → sT.base = some b → a.block ≠ b.block
 an : a3 < n
 nh : n ≤ h.size
variable {F : Nat → Prop} {hz : Heap} {n a3 : Nat} {sA sT : Sl} {LA LT : List Int}
end Go.Sw.Piece

set_option linter.unusedVariables false
set_option linter.unusedSimpArgs false
set_option maxRecDepth 100000
namespace Go.Sw.Piece
open Go.Sw.Any Go.Sw.Codec
open Go.Sw.Tree (iv s_putAll s_newP s_getP s_getT s_putP eqI_self Placed cell_own wp_whileG minI_eq)
variable {P : Program} {S : Ids} {h : Heap} {Q : Nat → List Value → Heap → Prop}
variable {F : Nat → Prop} {hz : Heap} {n a3 : Nat} {sA sT : Sl} {LA LT : List Int}
abbrev SE := Sl × Sl × Sl × Unit
structure ShowR (m : Nat) (h : Heap) (enc : Int) (q : SE) (E : List El) : Prop where
 a : OwnL m .i64 h q.1 (E.map (·.1))
 t : OwnL m .i64 h q.2.1 (E.map (·.2))
 b : OwnL m .u8 h q.2.2.1 ((E.map (·.1)).flatMap (putF enc))
end Go.Sw.Piece

set_option linter.unusedVariables false
set_option linter.unusedSimpArgs false
set_option maxRecDepth 100000
namespace Go.Sw.Piece
open Go.Sw.Any Go.Sw.Codec
open Go.Sw.Tree (iv s_putAll s_newP s_getP s_getT s_putP eqI_self Placed cell_own wp_whileG minI_eq)
variable {P : Program} {S : Ids} {h : Heap} {Q : Nat → List Value → Heap → Prop}
end Go.Sw.Piece

set_option linter.unusedVariables false
set_option linter.unusedSimpArgs false
set_option maxRecDepth 100000
namespace Go.Sw.Piece
open Go.Sw.Any Go.Sw.Codec
open Go.Sw.Tree (iv s_putAll s_newP s_getP s_getT s_putP eqI_self Placed cell_own wp_whileG minI_eq)
variable {P : Program} {S : Ids} {h : Heap} {Q : Nat → List Value → Heap → Prop}
structure RI (h0 : Heap) (n a : Nat) (enc limit : Int) (h : Heap) (sA sT : Sl) (LA LT : List Int) : Prop where
 k : Ext h0 h
 o : Own h0.size 1 h ⟨some (at0 a), 5, 5⟩ [i64v enc, i64v limit, slv sA, slv sT, .slice none 0 0]
 la : OwnL n .i64 h sA LA
 lt : OwnL n .i64 h sT LT
 ne : ∀ a b, sA.base = some a → sT.base = some b → a.block ≠ b.block
 an : a < n
 nh : n ≤ h.size
variable {h0 : Heap} {n a : Nat} {enc limit : Int} {sA sT : Sl} {LA LT : List Int}
structure RX where
 b : Nat
 enc : Int
 limit : Int
 sa : Sl
 st : Sl
 sk : Sl
 E : List El
 K : List (Sl × Sl × List El)
 Z : Nat → Prop
def Shows (n : Nat) (h : Heap) (k : Sl × Sl × List El) : Prop := OwnL n .i64 h k.1 (k.2.2.map (·.1)) ∧ OwnL n .i64 h k.2.1 (k.2.2.map (·.2))
def inK (k : Sl × Sl × List El) (i : Nat) : Prop := (∃ a, k.1.base = some a ∧ a.block = i) ∨ ∃ a, k.2.1.base = some a ∧ a.block = i
structure RefT (n : Nat) (h : Heap) (R : RX) : Prop where
 enc : known R.enc
 lim : 0 ≤ R.limit ∧ R.limit ≤ 65536
 ob : Own n 1 h ⟨some (at0 R.b), 5, 5⟩ [i64v R.enc, i64v R.limit, slv R.sa, slv R.st, slv R.sk]
 cur : Shows n h (R.sa, R.st, R.E)
 sk : Own n 2 h R.sk (R.K.flatMap fun k => [slv k.1, slv k.2.1])
 kept : ∀ k, k ∈ R.K → Shows n h k
 zb : R.Z R.b
 zc : ∀ i, inK (R.sa, R.st, R.E) i → R.Z i ∧ i ≠ R.b ∧ ∀ a, R.sk.base = some a → a.block ≠ i
 zk : ∀ k, k ∈ R.K → ∀ i, inK k i → R.Z i ∧ i ≠ R.b ∧ ∀ a, R.sk.base = some a → a.block ≠ i
 zs : ∀ a, R.sk.base = some a → R.Z a.block ∧ a.block ≠ R.b
 lo : ∀ i, R.Z i → n ≤ i ∧ i < h.size
 fit : ∀ a, a ∈ R.E.map (·.1) → 0 < sizeF R.enc a
inductive ROpenR (h0 h : Heap) (enc limit : Int) (l : List Int) : Option Addr → Int → Prop where
 | enc : ¬ known enc → ROpenR h0 h enc limit l none 10
 | arg : known enc → ¬ (0 ≤ limit ∧ limit ≤ 65536) → ROpenR h0 h enc limit l none 1
 | full : known enc → 0 ≤ limit ∧ limit ≤ 65536 → limit < l.length → ROpenR h0 h enc limit l none 50
 | ok (R : RX) : known enc → 0 ≤ limit ∧ limit ≤ 65536 → l.length ≤ limit → RefT h0.size h R → R.enc = enc → R.limit = limit → R.K = [] → R.E = elsF 0 0 (toks enc l) → (∀ i, R.Z i → h0.size ≤ i) → ROpenR h0 h enc limit l (some (at0 R.b)) 0
end Go.Sw.Piece

set_option linter.unusedVariables false
set_option linter.unusedSimpArgs false
set_option maxRecDepth 100000
namespace Go.Sw.Piece
open Go.Sw.Any Go.Sw.Codec
open Go.Sw.Tree (iv s_putAll s_newP s_getP s_getT s_putP eqI_self Placed cell_own wp_whileG minI_eq)
variable {P : Program} {S : Ids} {h : Heap} {Q : Nat → List Value → Heap → Prop}
structure PairR (S : Ids) (n : Nat) (h : Heap) (T : TX) (R : RX) : Prop where
 t : TextR S n h T
 r : RefT n h R
 enc : R.enc = T.enc
 limit : R.limit = T.limit
 E : R.E = els T.enc T.cur.ps
 sm : (bytesL T.cur.ps).length ≤ T.limit
 far : ∀ i, T.Z i → ¬ R.Z i
end Go.Sw.Piece

set_option linter.unusedVariables false
set_option linter.unusedSimpArgs false
set_option maxRecDepth 100000
namespace Go.Sw.Piece
open Go.Sw.Any Go.Sw.Codec
open Go.Sw.Tree (iv s_putAll s_newP s_getP s_getT s_putP eqI_self Placed cell_own wp_whileG minI_eq)
variable {P : Program} {S : Ids} {h : Heap} {Q : Nat → List Value → Heap → Prop}
end Go.Sw.Piece

set_option linter.unusedVariables false
set_option linter.unusedSimpArgs false
set_option maxRecDepth 100000
namespace Go.Sw.Piece
open Go.Sw.Any Go.Sw.Codec
open Go.Sw.Tree (iv s_putAll s_newP s_getP s_getT s_putP eqI_self Placed cell_own wp_whileG minI_eq)
variable {P : Program} {S : Ids} {h : Heap} {Q : Nat → List Value → Heap → Prop}
def isE (A : List Int) (i : Nat) : Bool := decide (A.getD i 0 = 10 ∨ (A.getD i 0 = 13 ∧ A.getD (i + 1) 0 ≠ 10))
def cntE (A : List Int) : Nat → Nat
 | 0 => 0
 | n + 1 => cntE A n + if isE A n = true then 1 else 0
theorem cntE_succ (A : List Int) (n : Nat) : cntE A (n + 1) = cntE A n + if isE A n = true then 1 else 0 := rfl
def seam (A : List Int) (n : Nat) : Nat := if 1 ≤ n ∧ A.getD (n - 1) 0 = 13 ∧ A.getD n 0 = 10 then 1 else 0
theorem cntE_mono (A : List Int) {m n : Nat} (h : m ≤ n) : cntE A m ≤ cntE A n := by
 induction n with
 | zero => rw [show m = 0 by omega]; exact Nat.le_refl _
 | succ n ih =>
  by_cases e : m = n + 1
  ·rw [e]; exact Nat.le_refl _
  ·have := ih (by omega); rw [cntE_succ]; omega
theorem getD_end {A : List Int} {i : Nat} (h : A.length ≤ i) : A.getD i 0 = 0 := by rw [List.getD_eq_getElem?_getD, List.getElem?_eq_none h]; rfl
theorem cntE_le (A : List Int) (n : Nat) : cntE A n ≤ n := by
 induction n with
 | zero => exact Nat.le_refl _
 | succ n ih => rw [cntE_succ]; split <;> omega
theorem seam_end (A : List Int) : seam A A.length = 0 := by unfold seam; rw [getD_end (Nat.le_refl _), if_neg (by omega)]
abbrev rawE (A : List Int) (n : Nat) : Nat := cntE A n + seam A n
theorem rawE_succ (A : List Int) (n : Nat) : rawE A (n + 1) = cntE A n + if A.getD n 0 = 10 ∨ A.getD n 0 = 13 then 1 else 0 := by
 unfold rawE seam
 rw [cntE_succ, Nat.add_sub_cancel]
 unfold isE
 generalize A.getD n 0 = a
 generalize A.getD (n + 1) 0 = b
 by_cases h1 : a = 10
 ·subst h1; simp
 ·by_cases h2 : a = 13
  ·subst h2
   by_cases h3 : b = 10 <;> simp [h3]
  ·simp [h1, h2]
theorem raw_is {ts : List (Int × Int)} : ∀ n, n ≤ ts.length → (sumT (ts.take n)).2.2.1 = rawE (ts.map (·.1)) n ∧ (sumT (ts.take n)).2.2.2.2.1 = decide (1 ≤ n ∧ (ts.map (·.1)).getD (n - 1) 0 = 13) ∧ (sumT (ts.take n)).1 = n
 | 0, _ => ⟨rfl, by simp; rfl, rfl⟩
 | n + 1, hn => by
  obtain ⟨i1, i2, i3⟩ := raw_is (ts := ts) n (by omega)
  obtain ⟨t, ht⟩ : ∃ t, ts[n]? = some t := ⟨ts[n]'(by omega), List.getElem?_eq_getElem (by omega)⟩
  have htk : ts.take (n + 1) = ts.take n ++ [t] := by rw [List.take_add_one, ht]; rfl
  have ha : (ts.map (·.1)).getD n 0 = t.1 := by rw [List.getD_eq_getElem?_getD, List.getElem?_map, ht]; rfl
  rw [htk, sumT_snoc, rawE_succ, ha]
  generalize sumT (ts.take n) = s at i1 i2 i3
  unfold addS
  by_cases h0 : n = 0
  ·subst h0
   have i3 : s.1 = 0 := i3
   rw [if_pos i3]
   refine ⟨?_, ?_, rfl⟩
   ·show (if t.1 = 10 ∨ t.1 = 13 then (1 : Int) else 0) = _
    by_cases h : t.1 = 10 ∨ t.1 = 13
    ·rw [if_pos h, if_pos h]; rfl
    ·rw [if_neg h, if_neg h]; rfl
   ·show decide (t.1 = 13) = _
    rw [Nat.add_sub_cancel, ha]; simp
  ·rw [if_neg (by omega), if_neg (show (oneS t).1 ≠ 0 by show (1 : Int) ≠ 0; decide)]
   refine ⟨?_, ?_, by show s.1 + 1 = _; omega⟩
   ·show s.2.2.1 + (if t.1 = 10 ∨ t.1 = 13 then (1 : Int) else 0) - brk s (oneS t) = _
    have hbr : brk s (oneS t) = (seam (ts.map (·.1)) n : Int) := by
     unfold brk seam
     rw [i2, ha]
     show (if decide (1 ≤ n ∧ (ts.map (·.1)).getD (n - 1) 0 = 13) = true ∧ decide (t.1 = 10) = true then (1 : Int) else 0) = _
     by_cases h : 1 ≤ n ∧ (ts.map (·.1)).getD (n - 1) 0 = 13 ∧ t.1 = 10
     ·rw [if_pos h, if_pos ⟨decide_eq_true ⟨h.1, h.2.1⟩, decide_eq_true h.2.2⟩]; rfl
     ·rw [if_neg h, if_neg (fun k => h ⟨(of_decide_eq_true k.1).1, (of_decide_eq_true k.1).2, of_decide_eq_true k.2⟩)]; rfl
    rw [hbr, i1]
    unfold rawE
    by_cases h : t.1 = 10 ∨ t.1 = 13
    ·rw [if_pos h, if_pos h]; omega
    ·rw [if_neg h, if_neg h]; omega
   ·show decide (t.1 = 13) = _
    rw [Nat.add_sub_cancel, ha]; simp
def SeekP (A : List Int) (k : Int) (y : Int) : Prop := ∃ m : Nat, y = m ∧ 1 ≤ m ∧ m ≤ A.length ∧ (cntE A m : Int) = k ∧ (cntE A (m - 1) : Int) + 1 = k
theorem SeekP.fn {A : List Int} {k y y' : Int} (h : SeekP A k y) (h' : SeekP A k y') : y = y' := by
 obtain ⟨m, rfl, a, b, c, d⟩ := h
 obtain ⟨m', rfl, a', b', c', d'⟩ := h'
 by_cases h1 : m < m'
 ·have := cntE_mono A (m := m) (n := m' - 1) (by omega); omega
 ·by_cases h2 : m' < m
  ·have := cntE_mono A (m := m') (n := m - 1) (by omega); omega
  ·omega
theorem seek_fin {A : List Int} {k : Int} {n : Nat} (h1 : 1 ≤ n) (hn : n ≤ A.length) (hk : k ≤ rawE A n) (hlt : (rawE A (n - 1) : Int) < k) : SeekP A k (if A.getD (n - 1) 0 = 13 ∧ A.getD n 0 = 10 then (n : Int) + 1 else n) := by
 obtain ⟨q, rfl⟩ : ∃ q, n = q + 1 := ⟨n - 1, by omega⟩
 rw [rawE_succ] at hk
 rw [Nat.add_sub_cancel] at hlt ⊢
 unfold rawE at hlt
 have hin : A.getD q 0 = 10 ∨ A.getD q 0 = 13 := by
  by_cases h : A.getD q 0 = 10 ∨ A.getD q 0 = 13
  ·exact h
  ·rw [if_neg h] at hk; omega
 rw [if_pos hin] at hk
 have hq : (cntE A q : Int) + 1 = k := by omega
 by_cases hs : A.getD q 0 = 13 ∧ A.getD (q + 1) 0 = 10
 ·rw [if_pos hs]
  have he : isE A q = false := decide_eq_false fun h => by rcases h with h | h <;> omega
  have he2 : isE A (q + 1) = true := decide_eq_true (.inl hs.2)
  have c1 : cntE A (q + 1) = cntE A q := by rw [cntE_succ, he]; simp
  have c2 : cntE A (q + 2) = cntE A (q + 1) + 1 := by rw [cntE_succ, he2]; simp
  have hl : q + 2 ≤ A.length := by
   by_cases h : q + 1 < A.length
   ·omega
   ·have := hs.2; rw [getD_end (by omega)] at this; omega
  exact ⟨q + 2, by omega, by omega, hl, by omega, by show (cntE A (q + 1) : Int) + 1 = k; omega⟩
 ·rw [if_neg hs]
  have he : isE A q = true := by
   unfold isE
   rw [decide_eq_true_iff]
   rcases hin with h | h
   ·exact .inl h
   ·exact .inr ⟨h, fun h2 => hs ⟨h, h2⟩⟩
  have c1 : cntE A (q + 1) = cntE A q + 1 := by rw [cntE_succ, he]; simp
  exact ⟨q + 1, by omega, by omega, hn, by omega, by rw [Nat.add_sub_cancel]; exact hq⟩
theorem cut_one (E : List El) (n : Nat) (hE : E.length ≤ 1099511627776) : (cutL E (n : Int) ((n : Int) + 1)).map (fun x : El => x.1) = ((E.map (·.1)).drop n).take 1 := by
 unfold cutL
 rw [show (max (n : Int) 0).toNat = n by omega]
 by_cases h : n < E.length
 ·rw [show (min ((n : Int) + 1) (E.length : Int)).toNat = n + 1 by omega, List.drop_take, Nat.add_sub_cancel_left, List.map_take, List.map_drop]
 ·rw [List.drop_eq_nil_of_le (by rw [List.length_take]; omega), List.drop_eq_nil_of_le (by rw [List.length_map]; omega)]; rfl
theorem els_atoms (enc : Int) (ps : List Pc) : (els enc ps).map (fun x : El => x.1) = (toksL enc ps).map (·.1) := els_fst enc ps
theorem c_Breaks (M : Meth0 P S) (C : Cl0 P S) {n : Nat} {T : TX} {at_ : Int} (t : TextR S n h T) (hat : fitsI .i64 at_) :
  Gives P (F_Text_Breaks S (some T.p) at_) [.one (.int .i64)] h fun (y : Int × Unit) _ => y.1 = cntE ((els T.enc T.cur.ps).map (·.1)) (min (max at_ 0) (els T.enc T.cur.ps).length).toNat := by
 unfold F_Text_Breaks Gives
 have hf := t.cur.few t.lim.2
 have hEl := els_len T.enc T.cur.ps
 have hat := fits_i64.1 hat
 rw [els_atoms]
 have ri := fun n (hn : n ≤ (toksL T.enc T.cur.ps).length) => raw_is (ts := toksL T.enc T.cur.ps) n hn
 generalize hA : (toksL T.enc T.cur.ps).map (fun x : Int × Int => x.1) = A at ri ⊢
 have hAl : A.length = (els T.enc T.cur.ps).length := by rw [← hA, List.length_map, hEl]
 refine wp_ifB (fun hc => ?_) fun hc => ?_
 ·rw [leI_iff] at hc
  refine s_ret ⟨rfl, Ext.refl _, (0, ()), rfl, ?_⟩
  show (0 : Int) = _
  rw [show (min (max at_ 0) (els T.enc T.cur.ps).length).toNat = 0 by omega]; rfl
 rw [leI_not] at hc
 refine wp_call (c_Len t) fun ⟨(L : Int), _⟩ h1 e1 hL => ?_
 have hL : L = (els T.enc T.cur.ps).length := hL
 subst hL
 have t1 := t.ext e1
 refine wp_ifB (fun hd => ?_) fun hd => ?_
 ·rw [geI_iff] at hd
  dsimp only at hd
  refine s_root t1 (wp_call (c_TSum t1) fun x h2 e2 hx => s_ret ⟨rfl, e1.trans e2, (_, ()), rfl, ?_⟩)
  have hx : x.1 = _ := hx
  show x.1.2.2.1 = _
  rw [hx, show (min (max at_ 0) (els T.enc T.cur.ps).length).toNat = A.length by omega]
  have := (ri (toksL T.enc T.cur.ps).length (Nat.le_refl _)).1
  rw [List.take_length, ← hEl, ← hAl] at this
  rw [this]
  unfold rawE
  rw [seam_end]; rfl
 rw [geI_not] at hd
 dsimp only at hd
 refine wp_call (c_ahead M t1 (by omega) (by rw [← hEl]; omega)) fun ⟨(s : Sums), _⟩ h2 e2 hs => ?_
 have hs : s = sumT ((toksL T.enc T.cur.ps).take at_.toNat) := hs
 obtain ⟨r1, r2, r3⟩ := ri at_.toNat (by omega)
 rw [← hs] at r1 r2 r3
 refine s_putO (bs := SB) (z := zS) s (by decide) (flatS _) fun h3 e3 o3 => ?_
 have t3 := (t1.ext e2).ext e3
 refine bind_bool (A.getD (at_.toNat - 1) 0 = 13 ∧ A.getD at_.toNat 0 = 10) ?_ fun bb h4 e4 hb4 => ?_
 ·refine wp_load1 (b := .bool) _ s.2.2.2.2.1 rfl (cells_iff.1 o3.cells 4 _ rfl) (wp_ifB (fun hx => ?_) fun hx => ?_)
  ·rw [r2] at hx
   have hx := of_decide_eq_true hx
   have hadd : addI .i64 at_ 1 = at_ + 1 := add_ok (by omega) (by omega)
   rw [hadd]
   refine wp_call (c_Atoms M C (from_ := at_) t3 (fits_i64.2 (by omega))) fun ⟨(sa : Sl), _⟩ h4 e4 oa => ?_
   have oa : OwnL h3.size .i64 h4 sa ((cutL (els T.enc T.cur.ps) at_ (at_ + 1)).map (·.1)) := oa
   have hcut := cut_one (els T.enc T.cur.ps) at_.toNat (by omega)
   rw [show ((at_.toNat : Nat) : Int) = at_ by omega, els_atoms, hA] at hcut
   rw [hcut] at oa
   have hlt : at_.toNat < A.length := by omega
   have hone : (A.drop at_.toNat).take 1 = [A.getD at_.toNat 0] := by
    rw [List.drop_eq_getElem_cons hlt, List.getD_eq_getElem?_getD, List.getElem?_eq_getElem hlt]; rfl
   rw [hone] at oa
   dsimp only
   refine s_at0 oa.lst (n := 0) (by simp) fun _ => s_ret ⟨rfl, e4, _, rfl, ?_⟩
   show eqI (A.getD at_.toNat 0) 10 = true ↔ _
   rw [eqI_iff]
   exact ⟨fun h => ⟨hx.2, h⟩, fun h => h.2⟩
  ·rw [r2] at hx
   have hx := of_decide_eq_false hx
   exact s_ret ⟨rfl, Ext.refl _, false, rfl, Iff.intro (fun h => by cases h) fun h => absurd ⟨by omega, h.1⟩ hx⟩
 have o4 := o3.ext e4
 have e04 := ((e1.trans e2).trans e3).trans e4
 have hmin : (min (max at_ 0) (els T.enc T.cur.ps).length).toNat = at_.toNat := by omega
 rw [hmin]
 have hcl := cntE_le A at_.toNat
 refine wp_ifB (fun hx => ?_) fun hx => ?_
 ·have hx := hb4.1 hx
  have hs1 : seam A at_.toNat = 1 := by unfold seam; rw [if_pos ⟨by omega, hx⟩]
  refine wp_load1 (b := .int .i64) _ s.2.2.1 rfl (cells_iff.1 o4.cells 2 _ rfl) ?_
  rw [r1]
  unfold rawE
  rw [hs1, sub_ok (by omega) (by omega)]
  exact s_ret ⟨rfl, e04, (_, ()), rfl, by show (((cntE A at_.toNat + 1 : Nat) : Int) - 1) = _; omega⟩
 ·have hx : ¬ (A.getD (at_.toNat - 1) 0 = 13 ∧ A.getD at_.toNat 0 = 10) := fun h => by rw [hb4.2 h] at hx; cases hx
  have hs1 : seam A at_.toNat = 0 := by unfold seam; rw [if_neg fun h => hx h.2]
  refine wp_load1 (b := .int .i64) _ s.2.2.1 rfl (cells_iff.1 o4.cells 2 _ rfl) (s_ret ⟨rfl, e04, (_, ()), rfl, ?_⟩)
  show s.2.2.1 = _
  rw [r1]; unfold rawE; rw [hs1]; rfl
theorem c_Seek (M : Meth0 P S) (C : Cl0 P S) {n : Nat} {T : TX} {k : Int} (t : TextR S n h T) :
  Gives P (F_Text_Seek S (some T.p) k) [.one (.int .i64)] h fun (y : Int × Unit) _ => (k = 0 → y.1 = 0) ∧ ((k < 0 ∨ (cntE ((els T.enc T.cur.ps).map (·.1)) (els T.enc T.cur.ps).length : Int) < k) → y.1 = -1) ∧ (0 < k → k ≤ cntE ((els T.enc T.cur.ps).map (·.1)) (els T.enc T.cur.ps).length → SeekP ((els T.enc T.cur.ps).map (·.1)) k y.1) := by
 unfold F_Text_Seek Gives
 have hf := t.cur.few t.lim.2
 have hEl := els_len T.enc T.cur.ps
 rw [els_atoms]
 have ri := fun n (hn : n ≤ (toksL T.enc T.cur.ps).length) => raw_is (ts := toksL T.enc T.cur.ps) n hn
 have okt : okT (toksL T.enc T.cur.ps) := okT_toksL t.cur.bytes
 generalize hA : (toksL T.enc T.cur.ps).map (fun x : Int × Int => x.1) = A at ri ⊢
 have hAl : A.length = (toksL T.enc T.cur.ps).length := by rw [← hA, List.length_map]
 have hAE : (els T.enc T.cur.ps).length = A.length := by rw [hEl, hAl]
 rw [hAE]
 have hcnt := cntE_le A A.length
 refine wp_ifB (fun hc => ?_) fun hc => ?_
 ·rw [eqI_iff] at hc
  exact s_ret ⟨rfl, Ext.refl _, (0, ()), rfl, fun _ => rfl, fun h => by omega, fun h => by omega⟩
 rw [eqI_not] at hc
 have O := part_ok S T.Z (P := P)
 have hrl : ((sumT (toksL T.enc T.cur.ps)).2.2.1 : Int) = cntE A A.length := by
  have := (ri (toksL T.enc T.cur.ps).length (Nat.le_refl _)).1
  rw [List.take_length, ← hAl] at this
  rw [this]; unfold rawE; rw [seam_end]; rfl
 refine bind_bool (k < 0 ∨ (cntE A A.length : Int) < k) ?_ fun bb h1 e1 hb1 => wp_ifB (fun hx => ?_) fun hx => ?_
 ·refine wp_ifB (fun hd => s_ret ⟨rfl, Ext.refl _, true, rfl, Iff.intro (fun _ => .inl (ltI_iff.1 hd)) fun _ => rfl⟩) fun hd => s_root t (wp_call (c_TSum t) fun x h1 e1 hx => s_ret ⟨rfl, e1, _, rfl, ?_⟩)
  rw [ltI_not] at hd
  have hx : x.1 = _ := hx
  rw [gtI_iff, hx, hrl]
  omega
 ·have := hb1.1 hx
  exact s_ret ⟨rfl, e1, (-1, ()), rfl, fun h => absurd h hc, fun _ => rfl, fun h h2 => by omega⟩
 have hk : 0 < k ∧ k ≤ (cntE A A.length : Int) := by
  have : ¬ (k < 0 ∨ (cntE A A.length : Int) < k) := fun h => by rw [hb1.2 h] at hx; cases hx
  omega
 have t1 := t.ext e1
 refine s_root t1 (wp_call (R := fun (x : Int × Unit) _ => Any.Found (part S T.Z) T.cur.t.list (Int.ofNat 1) k x.1) (c_Find O t1.cur.nd t1.cur.wf (t1.cur.room t1.lim.2)) fun ⟨(f : Int), _⟩ h2 e2 hx => ?_)
 have t2 := t1.ext e2
 have hlenP : T.cur.t.list.length = T.cur.ps.length := by rw [t.cur.ls, List.length_map]
 have key : ∀ i, keyS (sumPs (T.cur.t.list.take i)) (Int.ofNat 1) = rawE A (toksL T.enc (T.cur.ps.take i)).length := fun i => by
  rw [t.cur.ls, ← List.map_take, sum_ps fun q hq => t.cur.pcs q (List.mem_of_mem_take hq)]
  have hpre : toksL T.enc (T.cur.ps.take i) = (toksL T.enc T.cur.ps).take (toksL T.enc (T.cur.ps.take i)).length := by
   have : toksL T.enc T.cur.ps = toksL T.enc (T.cur.ps.take i) ++ toksL T.enc (T.cur.ps.drop i) := by unfold toksL; rw [← List.flatMap_append, List.take_append_drop]
   rw [this, List.take_left' rfl]
  have h1 := (ri _ (toksL_take_le T.cur.ps i)).1
  rw [← hpre] at h1
  exact h1
 have hx : (f = 0 ∧ k ≤ 0) ∨ (1 ≤ f ∧ f ≤ T.cur.t.list.length ∧ k ≤ keyS (sumPs (T.cur.t.list.take f.toNat)) (Int.ofNat 1) ∧ keyS (sumPs (T.cur.t.list.take (f.toNat - 1))) (Int.ofNat 1) < k) ∨ (f = T.cur.t.list.length + 1 ∧ keyS (sumPs T.cur.t.list) (Int.ofNat 1) < k) := hx
 have kall : keyS (sumPs T.cur.t.list) (Int.ofNat 1) = cntE A A.length := by
  have := key T.cur.ps.length
  rw [List.take_of_length_le (by omega), List.take_of_length_le (Nat.le_refl _), ← hAl] at this
  rw [this]; unfold rawE; rw [seam_end]; rfl
 rw [key, key, kall, hlenP] at hx
 obtain ⟨f1, f2, f3, f4⟩ : 1 ≤ f ∧ f ≤ T.cur.ps.length ∧ k ≤ rawE A (toksL T.enc (T.cur.ps.take f.toNat)).length ∧ (rawE A (toksL T.enc (T.cur.ps.take (f.toNat - 1))).length : Int) < k := by
  rcases hx with h | h | h
  ·omega
  ·exact h
  ·omega
 obtain ⟨i, rfl⟩ : ∃ i : Nat, f = (i : Int) + 1 := ⟨f.toNat - 1, by omega⟩
 rw [show ((i : Int) + 1).toNat = i + 1 by omega] at f3 f4
 rw [Nat.add_sub_cancel] at f4
 have hil : i < T.cur.ps.length := by omega
 obtain ⟨q, hq⟩ : ∃ q, T.cur.ps[i]? = some q := ⟨T.cur.ps[i]'hil, List.getElem?_eq_getElem hil⟩
 have hqm := List.mem_of_getElem? hq
 have hpsl : T.cur.ps.length ≤ 1099511627776 := by
  have h1 := W_len O T.cur.t.list; have h2 := Nat.le_trans h1 hf.2; rw [← hlenP]; exact h2
 have hsub : subI .i64 ((i : Int) + 1) 1 = (i : Int) := by rw [sub_ok (by omega) (by omega)]; omega
 dsimp only
 rw [hsub]
 refine s_root t2 (wp_call (R := fun (x : Sums × Unit) _ => x.1 = sumPs (T.cur.t.list.take ((i : Int)).toNat)) (c_Upto' O t2.cur.nd t2.cur.wf (t2.cur.room t2.lim.2)) fun ⟨(s : Sums), _⟩ h3 e3 hs => ?_)
 have hs : s = sumT (toksL T.enc (T.cur.ps.take i)) := by
  have hs : s = _ := hs
  rw [hs, Int.toNat_natCast, t.cur.ls, ← List.map_take, sum_ps fun q hq => t.cur.pcs q (List.mem_of_mem_take hq)]
 subst hs
 dsimp only
 refine s_putO (bs := SB) (z := zS) (sumT (toksL T.enc (T.cur.ps.take i))) (by decide) (flatS _) fun h4 e4 o4 => ?_
 have t4 := (t2.ext e3).ext e4
 have hx4 : T.cur.t.list[((i : Int)).toNat]? = some q.1 := by rw [Int.toNat_natCast, t.cur.ls, List.getElem?_map, hq]; rfl
 refine s_root t4 (wp_call (R := fun (y : Part × Bool × Unit) _ => y.1 = q.1 ∧ y.2.1 = true) (c_At O t4.cur.nd t4.cur.wf (Nat.le_of_lt (t4.cur.room t4.lim.2)) (by omega) hx4) fun ⟨(y : Part), (ok : Bool), _⟩ h5 e5 ⟨hy, hok⟩ => ?_)
 have hy : y = q.1 := hy
 subst hy
 dsimp only
 refine s_newO (bs := PB) zP (by decide) fun h6 e6 o6 => s_stoO (bs := PB) q.1 o6 (flatP _) fun h7 o7 u7 => ?_
 have e57 : Ext h4 h7 := Upd.extN (e5.trans e6) u7 (by intro x hx; cases hx; have := e5.size; dsimp only; omega)
 have t7 := t4.ext e57
 have q34 : h3.size < h4.size := (o4.lt rfl).2
 have o47 : Own h3.size 1 h7 ⟨some ⟨h3.size, 0, none⟩, 5, 5⟩ (Bs.inj SB (sumT (toksL T.enc (T.cur.ps.take i)))) := o4.ext e57
 have e07 := (((e1.trans e2).trans e3).trans e4).trans e57
 have pc := t7.cur.pcs q hqm
 generalize hn0 : (toksL T.enc (T.cur.ps.take i)).length = n0 at f4
 have hsucc := toksL_succ (enc := T.enc) hq
 have hn1 : (toksL T.enc (T.cur.ps.take (i + 1))).length = n0 + (toks T.enc q.2).length := by rw [hsucc, List.length_append, hn0]
 rw [hn1] at f3
 have hall : toksL T.enc T.cur.ps = toksL T.enc (T.cur.ps.take i) ++ (toks T.enc q.2 ++ toksL T.enc (T.cur.ps.drop (i + 1))) := by
  rw [← List.append_assoc, ← hsucc]
  unfold toksL; rw [← List.flatMap_append, List.take_append_drop]
 have hle1 : n0 + (toks T.enc q.2).length ≤ (toksL T.enc T.cur.ps).length := by rw [hall, List.length_append, List.length_append, hn0]; omega
 have htk : ∀ j, j ≤ (toks T.enc q.2).length → (toksL T.enc T.cur.ps).take (n0 + j) = toksL T.enc (T.cur.ps.take i) ++ (toks T.enc q.2).take j := fun j hj => by
  rw [hall, List.take_append, List.take_of_length_le (by omega), hn0, Nat.add_sub_cancel_left, List.take_append_of_le_length hj]
 have hby : isBytes q.2 := pc.bytes
 have tl := toks_len (enc := T.enc) hby
 have hof := toks_offs (enc := T.enc) hby
 have hqlen := pc.lst.len
 have hqle := pc.len
 refine wp_whileG (G := Nat) (fun j (r : Int × Unit) h' => j ≤ (toks T.enc q.2).length ∧ r.1 = offs ((toks T.enc q.2).take j) ∧ (1 ≤ j → (rawE A (n0 + j - 1) : Int) < k) ∧ Ext h3 h' ∧ Ext h h' ∧ TextR S n h' T ∧ Own h3.size 1 h' ⟨some ⟨h3.size, 0, none⟩, 5, 5⟩ (Bs.inj SB (sumT ((toksL T.enc T.cur.ps).take (n0 + j)))) ∧ Own h5.size 1 h' ⟨some ⟨h5.size, 0, none⟩, 7, 7⟩ (Bs.inj PB q.1)) (fun j => (toks T.enc q.2).length - j)
  (fun tag vs h' => tag = 3 ∧ vs = [] ∧ ∃ N : Nat, 1 ≤ N ∧ N ≤ (toksL T.enc T.cur.ps).length ∧ k ≤ rawE A N ∧ (rawE A (N - 1) : Int) < k ∧ Ext h h' ∧ TextR S n h' T ∧ Own h3.size 1 h' ⟨some ⟨h3.size, 0, none⟩, 5, 5⟩ (Bs.inj SB (sumT ((toksL T.enc T.cur.ps).take N))))
  0 ⟨Nat.zero_le _, rfl, fun h => by omega, e4.trans e57, e07, t7, by rw [htk 0 (Nat.zero_le _), List.take_zero, List.append_nil]; exact o47, o7⟩ ?_ ?_
 ·rintro j ⟨(r : Int), u⟩ h8 ⟨hj, hr, hprev, e8, e08, t8, o8, p8⟩
  dsimp only at hr ⊢
  subst hr
  obtain ⟨rj1, rj2, rj3⟩ := ri (n0 + j) (by omega)
  have hto := toks_at (enc := T.enc) hby j hj
  have hsp : offs (toks T.enc q.2) = offs ((toks T.enc q.2).take j) + offs ((toks T.enc q.2).drop j) := by rw [← offs_append, List.take_append_drop]
  refine bind_bool (offs ((toks T.enc q.2).take j) < q.2.length ∧ (rawE A (n0 + j) : Int) < k) ?_ fun bb h9 e9 hb9 => wp_ifB (fun hx => ?_) fun hx => ?_
  ·refine wp_load1 (b := .sl) _ q.1.1 rfl (cells_iff.1 p8.cells 0 _ rfl) (wp_ifB (fun hd => ?_) fun hd => s_ret ⟨rfl, Ext.refl _, false, rfl, Iff.intro (fun h => by cases h) fun h => ?_⟩)
   ·rw [ltI_iff, natI_def, hqlen] at hd
    refine wp_load1 (b := .int .i64) _ _ rfl (cells_iff.1 o8.cells 2 _ rfl) (s_ret ⟨rfl, Ext.refl _, _, rfl, ?_⟩)
    rw [ltI_iff, rj1]
    exact ⟨fun h => ⟨by omega, h⟩, fun h => h.2⟩
   ·rw [ltI_not, natI_def, hqlen] at hd
    omega
  ·obtain ⟨c1, c2⟩ := hb9.1 hx
   have t9 := t8.ext e9
   have o9 := o8.ext e9; have p9 := p8.ext e9
   have hjl : j < (toks T.enc q.2).length := by
    by_cases h : j < (toks T.enc q.2).length
    ·exact h
    ·rw [List.drop_eq_nil_of_le (by omega), offs_nil] at hsp; omega
   obtain ⟨tt, htt⟩ : ∃ tt, (toks T.enc q.2)[j]? = some tt := ⟨(toks T.enc q.2)[j]'hjl, List.getElem?_eq_getElem hjl⟩
   have hdl : 0 < (q.2.drop (offs ((toks T.enc q.2).take j))).length := by rw [List.length_drop]; omega
   have hft : firstF T.enc (q.2.drop (offs ((toks T.enc q.2).take j))) = tt := by
    have h1 := toks_cons (enc := T.enc) (hby.drop (offs ((toks T.enc q.2).take j))) hdl
    rw [hto.2, List.drop_eq_getElem_cons hjl, (List.getElem?_eq_some_iff.1 htt).2] at h1
    exact (List.cons.inj h1).1.symm
   have hts := toks_size (enc := T.enc) hby tt (List.mem_of_getElem? htt)
   have hoff : offs ((toks T.enc q.2).take (j + 1)) = offs ((toks T.enc q.2).take j) + tt.2.toNat := by rw [List.take_add_one, htt, offs_append]; simp [offs]
   have hsn : (toksL T.enc T.cur.ps).take (n0 + (j + 1)) = (toksL T.enc T.cur.ps).take (n0 + j) ++ [tt] := by
    rw [htk (j + 1) hjl, htk j hj, List.append_assoc]; congr 1
    rw [List.take_add_one, htt]; rfl
   refine s_enc t9 (wp_load1 (b := .sl) _ q.1.1 rfl (cells_iff.1 p9.cells 0 _ rfl) (wp_call (c_Next M (t9.cur.pcs q hqm).lst) fun ⟨(y1 : Int), (y2 : Int), _⟩ h10 e10 hy => ?_))
   have hy : y1 = tt.1 ∧ y2 = tt.2 := by
    rcases hy with ⟨hn, _, _⟩ | ⟨_, _, _, hy⟩
    ·rcases hn with h | h | h
     ·exact absurd t.enc h
     ·omega
     ·omega
    ·rw [Int.toNat_natCast, hft] at hy
     exact ⟨congrArg Prod.fst hy, congrArg Prod.snd hy⟩
   obtain ⟨rfl, rfl⟩ := hy
   dsimp only
   refine s_getO (bs := SB) (o9.ext e10) (wp_call c_single fun ⟨(o : Sums), _⟩ h11 e11 ho => ?_)
   have ho : o = oneS (tt.1, tt.2) := ho
   subst ho
   dsimp only
   refine s_ckO (bs := SB) ((o9.ext e10).ext e11) (wp_call (c_Add (VS.sumT (okt.take (n0 + j))) (VS.one hts) (by rw [List.length_take]; omega)) fun ⟨(o : Sums), _⟩ h12 e12 ho => ?_)
   have ho : o = _ := ho
   subst ho
   have e812 := ((e9.trans e10).trans e11).trans e12
   refine s_stoO (bs := SB) (addS (sumT ((toksL T.enc T.cur.ps).take (n0 + j))) (oneS (tt.1, tt.2))) (o8.ext e812) (flatS _) fun h13 o13 u13 => ?_
   have c13 : Chg (fun i => i = h3.size) h12 h13 := upd_chg u13
   have e813 : Ext h3 h13 := Upd.extN (e8.trans e812) u13 (by intro z hz; cases hz; exact Nat.le_refl _)
   have q03 : h.size ≤ h3.size := ((e1.trans e2).trans e3).size
   have e013 : Ext h h13 := Upd.extN (e08.trans e812) u13 (by intro z hz; cases hz; exact q03)
   have nz : ∀ i, T.Z i → i < h3.size := fun i hi => by have := (t.lo i hi).2; omega
   have t13 := (t8.ext e812).chg c13 fun i hi (f : i = h3.size) => by have := nz i hi; omega
   have p13 := ob_upd (p8.ext e812) u13 (by have : h3.size < h4.size := q34; have := e5.size; show h3.size ≠ h5.size; omega)
   rw [← sumT_snoc, ← hsn] at o13
   rw [add_ok (by omega) (by omega)]
   exact s_ret ⟨fun _ => ⟨j + 1, (((offs ((toks T.enc q.2).take j) : Nat) : Int) + tt.2, ()), rfl, ⟨hjl, by dsimp only; omega, fun _ => by rw [show n0 + (j + 1) - 1 = n0 + j by omega]; exact c2, e813, e013, t13, o13, p13⟩, by omega⟩, fun hh => absurd rfl hh⟩
  ·have hno : ¬ (offs ((toks T.enc q.2).take j) < q.2.length ∧ (rawE A (n0 + j) : Int) < k) := fun h => by rw [hb9.2 h] at hx; cases hx
   have hge : k ≤ rawE A (n0 + j) := by
    by_cases h : (rawE A (n0 + j) : Int) < k
    ·have h2 : ¬ offs ((toks T.enc q.2).take j) < q.2.length := fun h3 => hno ⟨h3, h⟩
     have hjl : j = (toks T.enc q.2).length := by
      by_cases h4 : j < (toks T.enc q.2).length
      ·obtain ⟨tt, htt⟩ : ∃ tt, (toks T.enc q.2)[j]? = some tt := ⟨(toks T.enc q.2)[j]'h4, List.getElem?_eq_getElem h4⟩
       have hts := toks_size (enc := T.enc) hby tt (List.mem_of_getElem? htt)
       rw [List.drop_eq_getElem_cons h4, (List.getElem?_eq_some_iff.1 htt).2, offs_cons] at hsp
       omega
      ·omega
     subst hjl; omega
    ·omega
   have hj1 : 1 ≤ j := by
    by_cases h : 1 ≤ j
    ·exact h
    ·rw [show j = 0 by omega, Nat.add_zero] at hge; omega
   exact s_ret ⟨fun hh => absurd hh (by decide), fun _ => ⟨rfl, rfl, n0 + j, by omega, by omega, hge, hprev hj1, e08.trans e9, t8.ext e9, o8.ext e9⟩⟩
 ·rintro tag vs h8 ⟨rfl, rfl, N, hN1, hN2, hN3, hN4, e08, t8, o8⟩
  obtain ⟨r1, r2, r3⟩ := ri N hN2
  have hfin := seek_fin hN1 (by omega) hN3 hN4
  refine s_tag (s_cast0 (wp_load1 (b := .int .i64) _ _ rfl (cells_iff.1 o8.cells 0 _ rfl) (wp_load1 (b := .int .i64) _ _ rfl (cells_iff.1 o8.cells 0 _ rfl) ?_)))
  rw [r3, add_ok (by omega) (by omega)]
  refine wp_call (c_Atoms M C (from_ := (N : Int)) t8 (fits_i64.2 (by omega))) fun ⟨(sa : Sl), _⟩ h9 e9 oa => ?_
  have oa : OwnL h8.size .i64 h9 sa ((cutL (els T.enc T.cur.ps) N ((N : Int) + 1)).map (·.1)) := oa
  have hcut := cut_one (els T.enc T.cur.ps) N (by omega)
  rw [els_atoms, hA] at hcut
  rw [hcut] at oa
  have hsl := oa.len
  rw [List.length_take, List.length_drop] at hsl
  have o9 := o8.ext e9
  refine bind_bool (A.getD (N - 1) 0 = 13 ∧ A.getD N 0 = 10) ?_ fun bb h10 e10 hb10 => ?_
  ·refine wp_load1 (b := .bool) _ _ rfl (cells_iff.1 o9.cells 4 _ rfl) (wp_ifB (fun hx => ?_) fun hx => ?_)
   ·rw [r2] at hx
    have hx := of_decide_eq_true hx
    refine wp_ifB (fun hy => ?_) fun hy => s_ret ⟨rfl, Ext.refl _, false, rfl, Iff.intro (fun h => by cases h) fun h => ?_⟩
    ·rw [eqI_iff, natI_def] at hy
     dsimp only at hy
     have hlt : N < A.length := by omega
     have hone : (A.drop N).take 1 = [A.getD N 0] := by
      rw [List.drop_eq_getElem_cons hlt, List.getD_eq_getElem?_getD, List.getElem?_eq_getElem hlt]; rfl
     rw [hone] at oa
     refine s_at0 oa.lst (n := 0) (by simp) fun _ => s_ret ⟨rfl, Ext.refl _, _, rfl, ?_⟩
     show eqI (A.getD N 0) 10 = true ↔ _
     rw [eqI_iff]
     exact ⟨fun h => ⟨hx.2, h⟩, fun h => h.2⟩
    ·rw [eqI_not, natI_def] at hy
     dsimp only at hy
     have := h.2
     rw [getD_end (by omega)] at this
     omega
   ·rw [r2] at hx
    have hx := of_decide_eq_false hx
    exact s_ret ⟨rfl, Ext.refl _, false, rfl, Iff.intro (fun h => by cases h) fun h => absurd ⟨by omega, h.1⟩ hx⟩
  have o10 := o9.ext e10
  refine wp_ifB (fun hx => ?_) fun hx => ?_
  ·rw [if_pos (hb10.1 hx)] at hfin
   refine wp_load1 (b := .int .i64) _ _ rfl (cells_iff.1 o10.cells 0 _ rfl) ?_
   rw [r3, add_ok (by omega) (by omega)]
   exact s_ret ⟨rfl, (e08.trans e9).trans e10, ((N : Int) + 1, ()), rfl, fun h => absurd h hc, fun h => by omega, fun _ _ => hfin⟩
  ·rw [if_neg (fun h => by rw [hb10.2 h] at hx; cases hx)] at hfin
   refine wp_load1 (b := .int .i64) _ _ rfl (cells_iff.1 o10.cells 0 _ rfl) ?_
   rw [r3]
   exact s_ret ⟨rfl, (e08.trans e9).trans e10, ((N : Int), ()), rfl, fun h => absurd h hc, fun h => by omega, fun _ _ => hfin⟩
end Go.Sw.Piece

set_option linter.unusedVariables false
set_option linter.unusedSimpArgs false
set_option maxRecDepth 100000
namespace Go.Sw.Piece
open Go.Sw.Any Go.Sw.Codec
open Go.Sw.Tree (iv s_putAll s_newP s_getP s_getT s_putP eqI_self Placed cell_own wp_whileG minI_eq)
variable {P : Program} {S : Ids} {h : Heap} {Q : Nat → List Value → Heap → Prop}
def endsUp (A : List Int) : Nat → List Int
 | 0 => []
 | n + 1 => endsUp A n ++ if isE A n = true then [((n + 1 : Nat) : Int)] else []
theorem ends_succ (A : List Int) (n : Nat) : endsUp A (n + 1) = endsUp A n ++ if isE A n = true then [((n + 1 : Nat) : Int)] else [] := rfl
theorem ends_len (A : List Int) (n : Nat) : (endsUp A n).length = cntE A n := by
 induction n with
 | zero => rfl
 | succ n ih => rw [ends_succ, cntE_succ, List.length_append, ih]; split <;> rfl
theorem ends_get {A : List Int} {m : Nat} (he : isE A m = true) : ∀ {n : Nat}, m < n → (endsUp A n)[cntE A m]? = some ((m + 1 : Nat) : Int)
 | n + 1, hn => by
  rw [ends_succ]
  by_cases h : m = n
  ·subst h
   rw [he, if_pos rfl, List.getElem?_append_right (by rw [ends_len]; exact Nat.le_refl _), ends_len, Nat.sub_self]; rfl
  ·have ih := ends_get he (n := n) (by omega)
   rw [List.getElem?_append_left (List.getElem?_eq_some_iff.1 ih).1]; exact ih
theorem ends_at {A : List Int} : ∀ {n j : Nat}, j < cntE A n → ∃ p : Nat, (endsUp A n)[j]? = some (p : Int) ∧ 1 ≤ p ∧ p ≤ n ∧ cntE A p = j + 1 ∧ cntE A (p - 1) = j
 | 0, j, hj => by simp [cntE] at hj
 | n + 1, j, hj => by
  rw [ends_succ]
  by_cases h : j < cntE A n
  ·obtain ⟨p, h1, h2, h3, h4, h5⟩ := ends_at (A := A) h
   exact ⟨p, by rw [List.getElem?_append_left (List.getElem?_eq_some_iff.1 h1).1]; exact h1, h2, by omega, h4, h5⟩
  ·rw [cntE_succ] at hj
   by_cases he : isE A n = true
   ·rw [if_pos he] at hj
    have hjn : j = cntE A n := by omega
    refine ⟨n + 1, ?_, by omega, Nat.le_refl _, by rw [cntE_succ, if_pos he]; omega, by rw [Nat.add_sub_cancel]; omega⟩
    rw [if_pos he, List.getElem?_append_right (by rw [ends_len]; omega), ends_len, hjn, Nat.sub_self]; rfl
   ·rw [if_neg he] at hj; omega
end Go.Sw.Piece

set_option linter.unusedVariables false
set_option linter.unusedSimpArgs false
set_option maxRecDepth 100000
namespace Go.Sw.Piece
open Go.Sw.Any Go.Sw.Codec
open Go.Sw.Tree (iv s_putAll s_newP s_getP s_getT s_putP eqI_self Placed cell_own wp_whileG minI_eq)
variable {P : Program} {S : Ids} {h : Heap} {Q : Nat → List Value → Heap → Prop}
def nch (L sz : Nat) : Nat := (L + sz - 1) / sz
structure ChR (S : Ids) (Z : Nat → Prop) (h : Heap) (root : Option Addr) (t : Bt Part) (ps : List Pc) : Prop where
 nd : Nd (part S Z) h root t
 ls : t.list = ps.map (·.1)
 room : (part S Z).W t.list ≤ 4398046511104
 lst : ∀ q, q ∈ ps → Lst .u8 h q.1.1 q.2 ∧ ∀ a, q.1.1.base = some a → Z a.block ∧ a.block < h.size
 small : (bytesL ps).length ≤ 1099511627776
structure CS (J : Nat → Heap → Prop) (Z : Nat → Prop) (h0 h : Heap) (B : List Int) (sz : Nat) (y : Value) (n c : Nat) (s : Sl) (hp h' : Heap) : Prop where
 j : J c hp
 hp1 : h.size + 8 ≤ hp.size ∨ s.base = none
 hp0 : h.size ≤ hp.size
 chg : Chg (own h.size 8) hp h'
 held : Held Z h0 h'
 cy : Cel h.size h' ⟨h.size, 0, none⟩ y
 ca : Cel (h.size + 1) h' ⟨h.size + 1, 0, none⟩ (slv s)
 lo : c * sz ≤ n
 hi : n < c * sz + sz
 o : OwnL hp.size .u8 h' s ((B.drop (c * sz)).take (n - c * sz))
variable {J : Nat → Heap → Prop} {Z : Nat → Prop} {h0 hs hp h' : Heap} {B : List Int} {sz n c : Nat} {y : Value} {s : Sl}
end Go.Sw.Piece

set_option linter.unusedVariables false
set_option linter.unusedSimpArgs false
set_option maxRecDepth 100000
namespace Go.Sw.Piece
open Go.Sw.Any Go.Sw.Codec
open Go.Sw.Tree (iv s_putAll s_newP s_getP s_getT s_putP eqI_self Placed cell_own wp_whileG minI_eq)
variable {P : Program} {S : Ids} {h : Heap} {Q : Nat → List Value → Heap → Prop}
end Go.Sw.Piece

set_option linter.unusedVariables false
set_option linter.unusedSimpArgs false
set_option maxRecDepth 100000
namespace Go.Sw.Piece
open Go.Sw.Any Go.Sw.Codec
open Go.Sw.Tree (iv s_putAll s_newP s_getP s_getT s_putP eqI_self Placed cell_own wp_whileG minI_eq)
variable {P : Program} {S : Ids} {h : Heap} {Q : Nat → List Value → Heap → Prop}
end Go.Sw.Piece

set_option linter.unusedVariables false
set_option linter.unusedSimpArgs false
set_option maxRecDepth 100000
namespace Go.Sw.Piece
open Go.Sw.Any Go.Sw.Codec
open Go.Sw.Tree (iv s_putAll s_newP s_getP s_getT s_putP eqI_self Placed cell_own wp_whileG minI_eq)
variable {P : Program} {S : Ids} {h : Heap} {Q : Nat → List Value → Heap → Prop}
def partL (l : List Int) (a b : Int) : List Int := (l.take (min b l.length).toNat).drop (max a 0).toNat
theorem part_map (E : List El) (f : El → Int) (a b : Int) : (cutL E a b).map f = partL (E.map f) a b := by
 unfold cutL partL; rw [List.map_drop, List.map_take, List.length_map]
end Go.Sw.Piece

set_option linter.unusedVariables false
set_option linter.unusedSimpArgs false
set_option maxRecDepth 100000
namespace Go.Sw.Piece
open Go.Sw.Any Go.Sw.Codec
open Go.Sw.Tree (iv s_putAll s_newP s_getP s_getT s_putP eqI_self Placed cell_own wp_whileG minI_eq)
variable {P : Program} {S : Ids} {h : Heap} {Q : Nat → List Value → Heap → Prop}
structure CkI (h0 : Heap) (B : List Int) (sz i : Nat) (h : Heap) (o c : Sl) (ss : List Sl) : Prop where
 e : Ext h0 h
 oo : Own h0.size 1 h o (ss.map fun x => slv x)
 oc : OwnL h0.size .u8 h c ((B.drop (ss.length * sz)).take (i - ss.length * sz))
 el : ∀ (j : Nat) (x : Sl), ss[j]? = some x → OwnL h0.size .u8 h x ((B.drop (j * sz)).take sz)
 dc : ∀ a b, c.base = some a → o.base = some b → b.block ≠ a.block
 de : ∀ x, x ∈ ss → ∀ a, x.base = some a → (∀ b, c.base = some b → b.block ≠ a.block) ∧ ∀ b, o.base = some b → b.block ≠ a.block
 few : ss.length ≤ i
 pos : (i < B.length → ss.length * sz ≤ i ∧ i < ss.length * sz + sz) ∧ (i = B.length → ss.length = nch B.length sz)
structure CbI (hc : Heap) (aN aS : Addr) (k : Nat) (st : Bool) (h' : Heap) : Prop where
 c : Chg (fun i => i = aN.block ∨ i = aS.block) hc h'
 n : Cel 0 h' aN (i64v k)
 s : Cel 0 h' aS (.bool st)
end Go.Sw.Piece

set_option linter.unusedVariables false
set_option linter.unusedSimpArgs false
set_option maxRecDepth 100000
namespace Go.Sw.Piece
open Go.Sw.Any Go.Sw.Codec
open Go.Sw.Tree (iv s_putAll s_newP s_getP s_getT s_putP eqI_self Placed cell_own wp_whileG minI_eq)
variable {P : Program} {S : Ids} {h : Heap} {Q : Nat → List Value → Heap → Prop}
def nB (A : List Int) : Nat := cntE A A.length
def endN (A : List Int) (j : Nat) : Nat := ((endsUp A A.length).getD j 0).toNat
def startN (A : List Int) (i : Nat) : Nat := if i = 0 then 0 else endN A (i - 1)
abbrev LnD := Int × Int × Int × Int × Unit
def brkN (A : List Int) (x : Nat) : Nat := if A.getD (x - 1) 0 = 13 then 3 else if 2 ≤ x ∧ A.getD (x - 2) 0 = 13 then 2 else 1
def lineD (A : List Int) (i : Nat) : LnD :=
 if i < nB A then ((startN A i : Int), ((endN A i - (if brkN A (endN A i) = 2 then 2 else 1) : Nat) : Int), (endN A i : Int), (brkN A (endN A i) : Int), ())
 else ((startN A i : Int), (A.length : Int), (A.length : Int), 0, ())
def nLines (A : List Int) : Nat := if A.length = 0 ∨ startN A (nB A) < A.length then nB A + 1 else nB A
theorem end_at {A : List Int} {j : Nat} (hj : j < nB A) : (endsUp A A.length)[j]? = some (endN A j : Int) ∧ 1 ≤ endN A j ∧ endN A j ≤ A.length ∧ cntE A (endN A j) = j + 1 ∧ cntE A (endN A j - 1) = j := by
 obtain ⟨p, h1, h2, h3, h4, h5⟩ := ends_at (A := A) (n := A.length) (j := j) hj
 have : endN A j = p := by unfold endN; rw [List.getD_eq_getElem?_getD, h1]; simp
 rw [this]; exact ⟨h1, h2, h3, h4, h5⟩
theorem start_at {A : List Int} {i : Nat} (hi : i ≤ nB A) : startN A i ≤ A.length ∧ cntE A (startN A i) = i := by
 unfold startN
 split
 ·rename_i h; exact ⟨Nat.zero_le _, h.symm⟩
 ·obtain ⟨_, h2, h3, h4, _⟩ := end_at (A := A) (j := i - 1) (by omega)
  exact ⟨h3, by omega⟩
theorem start_succ (A : List Int) (i : Nat) : startN A (i + 1) = endN A i := if_neg (by omega)
theorem cnt_lt {A : List Int} {m n : Nat} (h : cntE A m < cntE A n) : m < n := by
 by_cases hm : m < n
 ·exact hm
 ·have := cntE_mono A (show n ≤ m by omega); omega
theorem start_lt {A : List Int} {i : Nat} (hi : i < nB A) : startN A i < endN A i := by
 have h1 := start_at (A := A) (i := i) (by omega)
 have h2 := end_at hi
 exact cnt_lt (A := A) (by omega)
theorem end_is {A : List Int} {j : Nat} (hj : j < nB A) : isE A (endN A j - 1) = true := by
 obtain ⟨_, h2, h3, h4, h5⟩ := end_at hj
 have h := cntE_succ A (endN A j - 1)
 rw [show endN A j - 1 + 1 = endN A j by omega, h4, h5] at h
 by_cases he : isE A (endN A j - 1) = true
 ·exact he
 ·rw [if_neg he] at h; omega
theorem isE_is {A : List Int} {i : Nat} : isE A i = true ↔ (A.getD i 0 = 10 ∨ (A.getD i 0 = 13 ∧ A.getD (i + 1) 0 ≠ 10)) := decide_eq_true_iff
theorem start_seam {A : List Int} {i : Nat} (hi : i ≤ nB A) (h1 : 1 ≤ startN A i) (h13 : A.getD (startN A i - 1) 0 = 13) : A.getD (startN A i) 0 ≠ 10 := by
 have hi0 : i ≠ 0 := fun h => by subst h; exact absurd h1 (by unfold startN; rw [if_pos rfl]; decide)
 have he : startN A i = endN A (i - 1) := if_neg hi0
 have h := isE_is.1 (end_is (A := A) (j := i - 1) (by omega))
 rw [← he, h13, show startN A i - 1 + 1 = startN A i by omega] at h
 rcases h with h | h
 ·exact absurd h (by decide)
 ·exact h.2
theorem crlf_in {A : List Int} {i : Nat} (hi : i < nB A) (h2 : 2 ≤ endN A i) (h13 : A.getD (endN A i - 2) 0 = 13) (h10 : A.getD (endN A i - 1) 0 ≠ 13) : startN A i ≤ endN A i - 2 := by
 have h := isE_is.1 (end_is hi)
 have h10 : A.getD (endN A i - 1) 0 = 10 := by rcases h with h | h; exact h; exact absurd h.1 h10
 have hlt := start_lt hi
 by_cases hs : startN A i ≤ endN A i - 2
 ·exact hs
 ·have hs1 : startN A i = endN A i - 1 := by omega
  have := start_seam (A := A) (i := i) (by omega) (by omega) (by rw [hs1, show endN A i - 1 - 1 = endN A i - 2 by omega]; exact h13)
  rw [hs1] at this
  exact absurd h10 this
theorem seek_is {A : List Int} {k y : Int} (h0 : 0 ≤ k) (hk : k ≤ nB A) (z : k = 0 → y = 0) (s : 0 < k → k ≤ nB A → SeekP A k y) : y = (startN A k.toNat : Int) := by
 by_cases hk0 : k = 0
 ·rw [z hk0, hk0]; rfl
 ·have h := s (by omega) hk
  obtain ⟨_, h2, h3, h4, h5⟩ := end_at (A := A) (j := k.toNat - 1) (by omega)
  have hs : startN A k.toNat = endN A (k.toNat - 1) := if_neg (by omega)
  rw [hs]
  exact h.fn ⟨endN A (k.toNat - 1), rfl, h2, h3, by omega, by omega⟩
def txA (T : TX) : List Int := (els T.enc T.cur.ps).map (·.1)
theorem txA_len (T : TX) : (txA T).length = (els T.enc T.cur.ps).length := List.length_map ..
theorem nB_txA (T : TX) : nB (txA T) = cntE ((els T.enc T.cur.ps).map (·.1)) (els T.enc T.cur.ps).length := by unfold nB; rw [txA_len]; rfl
theorem c_lSeek (M : Meth0 P S) (C : Cl0 P S) {n : Nat} {T : TX} {k : Int} (t : TextR S n h T) :
  Gives P (F_Text_Seek S (some T.p) k) [.one (.int .i64)] h fun (y : Int × Unit) _ => (0 ≤ k ∧ k ≤ nB (txA T) → y.1 = (startN (txA T) k.toNat : Int)) ∧ (¬ (0 ≤ k ∧ k ≤ nB (txA T)) → y.1 = -1) :=
 (c_Seek M C t).mono fun y h' e ⟨h1, h2, h3⟩ => by
  rw [← nB_txA] at h2 h3
  exact ⟨fun ⟨a, b⟩ => seek_is (A := txA T) a b h1 h3, fun hn => h2 (by by_cases h : k < 0; exact .inl h; exact .inr (by omega))⟩
theorem c_lBreaks (M : Meth0 P S) (C : Cl0 P S) {n : Nat} {T : TX} (t : TextR S n h T) : Gives P (F_Text_Breaks S (some T.p) ((els T.enc T.cur.ps).length : Int)) [.one (.int .i64)] h fun (y : Int × Unit) _ => y.1 = nB (txA T) := by
 have := (t.cur.few t.lim.2).1
 have hl := els_len T.enc T.cur.ps
 refine (c_Breaks M C t (fits_i64.2 (by omega))).mono fun y h' e hy => ?_
 rw [hy, nB_txA, show (min (max (((els T.enc T.cur.ps).length : Nat) : Int) 0) (els T.enc T.cur.ps).length).toNat = (els T.enc T.cur.ps).length by omega]
theorem c_closed (M : Meth0 P S) (C : Cl0 P S) {n i : Nat} {T : TX} (t : TextR S n h T) (hi : i < nB (txA T)) :
  Gives P (F_lines_closed S (some T.p) (startN (txA T) i : Int) (endN (txA T) i : Int)) [.agg [.int .i64, .int .i64, .int .i64, .int .i64]] h fun (y : LnD × Unit) _ => y.1 = lineD (txA T) i := by
 unfold F_lines_closed Gives
 obtain ⟨_, e1, e2, _, _⟩ := end_at hi
 have hst := start_lt hi
 have hcr := crlf_in hi
 have hbig := (t.cur.few t.lim.2).1
 have hel := els_len T.enc T.cur.ps
 have hAl := txA_len T
 unfold lineD
 rw [if_pos hi]
 unfold brkN
 refine s_newO (bs := [.int .i64, .int .i64, .int .i64, .int .i64]) (0, 0, 0, 0, ()) (by decide) fun h1 ex o1 => ?_
 rw [sub_ok (by omega) (by omega), maxI_eq]
 refine wp_call (c_Atoms M C (t.ext ex) (fits_i64.2 (by omega))) fun ⟨(s : Sl), _⟩ h2 ex2 os => ?_
 have os : OwnL h1.size .i64 h2 s ((cutL (els T.enc T.cur.ps) (max (startN (txA T) i : Int) ((endN (txA T) i : Int) - 2)) (endN (txA T) i : Int)).map (·.1)) := os
 rw [part_map] at os
 have hA : (els T.enc T.cur.ps).map (fun x : El => x.1) = txA T := rfl
 rw [hA] at os
 generalize txA T = A at *
 generalize endN A i = x at *
 generalize startN A i = f at *
 have hp : partL A (max (f : Int) ((x : Int) - 2)) (x : Int) = (A.take x).drop (max f (x - 2)) := by
  unfold partL
  rw [show (min (x : Int) A.length).toNat = x by omega, show (max (max (f : Int) ((x : Int) - 2)) 0).toNat = max f (x - 2) by omega]
 rw [hp] at os
 have hll : ((A.take x).drop (max f (x - 2))).length = x - max f (x - 2) := by rw [List.length_drop, List.length_take]; omega
 have hge : ∀ j, j < x - max f (x - 2) → ((A.take x).drop (max f (x - 2))).getD j 0 = A.getD (max f (x - 2) + j) 0 := fun j hj => by
  rw [List.getD_eq_getElem?_getD, List.getElem?_drop, List.getElem?_take, if_pos (by omega), ← List.getD_eq_getElem?_getD]
 have ls := os.len
 rw [hll] at ls
 have tell : ∀ {h' : Heap} (y : LnD), Own h.size 1 h' ⟨some ⟨h.size, 0, none⟩, 4, 4⟩ (Bs.inj [.int .i64, .int .i64, .int .i64, .int .i64] ((0, 0, 0, 0, ()) : LnD)) → Ext h h' → ∀ z : LnD, y = z → wp P (.store (some ⟨h.size, 0, none⟩) (Bs.inj [.int .i64, .int .i64, .int .i64, .int .i64] y) <| .load (.agg [.int .i64, .int .i64, .int .i64, .int .i64]) (some ⟨h.size, 0, none⟩) fun (r : LnD) => .ret 0 [.agg (Bs.inj [.int .i64, .int .i64, .int .i64, .int .i64] r).toArray]) h'
   (fun tag vs h'' => tag = 0 ∧ Ext h h'' ∧ ∃ w : LnD × Unit, vs = Ts.inj [.agg [.int .i64, .int .i64, .int .i64, .int .i64]] w ∧ w.1 = z) := fun {h'} y o e z hz =>
  s_tellO (bs := [.int .i64, .int .i64, .int .i64, .int .i64]) (x := ((0, 0, 0, 0, ()) : LnD)) y o (Nat.le_refl _) e (by intro v hv; simp [Bs.inj] at hv; rcases hv with rfl | rfl | rfl | rfl <;> rfl) fun h'' e' => ⟨rfl, e', (y, ()), rfl, hz⟩
 have hsub : subI .i64 (natI s.len) 1 = ((x - max f (x - 2) - 1 : Nat) : Int) := by rw [natI_def, ls, sub_ok (by omega) (by omega)]; omega
 rw [hsub]
 refine s_at os.lst (by omega) (by omega) fun _ => ?_
 rw [Int.toNat_natCast, hge _ (by omega), show max f (x - 2) + (x - max f (x - 2) - 1) = x - 1 by omega]
 refine wp_ifB (fun hc => ?_) fun hc => ?_
 ·rw [eqI_iff] at hc
  have h13 : ¬ ((if A.getD (x - 1) 0 = 13 then 3 else if 2 ≤ x ∧ A.getD (x - 2) 0 = 13 then 2 else 1) = 2) := by rw [if_pos hc]; decide
  rw [sub_ok (by omega) (by omega)]
  refine tell ((f : Int), (x : Int) - 1, (x : Int), 3, ()) (o1.ext ex2) (ex.trans ex2) _ ?_
  rw [if_neg h13, if_pos hc, show ((x - 1 : Nat) : Int) = (x : Int) - 1 by omega]; rfl
 rw [eqI_not] at hc
 refine bind_bool (2 ≤ x ∧ A.getD (x - 2) 0 = 13) ?_ fun bb h3 ex3 hb3 => wp_ifB (fun hd => ?_) fun hd => ?_
 ·refine wp_ifB (fun hd => ?_) fun hd => s_ret ⟨rfl, Ext.refl _, false, rfl, Iff.intro (fun h => by cases h) fun h => ?_⟩
  ·rw [gtI_iff] at hd
   have hsub2 : subI .i64 ((x - max f (x - 2) - 1 : Nat) : Int) 1 = ((x - max f (x - 2) - 2 : Nat) : Int) := by rw [sub_ok (by omega) (by omega)]; omega
   rw [hsub2]
   refine s_at os.lst (by omega) (by omega) fun _ => s_ret ⟨rfl, Ext.refl _, _, rfl, ?_⟩
   rw [Int.toNat_natCast, hge _ (by omega), show max f (x - 2) + (x - max f (x - 2) - 2) = x - 2 by omega, eqI_iff]
   exact ⟨fun h => ⟨by omega, h⟩, fun h => h.2⟩
  ·rw [gtI_not] at hd
   have := hcr h.1 h.2 hc
   omega
 ·have hd := hb3.1 hd
  refine tell ((f : Int), (x : Int) - 2, (x : Int), 2, ()) ((o1.ext ex2).ext ex3) ((ex.trans ex2).trans ex3) _ ?_
  rw [if_neg hc, if_pos hd, if_pos rfl, show ((x - 2 : Nat) : Int) = (x : Int) - 2 by omega]; rfl
 ·have hd : ¬ (2 ≤ x ∧ A.getD (x - 2) 0 = 13) := fun h => by have hd : bb = false := hd; rw [hb3.2 h] at hd; cases hd
  rw [sub_ok (by omega) (by omega)]
  refine tell ((f : Int), (x : Int) - 1, (x : Int), 1, ()) ((o1.ext ex2).ext ex3) ((ex.trans ex2).trans ex3) _ ?_
  rw [if_neg hc, if_neg hd, if_neg (by decide), show ((x - 1 : Nat) : Int) = (x : Int) - 1 by omega]; rfl
end Go.Sw.Piece

set_option linter.unusedVariables false
set_option linter.unusedSimpArgs false
set_option maxRecDepth 100000
namespace Go.Sw.Piece
open Go.Sw.Any Go.Sw.Codec
open Go.Sw.Tree (iv s_putAll s_newP s_getP s_getT s_putP eqI_self Placed cell_own wp_whileG minI_eq)
variable {P : Program} {S : Ids} {h : Heap} {Q : Nat → List Value → Heap → Prop}
abbrev b4 : List B := [.int .i64, .int .i64, .int .i64, .int .i64]
abbrev t4 : Ty := .agg b4
abbrev Own4 (m : Nat) (h : Heap) (a : Addr) (x : LnD) : Prop := Own m 1 h ⟨some a, 4, 4⟩ (Bs.inj b4 x)
theorem flat4 {x : LnD} : ∀ v, v ∈ Bs.inj b4 x → flat v = true := by intro v hv; simp [Bs.inj] at hv; rcases hv with rfl | rfl | rfl | rfl <;> rfl
theorem s_new4 (x : LnD) {K : Addr → Prog} (hk : ∀ h', Ext h h' → Own4 h.size h' ⟨h.size, 0, none⟩ x → wp P (K ⟨h.size, 0, none⟩) h' Q) : wp P (.alloc (Bs.inj b4 x) K) h Q := s_newO (bs := b4) x (by decide) hk
theorem s_sto4 {m : Nat} {a : Addr} {x : LnD} (y : LnD) {K : Prog} (o : Own4 m h a x) (hk : ∀ h', Own4 m h' a y → Upd ⟨some a, 4, 4⟩ h h' → wp P K h' Q) : wp P (.store (some a) (Bs.inj b4 y) K) h Q := s_stoO (bs := b4) y o flat4 hk
theorem s_put4 {m : Nat} {h0 : Heap} {a : Addr} {x : LnD} (y : LnD) {K : LnD → Prog} (o : Own4 m h a x) (e : Ext h0 h) (hm : h0.size ≤ m) (hk : ∀ h', Own4 m h' a y → Ext h0 h' → wp P (K y) h' Q) : wp P (.store (some a) (Bs.inj b4 y) <| .load t4 (some a) K) h Q :=
 s_sto4 y o fun h' o' u => s_getO (bs := b4) o' (hk h' o' (Upd.extN e u (by intro z hz; cases hz; have := (o.lt rfl).1; omega)))
theorem s_newput4 (z y : LnD) {K : Addr → Prog} (hk : ∀ h', Ext h h' → Own4 h.size h' ⟨h.size, 0, none⟩ y → wp P (K ⟨h.size, 0, none⟩) h' Q) : wp P (.alloc (Bs.inj b4 z) fun a => .store (some a) (Bs.inj b4 y) (K a)) h Q := s_putO (bs := b4) y (by decide) flat4 hk
abbrev z4 : LnD := (0, 0, 0, 0, ())
def AtR (A : List Int) (line : Int) (y : LnD × Int × Unit) : Prop := (0 ≤ line ∧ line ≤ nB A → y.1 = lineD A line.toNat ∧ y.2.1 = 0) ∧ (¬ (0 ≤ line ∧ line ≤ nB A) → y.1 = z4 ∧ y.2.1 = 2)
theorem c_lAt (M : Meth0 P S) (C : Cl0 P S) {n : Nat} {T : TX} {line : Int} (t : TextR S n h T) : Gives P (F_lines_At S (some T.p) line) [t4, .one (.int .i64)] h fun (y : LnD × Int × Unit) _ => AtR (txA T) line y := by
 unfold F_lines_At Gives
 have hAl := txA_len T
 have hbig := (t.cur.few t.lim.2).1
 have hel := els_len T.enc T.cur.ps
 have hnB : nB (txA T) ≤ (txA T).length := cntE_le _ _
 refine s_new4 z4 fun h1 e1 o1 => ?_
 refine wp_ifB (fun hc => ?_) fun hc => ?_
 ·rw [ltI_iff] at hc
  exact s_put4 z4 o1 e1 (Nat.le_refl _) fun h' o' e' => s_ret ⟨rfl, e', (z4, 2, ()), rfl, fun h => by omega, fun _ => ⟨rfl, rfl⟩⟩
 rw [ltI_not] at hc
 refine wp_call (c_lSeek M C (t.ext e1)) fun ⟨(f : Int), _⟩ h2 e2 ⟨hf1, hf2⟩ => ?_
 have hf1 : 0 ≤ line ∧ line ≤ nB (txA T) → f = (startN (txA T) line.toNat : Int) := hf1
 have hf2 : ¬ (0 ≤ line ∧ line ≤ nB (txA T)) → f = -1 := hf2
 have e02 := e1.trans e2
 refine wp_ifB (fun hd => ?_) fun hd => ?_
 ·rw [ltI_iff] at hd
  have hd : f < 0 := hd
  have hn : ¬ (0 ≤ line ∧ line ≤ nB (txA T)) := fun h => by have := hf1 h; omega
  exact s_put4 z4 (o1.ext e2) e02 (Nat.le_refl _) fun h' o' e' => s_ret ⟨rfl, e', (z4, 2, ()), rfl, fun h => absurd h hn, fun _ => ⟨rfl, rfl⟩⟩
 rw [ltI_not] at hd
 have hd : 0 ≤ f := hd
 have hin : 0 ≤ line ∧ line ≤ nB (txA T) := Classical.byContradiction fun h => by have := hf2 h; omega
 have hff := hf1 hin
 subst hff
 refine wp_call (c_Len (t.ext e02)) fun ⟨(L : Int), _⟩ h3 e3 hL => ?_
 have hL : L = (els T.enc T.cur.ps).length := hL
 subst hL
 refine wp_call (c_lBreaks M C ((t.ext e02).ext e3)) fun ⟨(B : Int), _⟩ h4 e4 hB => ?_
 have hB : B = nB (txA T) := hB
 subst hB
 have e24 := e3.trans e4
 have e04 := e02.trans e24
 have t4' := t.ext e04
 refine wp_ifB (fun hlt => ?_) fun hlt => ?_
 ·rw [ltI_iff] at hlt
  have hlt : line < nB (txA T) := hlt
  rw [add_ok (by omega) (by omega)]
  refine wp_call (c_lSeek M C (k := line + 1) t4') fun ⟨(g : Int), _⟩ h5 e5 ⟨hg, _⟩ => ?_
  have hg : g = (startN (txA T) (line + 1).toNat : Int) := hg ⟨by omega, by omega⟩
  rw [show (line + 1).toNat = line.toNat + 1 by omega, start_succ] at hg
  subst hg
  refine wp_call (c_closed M C (i := line.toNat) (t4'.ext e5) (by omega)) fun ⟨(y : LnD), _⟩ h6 e6 hy => ?_
  have hy : y = lineD (txA T) line.toNat := hy
  exact s_put4 y ((o1.ext e2).ext (e24.trans (e5.trans e6))) (e04.trans (e5.trans e6)) (Nat.le_refl _) fun h' o' e' => s_ret ⟨rfl, e', (y, 0, ()), rfl, fun _ => ⟨hy, rfl⟩, fun h => absurd hin h⟩
 ·rw [ltI_not] at hlt
  have hlt : (nB (txA T) : Int) ≤ line := hlt
  refine wp_call (c_Len t4') fun ⟨(L : Int), _⟩ h5 e5 hL => ?_
  have hL : L = (els T.enc T.cur.ps).length := hL
  refine wp_call (c_Len (t4'.ext e5)) fun ⟨(L2 : Int), _⟩ h6 e6 hL2 => ?_
  have hL2 : L2 = (els T.enc T.cur.ps).length := hL2
  refine s_put4 ((startN (txA T) line.toNat : Int), L, L2, 0, ()) ((o1.ext e2).ext (e24.trans (e5.trans e6))) (e04.trans (e5.trans e6)) (Nat.le_refl _) fun h' o' e' => s_ret ⟨rfl, e', (_, 0, ()), rfl, fun _ => ⟨?_, rfl⟩, fun h => absurd hin h⟩
  unfold lineD
  rw [if_neg (by omega), hL, hL2, ← hAl]
theorem c_ended (M : Meth0 P S) (C : Cl0 P S) {n : Nat} {T : TX} (t : TextR S n h T) : Gives P (F_lines_ended S (some T.p)) [.one .bool] h fun (y : Bool × Unit) _ => (y.1 = true ↔ 0 < (txA T).length ∧ startN (txA T) (nB (txA T)) = (txA T).length) := by
 unfold F_lines_ended Gives
 have hAl := txA_len T
 have hnB : nB (txA T) ≤ (txA T).length := cntE_le _ _
 refine wp_call (c_Len t) fun ⟨(L : Int), _⟩ h1 e1 hL => ?_
 have hL : L = (els T.enc T.cur.ps).length := hL
 subst hL
 refine bind_bool (0 < (txA T).length ∧ startN (txA T) (nB (txA T)) = (txA T).length) ?_ fun bb h2 e2 hb2 => s_ret ⟨rfl, e1.trans e2, (bb, ()), rfl, hb2⟩
 refine wp_ifB (fun hc => ?_) fun hc => s_ret ⟨rfl, Ext.refl _, false, rfl, Iff.intro (fun h => by cases h) fun h => ?_⟩
 ·refine wp_call (c_lBreaks M C (t.ext e1)) fun ⟨(B : Int), _⟩ h2 e2 hB => ?_
  have hB : B = nB (txA T) := hB
  subst hB
  refine wp_call (c_lSeek M C ((t.ext e1).ext e2)) fun ⟨(f : Int), _⟩ h3 e3 ⟨hf, _⟩ => s_ret ⟨rfl, e2.trans e3, _, rfl, ?_⟩
  have hf : f = (startN (txA T) ((nB (txA T) : Int)).toNat : Int) := hf ⟨by omega, by omega⟩
  rw [Int.toNat_natCast] at hf
  rw [eqI_iff]
  rw [gtI_iff] at hc
  dsimp only at hc ⊢
  rw [hf]
  exact ⟨fun h => ⟨by omega, by omega⟩, fun h => by omega⟩
 ·rw [gtI_not] at hc
  dsimp only at hc
  omega
theorem c_lCount (M : Meth0 P S) (C : Cl0 P S) {n : Nat} {T : TX} (t : TextR S n h T) : Gives P (F_lines_Count S (some T.p)) [.one (.int .i64)] h fun (y : Int × Unit) _ => y.1 = nLines (txA T) := by
 unfold F_lines_Count Gives
 have hAl := txA_len T
 have hbig := (t.cur.few t.lim.2).1
 have hel := els_len T.enc T.cur.ps
 have hnB : nB (txA T) ≤ (txA T).length := cntE_le _ _
 have hst := (start_at (A := txA T) (Nat.le_refl (nB (txA T)))).1
 refine wp_call (c_Len t) fun ⟨(L : Int), _⟩ h1 e1 hL => ?_
 have hL : L = (els T.enc T.cur.ps).length := hL
 subst hL
 refine wp_call (c_lBreaks M C (t.ext e1)) fun ⟨(B : Int), _⟩ h2 e2 hB => ?_
 have hB : B = nB (txA T) := hB
 subst hB
 refine bind_val (tys := [.one (.int .i64)]) (fun (x : Int × Unit) _ => x.1 = nLines (txA T)) ?_ fun ⟨(z : Int), _⟩ h3 e3 hz => s_ret ⟨rfl, (e1.trans e2).trans e3, (z, ()), rfl, hz⟩
 refine wp_call (c_ended M C ((t.ext e1).ext e2)) fun ⟨(b : Bool), _⟩ h3 e3 hb => ?_
 have hb : b = true ↔ _ := hb
 refine wp_ifB (fun hc => ?_) fun hc => s_ret ⟨rfl, e3, (_, ()), rfl, ?_⟩
 ·rw [notB_iff] at hc
  have hc : b = false := hc
  have hn : ¬ (0 < (txA T).length ∧ startN (txA T) (nB (txA T)) = (txA T).length) := fun h => by rw [hb.2 h] at hc; cases hc
  rw [add_ok (by dsimp only; omega) (by dsimp only; omega)]
  refine s_ret ⟨rfl, e3, (_, ()), rfl, ?_⟩
  show (nB (txA T) : Int) + 1 = _
  unfold nLines
  rw [if_pos (by omega)]; rfl
 ·rw [notB_not] at hc
  have hn := hb.1 hc
  show (nB (txA T) : Int) = _
  unfold nLines
  rw [if_neg (by omega)]
theorem c_lOf (M : Meth0 P S) (C : Cl0 P S) {n : Nat} {T : TX} {at_ : Int} (t : TextR S n h T) : Gives P (F_lines_Of S (some T.p) at_) [.one (.int .i64)] h fun (y : Int × Unit) _ => y.1 = cntE (txA T) (min (max at_ 0) (txA T).length).toNat := by
 unfold F_lines_Of Gives
 have hAl := txA_len T
 have hbig := (t.cur.few t.lim.2).1
 have hel := els_len T.enc T.cur.ps
 refine wp_call (c_Len t) fun ⟨(L : Int), _⟩ h1 e1 hL => ?_
 have hL : L = (els T.enc T.cur.ps).length := hL
 subst hL
 rw [maxI_eq, minI_eq]
 refine wp_call (c_Breaks M C (t.ext e1) (fits_i64.2 (by omega))) fun ⟨(z : Int), _⟩ h2 e2 hz => s_ret ⟨rfl, e1.trans e2, (z, ()), rfl, ?_⟩
 have hz : z = cntE (txA T) (min (max (min (max at_ 0) ((els T.enc T.cur.ps).length : Int)) 0) (els T.enc T.cur.ps).length).toNat := hz
 show z = _
 rw [hz, show (min (max (min (max at_ 0) ((els T.enc T.cur.ps).length : Int)) 0) (els T.enc T.cur.ps).length).toNat = (min (max at_ 0) (txA T).length).toNat by omega]
def nativeF (A : List Int) (fb : Int) : Int := if (lineD A 0).2.2.2.1 ≠ 0 then (lineD A 0).2.2.2.1 else fb
theorem c_lNative (M : Meth0 P S) (C : Cl0 P S) {n : Nat} {T : TX} {fb : Int} (t : TextR S n h T) : Gives P (F_lines_Native S (some T.p) fb) [.one (.int .i64)] h fun (y : Int × Unit) _ => y.1 = nativeF (txA T) fb := by
 unfold F_lines_Native Gives
 refine wp_call (c_lAt M C (line := Int.ofNat 0) t) fun ⟨(y : LnD), (e : Int), _⟩ h1 e1 hy => ?_
 obtain ⟨hy', he⟩ := hy.1 ⟨Int.le_refl _, Int.natCast_nonneg _⟩
 replace hy : y = lineD (txA T) 0 := hy'
 have he : e = 0 := he
 subst he
 refine s_newput4 z4 y fun h2 e2 o2 => ?_
 refine bind_bool (y.2.2.2.1 ≠ 0) ?_ fun bb h3 e3 hb3 => wp_ifB (fun hx => s_cell (b := .int .i64) y.2.2.2.1 rfl (o2.ext e3).cells rfl (s_ret ⟨rfl, (e1.trans e2).trans e3, (_, ()), rfl, ?_⟩)) fun hx => s_ret ⟨rfl, (e1.trans e2).trans e3, (_, ()), rfl, ?_⟩
 ·refine wp_ifB (fun _ => s_cell (b := .int .i64) y.2.2.2.1 rfl o2.cells rfl (s_ret ⟨rfl, Ext.refl _, _, rfl, neI_iff⟩)) fun hc => ?_
  rw [eqI_not] at hc; exact absurd rfl hc
 ·have hx := hb3.1 hx
  show y.2.2.2.1 = _
  unfold nativeF
  rw [← hy, if_pos hx]
 ·have hx : ¬ (y.2.2.2.1 ≠ 0) := fun h => by have hx : bb = false := hx; rw [hb3.2 h] at hx; cases hx
  show fb = _
  unfold nativeF
  rw [← hy, if_neg hx]
structure ClL (P : Program) (S : Ids) : Prop where
 all : ∀ (y : Value) (a : Option Addr), Dyn P (.func (.func S.f_lines_All_1) #[] #[.pointer a]) [y] (F_lines_All_1 S y a)
theorem nLines_le (A : List Int) : 1 ≤ nLines A ∧ nLines A ≤ nB A + 1 ∧ (nLines A = nB A → startN A (nB A) = A.length ∧ A.length ≠ 0) ∧ nB A ≤ nLines A := by
 have h1 := (start_at (A := A) (Nat.le_refl (nB A))).1
 unfold nLines
 split
 ·exact ⟨by omega, by omega, fun h => by omega, by omega⟩
 ·rename_i hn
  have : nB A ≠ 0 := fun h => by
   rw [h] at hn
   have : startN A 0 = 0 := rfl
   omega
  exact ⟨by omega, by omega, fun _ => ⟨by omega, by omega⟩, by omega⟩
theorem told_ne {A : List Int} {i : Nat} (hi : i < nLines A) (h0 : 0 < i) : (lineD A i).2.1 ≠ (lineD A i).1 ∨ (lineD A i).2.2.2.1 ≠ 0 := by
 unfold lineD
 split
 ·rename_i hlt
  refine .inr ?_
  show ((brkN A (endN A i) : Nat) : Int) ≠ 0
  unfold brkN
  split
  ·decide
  ·split <;> decide
 ·rename_i hlt
  refine .inl ?_
  have h1 := nLines_le A
  have hiB : i = nB A := by omega
  subst hiB
  unfold nLines at hi
  split at hi
  ·rename_i hh
   rcases hh with hh | hh
   ·have : nB A = 0 := by unfold nB; rw [hh]; rfl
    omega
   ·show (A.length : Int) ≠ (startN A (nB A) : Int); omega
  ·omega
def AL2 (A : List Int) (k : Nat) (_ _ : Heap) (args : List Value) : Prop := args = Ts.inj [.one (.int .i64), t4] (((k : Nat) : Int), lineD A k, ())
theorem iter_lines (M : Meth0 P S) (C : Cl0 P S) (L : ClL P S) {n : Nat} {T : TX} {Z : Nat → Prop} {h0 : Heap} {a1 : Addr} (t : TextR S n h0 T) (hz : ∀ i, T.Z i → Z i) (c1 : Sw.cell h0 a1 = some (.pointer (some T.p))) (z1 : Z a1.block) :
  IterG P (.func (.func S.f_lines_All_1) #[] #[.pointer (some a1)]) (nLines (txA T)) (AL2 (txA T)) Z 0 h0 := by
 intro h y J F hs hzz fy sJ sF hY j0
 refine L.all y (some a1) h _ ?_
 unfold F_lines_All_1
 have hN := nLines_le (txA T)
 have hnB : nB (txA T) ≤ (txA T).length := cntE_le _ _
 have hAl := txA_len T
 have hbig := (t.cur.few t.lim.2).1
 have hel := els_len T.enc T.cur.ps
 have text : ∀ {h' : Heap}, Held Z h0 h' → TextR S n h' T := fun {h'} u => by
  refine t.chg (F := fun i => ¬ Z i) (u.to_chg fun i hi hf => Classical.byContradiction fun k => hf k) fun i hi hf => hf (hz i hi)
 have cell1 : ∀ {h' : Heap}, Held Z h0 h' → Sw.cell h' a1 = some (.pointer (some T.p)) := fun u => u.cell c1 z1
 refine wp_while (fun (r : Int × Unit) h' => ∃ i : Nat, r.1 = (i : Int) ∧ i ≤ nLines (txA T) ∧ J i h' ∧ Held Z h0 h' ∧ h.size ≤ h'.size) (fun r _ => (nLines (txA T) + 1 - r.1).toNat)
  (fun tag vs h' => tag = 1 ∧ vs = [] ∧ h.size ≤ h'.size ∧ Held Z h0 h' ∧ (J (nLines (txA T)) h' ∨ F h')) ⟨0, rfl, Nat.zero_le _, j0, hzz, Nat.le_refl _⟩ ?_ ?_
 ·rintro ⟨(r : Int), u⟩ hp ⟨i, hr, hi, j, hz1, hsz⟩
  dsimp only at hr ⊢
  subst hr
  refine wp_load1 (b := .ptr) a1 (some T.p) rfl (cell1 hz1) (wp_call (c_lAt M C (text hz1)) fun ⟨(ln : LnD), (er : Int), _⟩ h1 e1 hat => ?_)
  have hat : AtR (txA T) (i : Int) (ln, er, ()) := hat
  refine s_newput4 z4 ln fun h2 e2 o2 => s_cell (b := .int .i64) ln.1 rfl o2.cells rfl (s_cell (b := .int .i64) ln.1 rfl o2.cells rfl (s_cell (b := .int .i64) ln.1 rfl o2.cells rfl ?_))
  refine s_newput4 z4 (ln.1, ln.1, ln.1, 0, ()) fun h3 e3 o3 => ?_
  have e13 := e1.trans (e2.trans e3)
  have hz3 : Held Z h0 h3 := hz1.trans (Held.of_ext e13)
  have q3 := e13.size
  have jj : Chg (own h.size 0) hp h3 := Chg.of_ext e13
  have tell : i < nLines (txA T) → ∀ {Q : Nat → List Value → Heap → Prop} {K : Bool × Unit → Prog}, (∀ b h4, (b = true → J (i + 1) h4) → (b = false → F h4) → Held Z h0 h4 → h.size ≤ h4.size → wp P (K (b, ())) h4 Q) →
    wp P (.callv y [.int .i64 (i : Int), .agg (Bs.inj b4 ln).toArray] [.one .bool] K) h3 Q := fun hlt Q K hk => by
   have hl := (hat.1 ⟨by omega, by omega⟩).1
   have hl : ln = lineD (txA T) i := hl
   refine wp_callv ((hY i hp h3 _ hlt j hsz jj (by omega) hz3 (show AL2 _ _ _ _ _ by unfold AL2; rw [← hl]; rfl)).mono fun vs h4 ⟨b, hv, hh, ht, hf⟩ => ⟨(b, ()), hv, ?_⟩)
   exact hk b h4 ht hf (hz3.step hh fun i hi hz' => .inr ⟨hz', hi⟩) (by have := hh.1; omega)
  have j3 : J i h3 := sJ i hp h3 j jj
  refine wp_bind (fun tag vs h' => tag = 0 ∧ ∃ b, vs = [.bool b] ∧ Held Z h0 h' ∧ h.size ≤ h'.size ∧ (b = false → i < nLines (txA T) ∧ J (i + 1) h') ∧ (b = true → J (nLines (txA T)) h' ∨ F h')) ?_ ?_
  ·refine wp_ifB (fun hc => s_ret ⟨rfl, true, rfl, hz3, by omega, (fun h => by cases h), fun _ => .inl ?_⟩) fun hc => ?_
   ·rw [neI_iff] at hc
    have : i = nLines (txA T) := by
     by_cases hin : (0 : Int) ≤ i ∧ (i : Int) ≤ nB (txA T)
     ·exact absurd (hat.1 hin).2 hc
     ·omega
    rw [← this]; exact j3
   rw [neI_not] at hc
   have hin : (0 : Int) ≤ i ∧ (i : Int) ≤ nB (txA T) := Classical.byContradiction fun h => by
    have := (hat.2 h).2
    have this : er = 2 := this
    have hc : er = 0 := hc
    omega
   have hl : ln = lineD (txA T) i := (hat.1 hin).1
   refine wp_ifB (fun hd => ?_) fun hd => ?_
   ·rw [gtI_iff] at hd
    refine s_getO (bs := b4) ((o2.ext e3)) (s_getO (bs := b4) o3 (wp_ifB (fun he => s_ret ⟨rfl, true, rfl, hz3, by omega, (fun h => by cases h), fun _ => .inl ?_⟩) fun he => ?_))
    ·simp only [andB_iff, eqI_iff] at he
     obtain ⟨_, h2, _, h4⟩ := he
     by_cases hlt : i < nLines (txA T)
     ·have := told_ne hlt (by omega)
      rw [← hl] at this
      rcases this with h | h
      ·exact absurd h2 h
      ·exact absurd h4 h
     ·rw [show nLines (txA T) = i by omega]; exact j3
    have hlt' : i < nLines (txA T) := by
     by_cases hlt : i < nLines (txA T)
     ·exact hlt
     ·exfalso
      have hiN : nLines (txA T) = nB (txA T) := by omega
      have hiB : i = nB (txA T) := by omega
      have hfin := hN.2.2.1 hiN
      have hl2 : ln = ((startN (txA T) i : Int), ((txA T).length : Int), ((txA T).length : Int), 0, ()) := by rw [hl]; unfold lineD; rw [if_neg (by omega)]
      rw [hiB, hfin.1] at hl2
      subst hl2
      have : andB (eqI ((txA T).length : Int) ((txA T).length : Int)) (andB (eqI ((txA T).length : Int) ((txA T).length : Int)) (andB (eqI ((txA T).length : Int) ((txA T).length : Int)) (eqI (0 : Int) 0))) = false := he
      simp [andB, eqI] at this
    refine s_getO (bs := b4) (o2.ext e3) (tell hlt' fun b h4 ht hf hz4 hs4 => s_ret ⟨rfl, _, rfl, hz4, hs4, fun hb => ?_, fun hb => .inr ?_⟩)
    ·rw [notB_not] at hb
     exact ⟨hlt', ht hb⟩
    ·rw [notB_iff] at hb
     exact hf hb
   ·rw [gtI_not] at hd
    have hlt : i < nLines (txA T) := by omega
    refine s_getO (bs := b4) (o2.ext e3) (tell hlt fun b h4 ht hf hz4 hs4 => s_ret ⟨rfl, _, rfl, hz4, hs4, fun hb => ?_, fun hb => .inr ?_⟩)
    ·rw [notB_not] at hb
     exact ⟨hlt, ht hb⟩
    ·rw [notB_iff] at hb
     exact hf hb
  ·rintro tag vs h4 ⟨rfl, b, rfl, hz4, hs4, hff, htt⟩
   refine s_tag (s_castB (wp_ifB (fun hb => s_ret ⟨fun hh => absurd hh (by decide), fun _ => ⟨rfl, rfl, hs4, hz4, htt hb⟩⟩) fun hb => ?_))
   obtain ⟨hlt, j4⟩ := hff hb
   rw [add_ok (by omega) (by omega)]
   exact s_ret ⟨fun _ => ⟨((i : Int) + 1, ()), rfl, ⟨i + 1, by dsimp only; omega, by omega, j4, hz4, hs4⟩, by dsimp only; omega⟩, fun hh => absurd rfl hh⟩
 ·rintro tag vs h1 ⟨rfl, rfl, hs1, hz1, hend⟩
  exact s_tag (s_cast0 (s_ret ⟨rfl, rfl, hs1, hz1, hend⟩))
end Go.Sw.Piece

set_option linter.unusedVariables false
set_option linter.unusedSimpArgs false
set_option maxRecDepth 100000
namespace Go.Sw.Piece
open Go.Sw.Any Go.Sw.Codec
open Go.Sw.Tree (iv s_putAll s_newP s_getP s_getT s_putP eqI_self Placed cell_own wp_whileG minI_eq)
variable {P : Program} {S : Ids} {h : Heap} {Q : Nat → List Value → Heap → Prop}
def cntK (A : List Int) (k : Nat) : Nat → Nat
 | 0 => 0
 | n + 1 => cntK A k n + if (lineD A n).2.2.2.1 = (k : Int) then 1 else 0
theorem cntK_le (A : List Int) (k : Nat) : ∀ n, cntK A k n ≤ n
 | 0 => Nat.le_refl _
 | n + 1 => by have := cntK_le A k n; unfold cntK; split <;> omega
def kindsD (A : List Int) (n : Nat) : LnD := ((cntK A 0 n : Int), (cntK A 1 n : Int), (cntK A 2 n : Int), (cntK A 3 n : Int), ())
theorem brk_lt (A : List Int) (i : Nat) : ∃ q : Nat, q < 4 ∧ (lineD A i).2.2.2.1 = (q : Int) := by
 unfold lineD
 split
 ·refine ⟨brkN A (endN A i), ?_, rfl⟩
  unfold brkN
  split
  ·decide
  ·split <;> decide
 ·exact ⟨0, by decide, rfl⟩
theorem kinds_succ {A : List Int} {n q : Nat} (hq : (lineD A n).2.2.2.1 = (q : Int)) (h4 : q < 4) : (Bs.inj b4 (kindsD A n))[q]? = some (i64v (cntK A q n)) ∧ (Bs.inj b4 (kindsD A n)).set q (i64v ((cntK A q n : Int) + 1)) = Bs.inj b4 (kindsD A (n + 1)) := by
 match q, h4 with
 | 0, _ => exact ⟨rfl, by simp [kindsD, cntK, hq, Bs.inj, B.inj]⟩
 | 1, _ => exact ⟨rfl, by simp [kindsD, cntK, hq, Bs.inj, B.inj]⟩
 | 2, _ => exact ⟨rfl, by simp [kindsD, cntK, hq, Bs.inj, B.inj]⟩
 | 3, _ => exact ⟨rfl, by simp [kindsD, cntK, hq, Bs.inj, B.inj]⟩
theorem al2_inj {A : List Int} {k : Nat} {x : Int × LnD × Unit} (e : Ts.inj [.one (.int .i64), t4] x = Ts.inj [.one (.int .i64), t4] (((k : Nat) : Int), lineD A k, ())) : x.1 = k ∧ Bs.inj b4 x.2.1 = Bs.inj b4 (lineD A k) := by
 have h1 := congrArg (fun l => l.head?) e
 have h2 := congrArg (fun l => l.tail.head?) e
 simp only [Ts.inj, List.head?_cons, List.tail_cons, Option.some.injEq] at h1 h2
 have h1 : Value.int .i64 x.1 = Value.int .i64 k := h1
 have h2 : (Value.agg (Bs.inj b4 x.2.1).toArray) = Value.agg (Bs.inj b4 (lineD A k)).toArray := h2
 injection h1 with _ h1
 injection h2 with h2
 exact ⟨h1, List.toArray_inj h2⟩
theorem c_lAll {n : Nat} {T : TX} (t : TextR S n h T) : Gives P (F_lines_All S (some T.p)) [.one .any] h fun (y : Value × Unit) h' => ∃ a : Addr, y.1 = .func (.func S.f_lines_All_1) #[] #[.pointer (some a)] ∧ Cel h.size h' a (.pointer (some T.p)) := by
 unfold F_lines_All Gives
 exact s_new1 _ fun h1 e1 o1 z1 => s_ret ⟨rfl, e1, (_, ()), rfl, ⟨h.size, 0, none⟩, rfl, o1⟩
theorem c_lKinds (M : Meth0 P S) (C : Cl0 P S) (L : ClL P S) {n : Nat} {T : TX} (t : TextR S n h T) : Gives P (F_lines_Kinds S (some T.p)) [t4] h fun (y : LnD × Unit) _ => y.1 = kindsD (txA T) (nLines (txA T)) := by
 unfold F_lines_Kinds Gives
 have hN := nLines_le (txA T)
 have hnB : nB (txA T) ≤ (txA T).length := cntE_le _ _
 have hAl := txA_len T
 have hbig := (t.cur.few t.lim.2).1
 have hel := els_len T.enc T.cur.ps
 refine s_new4 z4 fun h1 e1 o1 => s_new4 z4 fun h2 e2 o2 => ?_
 have e12 := e1.trans e2
 refine wp_call (c_lAll (t.ext e12)) fun ⟨(it : Value), _⟩ h3 e3 ⟨a, hit, oc⟩ => ?_
 have hit : it = .func (.func S.f_lines_All_1) #[] #[.pointer (some a)] := hit
 subst hit
 have e03 := e12.trans e3
 have q1 := e1.size; have q2 := e2.size; have q3 := e3.size
 have l1 : h.size < h1.size := (o1.lt rfl).2
 have l2 : h1.size < h2.size := (o2.lt rfl).2
 have la := oc.lt rfl
 have t3 := t.ext e03
 have itg := iter_lines M C L (Z := fun i => T.Z i ∨ i = a.block) t3 (fun i hi => .inl hi) (cell_own oc) (.inr rfl)
 have tz : ∀ i, T.Z i → i < h.size := fun i hi => (t.lo i hi).2
 have o13 : Own4 h.size h3 ⟨h.size, 0, none⟩ z4 := (o1.ext e2).ext e3
 have o23 : Own4 h1.size h3 ⟨h1.size, 0, none⟩ z4 := o2.ext e3
 let J : Nat → Heap → Prop := fun k h' => Chg (fun i => i = h1.size) h3 h' ∧ Own4 0 h' ⟨h1.size, 0, none⟩ (kindsD (txA T) k)
 refine wp_range (A := AL2 (txA T)) (N := nLines (txA T)) (Z := fun i => T.Z i ∨ i = a.block) (m := 0) (h0 := h3) itg (Held.refl _ _) J (fun _ _ => False) ?_ (fun k a b f => f.elim) (fun k hp h1' args e => ⟨_, e⟩) ?_ ⟨Chg.refl _ _, o23.mono (Nat.zero_le _)⟩ ?_
 ·rintro k ha hb ⟨c, o⟩ cc
  exact ⟨c.trans cc fun i hi f => by have := f.1; omega, cc.own o fun x hx f => by cases hx; have := f.1; dsimp only at this; omega⟩
 ·rintro k hp h4 ⟨x1, x2, u⟩ hk ⟨c, o⟩ hps cc hs4 hz4 hA
  obtain ⟨_, hx2⟩ := al2_inj (x := (x1, x2, u)) hA
  have hx2 : Bs.inj b4 x2 = Bs.inj b4 (lineD (txA T) k) := hx2
  change wp P (.alloc (Bs.inj b4 z4) fun (a5 : Addr) => .store (some a5) (Bs.inj b4 x2) <| .ret 0 [.pointer (some a5)]) h4 _
  rw [hx2]
  have hq4 := cc.1
  have c4 : Chg (fun i => i = h1.size) h3 h4 := c.trans cc fun i hi f => by have := f.1; omega
  have o4 : Own4 0 h4 ⟨h1.size, 0, none⟩ (kindsD (txA T) k) := cc.own o fun x hx f => by cases hx; have := f.1; dsimp only at this; omega
  refine s_newput4 z4 (lineD (txA T) k) fun h5 e5 o5 => s_ret ⟨rfl, (some ⟨h4.size, 0, none⟩, ()), rfl, Held.of_ext e5, fun h6 c6 s6 => ?_⟩
  obtain ⟨q, hq, hbq⟩ := brk_lt (txA T) k
  obtain ⟨g1, g2⟩ := kinds_succ hbq hq
  have o56 := c6.own o5 fun x hx f => by cases hx; have := f.2; dsimp only at this; omega
  have o46 := c6.own (o4.ext e5) fun x hx f => by cases hx; have := f.1; dsimp only at this; omega
  have hcl := cntK_le (txA T) q k
  refine wp_grd rfl (s_cell (b := .int .i64) (q : Int) rfl o56.cells (by rw [← hbq]; rfl) (wp_grd (inB_ok (by omega) (by omega)) ?_))
  rw [mulN_def, toN_def, Int.toNat_natCast, Nat.mul_one]
  refine s_cell (b := .int .i64) (cntK (txA T) q k : Int) rfl o46.cells g1 (wp_grd (inB_ok (by omega) (by omega)) ?_)
  rw [add_ok (by omega) (by omega)]
  refine s_setC' (i64v ((cntK (txA T) q k : Int) + 1)) o46 (by show q < 4; omega) rfl fun h7 o7 u7 => s_ret ⟨?_, fun _ => ⟨?_, by rw [g2] at o7; exact o7⟩, fun hh => absurd rfl hh⟩
  ·refine Held.of_chg (Chg.of_upd (F := fun i => i = h1.size) u7 fun x hx _ => by cases hx; rfl) fun i _ hw f => ?_
   rcases hw with hw | ⟨hw, _⟩
   ·have := hw.1; omega
   ·rcases hw with hw | hw
    ·have := tz i hw; omega
    ·omega
  ·exact ((c4.ext e5).trans c6 fun i hi f => by have := f.1; omega).upd u7 fun x hx _ => by cases hx; rfl
 ·intro j h5 hs5 hz5 hend
  rcases hend with ⟨rfl, c, o⟩ | ⟨_, hf⟩
  ·have o15 : Own4 h.size h5 ⟨h.size, 0, none⟩ z4 := c.own o13 fun x hx f => by cases hx; dsimp only at f; omega
   refine s_tag (s_getO (bs := b4) o (s_sto4 (kindsD (txA T) (nLines (txA T))) o15 fun h6 o6 u6 => s_getO (bs := b4) o6 (s_ret ⟨?_, fun h7 c7 s7 => ⟨rfl, ?_, (_, ()), rfl, rfl⟩⟩)))
   ·exact Held.of_chg (Chg.of_upd (F := fun i => i = h.size) u6 fun x hx _ => by cases hx; rfl) fun i _ hw f => by have := hw.1; omega
   ·have c56 : Chg (fun i => i = h.size) h5 h6 := Chg.of_upd u6 fun x hx _ => by cases hx; rfl
    have q56 := c56.1; have q5 := c.1
    exact Keep.trans e03 ((((c.mono (G := fun i => h.size ≤ i) fun i _ f => by omega).trans c56 fun i _ f => by omega).trans c7 fun i _ f => by have := f.1; omega).keep (by omega) fun i hi f => by omega)
  ·exact hf.elim
abbrev SpD := Int × Int × Int × Unit
abbrev b3 : List B := [.int .i64, .int .i64, .int .i64]
theorem flat3i {x : SpD} : ∀ v, v ∈ Bs.inj b3 x → flat v = true := by intro v hv; simp [Bs.inj] at hv; rcases hv with rfl | rfl | rfl <;> rfl
def wholeF (A : List Int) (first last : Int) : SpD × Int :=
 if first < 0 ∨ last < first ∨ (nLines A : Int) ≤ last then ((0, 0, 0, ()), 2)
 else ((if (lineD A last.toNat).2.2.2.1 = 0 ∧ 0 < first ∧ (lineD A (first - 1).toNat).1 < (lineD A (first - 1).toNat).2.1 then (lineD A (first - 1).toNat).2.1 else (lineD A first.toNat).1, (lineD A last.toNat).2.2.1, 1, ()), 0)
theorem c_lWhole (M : Meth0 P S) (C : Cl0 P S) {n : Nat} {T : TX} {first last : Int} (t : TextR S n h T) : Gives P (F_lines_Whole S (some T.p) first last) [.agg b3, .one (.int .i64)] h fun (y : SpD × Int × Unit) _ => (y.1, y.2.1) = wholeF (txA T) first last := by
 unfold F_lines_Whole Gives
 have hN := nLines_le (txA T)
 have hnB : nB (txA T) ≤ (txA T).length := cntE_le _ _
 have hAl := txA_len T
 have hbig := (t.cur.few t.lim.2).1
 have hel := els_len T.enc T.cur.ps
 refine s_newO (bs := b3) ((0, 0, 0, ()) : SpD) (by decide) fun h1 e1 o1 => ?_
 refine bind_bool (first < 0 ∨ last < first ∨ (nLines (txA T) : Int) ≤ last) ?_ fun bb h2 e2 hb2 => wp_ifB (fun hc => ?_) fun hc => ?_
 ·refine wp_ifB (fun hc => s_ret ⟨rfl, Ext.refl _, true, rfl, Iff.intro (fun _ => .inl (ltI_iff.1 hc)) fun _ => rfl⟩) fun hc => wp_ifB (fun hd => s_ret ⟨rfl, Ext.refl _, true, rfl, Iff.intro (fun _ => .inr (.inl (ltI_iff.1 hd))) fun _ => rfl⟩) fun hd => ?_
  rw [ltI_not] at hc hd
  refine wp_call (c_lCount M C (t.ext e1)) fun ⟨(z : Int), _⟩ h2 e2 hz => s_ret ⟨rfl, e2, _, rfl, ?_⟩
  have hz : z = nLines (txA T) := hz
  subst hz
  rw [geI_iff]
  exact ⟨fun h => .inr (.inr h), fun h => by rcases h with h | h | h; omega; omega; exact h⟩
 ·have hc := hb2.1 hc
  refine s_stoO (bs := b3) ((0, 0, 0, ()) : SpD) (o1.ext e2) flat3i fun h3 o3 u3 => s_getO (bs := b3) o3 (s_ret ⟨rfl, Upd.extN (e1.trans e2) u3 (by intro z hz; cases hz; exact Nat.le_refl _), (_, 2, ()), rfl, ?_⟩)
  unfold wholeF
  rw [if_pos hc]
 have hc : ¬ (first < 0 ∨ last < first ∨ (nLines (txA T) : Int) ≤ last) := fun h => by have hc : bb = false := hc; rw [hb2.2 h] at hc; cases hc
 unfold wholeF
 rw [if_neg hc]
 have e12 := e1.trans e2
 refine wp_call (c_lAt M C (line := first) (t.ext e12)) fun ⟨(la : LnD), (ea : Int), _⟩ h3 e3 ha => ?_
 have ha : la = lineD (txA T) first.toNat := (ha.1 ⟨by omega, by omega⟩).1
 refine s_newput4 z4 la fun h4 e4 o4 => ?_
 have e14 := e12.trans (e3.trans e4)
 refine wp_call (c_lAt M C (line := last) (t.ext e14)) fun ⟨(lb : LnD), (eb : Int), _⟩ h5 e5 hb => ?_
 have hb : lb = lineD (txA T) last.toNat := (hb.1 ⟨by omega, by omega⟩).1
 refine s_newput4 z4 lb fun h6 e6 o6 => ?_
 have e16 := e14.trans (e5.trans e6)
 refine s_cell (b := .int .i64) la.1 rfl (o4.ext (e5.trans e6)).cells rfl (s_cell (b := .int .i64) lb.2.2.1 rfl o6.cells rfl ?_)
 refine s_putO (bs := b3) (z := ((0, 0, 0, ()) : SpD)) ((la.1, lb.2.2.1, 1, ()) : SpD) (by decide) flat3i fun h7 e7 o7 => ?_
 have e17 := e16.trans e7
 have q6 := e16.size
 refine wp_bind (fun tag vs h' => tag = 0 ∧ vs = [] ∧ Ext h h' ∧ (∀ {m : Nat} {a : Addr} {ws : List Value} {c d : Nat}, Own m 1 h7 ⟨some a, c, d⟩ ws → a.block ≠ h6.size → Own m 1 h' ⟨some a, c, d⟩ ws) ∧ Own h6.size 1 h' ⟨some ⟨h6.size, 0, none⟩, 3, 3⟩ (Bs.inj b3 ((if (lineD (txA T) last.toNat).2.2.2.1 = 0 ∧ 0 < first ∧ (lineD (txA T) (first - 1).toNat).1 < (lineD (txA T) (first - 1).toNat).2.1 then (lineD (txA T) (first - 1).toNat).2.1 else (lineD (txA T) first.toNat).1, (lineD (txA T) last.toNat).2.2.1, 1, ()) : SpD))) ?_ ?_
 ·rw [← hb, ← ha]
  refine bind_bool (lb.2.2.2.1 = 0 ∧ 0 < first) ?_ fun bb h8 e8 hb8 => wp_ifB (fun hx => ?_) fun hx => ?_
  ·refine s_cell (b := .int .i64) lb.2.2.2.1 rfl (o6.ext e7).cells rfl (wp_ifB (fun hd => s_ret ⟨rfl, Ext.refl _, _, rfl, ?_⟩) fun hd => s_ret ⟨rfl, Ext.refl _, false, rfl, Iff.intro (fun h => by cases h) fun h => ?_⟩)
   ·rw [eqI_iff] at hd
    rw [gtI_iff]
    exact ⟨fun h => ⟨hd, h⟩, fun h => h.2⟩
   ·rw [eqI_not] at hd; exact absurd h.1 hd
  ·have hx := hb8.1 hx
   rw [sub_ok (by omega) (by omega)]
   have e18 := e17.trans e8
   refine wp_call (c_lAt M C (line := first - 1) (t.ext e18)) fun ⟨(lc : LnD), (ec : Int), _⟩ h9 e9 hlc => ?_
   have hlc : lc = lineD (txA T) (first - 1).toNat := (hlc.1 ⟨by omega, by omega⟩).1
   rw [← hlc]
   refine s_newput4 z4 lc fun h10 e10 o10 => s_cell (b := .int .i64) lc.1 rfl o10.cells rfl (s_cell (b := .int .i64) lc.2.1 rfl o10.cells rfl (wp_ifB (fun hd => ?_) fun hd => ?_))
   ·rw [ltI_iff] at hd
    refine s_cell (b := .int .i64) lc.2.1 rfl o10.cells rfl ?_
    have e710 := e8.trans (e9.trans e10)
    refine s_setC' (i64v lc.2.1) (o7.ext e710) (by show 0 < 3; decide) rfl fun h11 o11 u11 => s_ret ⟨rfl, rfl, Upd.extN (e17.trans e710) u11 (by intro z hz; cases hz; dsimp only; omega), fun o hne => ?_, ?_⟩
    ·exact (o.ext e710).keep fun y hy => u11.2.1 _ ((o.ext e710).lt hy).2 fun z hz e => by cases hy; cases hz; exact hne e.symm
    ·rw [if_pos ⟨hx.1, hx.2, hd⟩]; exact o11
   ·rw [ltI_not] at hd
    have e710 := e8.trans (e9.trans e10)
    refine s_ret ⟨rfl, rfl, e17.trans e710, fun o _ => o.ext e710, ?_⟩
    rw [if_neg fun h => by have := h.2.2; omega]; exact o7.ext e710
  ·have hx : ¬ (lb.2.2.2.1 = 0 ∧ 0 < first) := fun h => by have hx : bb = false := hx; rw [hb8.2 h] at hx; cases hx
   refine s_ret ⟨rfl, rfl, e17.trans e8, fun o _ => o.ext e8, ?_⟩
   rw [if_neg fun h => hx ⟨h.1, h.2.1⟩]; exact o7.ext e8
 ·rintro tag vs h8 ⟨rfl, rfl, e8, keep, o8⟩
  have o18 := keep (((o1.ext e2).ext (e3.trans e4)).ext ((e5.trans e6).trans e7)) (by show h.size ≠ h6.size; have := (o1.lt rfl).2; have := (e2.trans ((e3.trans e4).trans (e5.trans e6))).size; dsimp only at *; omega)
  refine s_tag (s_cast0 (s_getO (bs := b3) o8 (s_stoO (bs := b3) _ o18 flat3i fun h9 o9 u9 => s_getO (bs := b3) o9 (s_ret ⟨rfl, Upd.extN e8 u9 (by intro z hz; cases hz; exact Nat.le_refl _), (_, 0, ()), rfl, rfl⟩))))
end Go.Sw.Piece

set_option linter.unusedVariables false
set_option linter.unusedSimpArgs false
set_option maxRecDepth 100000
namespace Go.Sw.Piece
open Go.Sw.Any Go.Sw.Codec
open Go.Sw.Tree (iv s_putAll s_newP s_getP s_getT s_putP eqI_self Placed cell_own wp_whileG minI_eq)
variable {P : Program} {S : Ids} {h : Heap} {Q : Nat → List Value → Heap → Prop}
def bfr (A : List Int) (at_ : Nat) (out : List Int) : Int := if out.length = 0 then (if at_ = 0 then 0 else A.getD (at_ - 1) 0) else out.getD (out.length - 1) 0
def meltF (A : List Int) (at_ : Nat) (nat_ : Int) (last : Bool) (b : Int) : Bool := decide (nat_ = 1 ∧ b = 13) || decide (nat_ = 3 ∧ last = true ∧ A.getD at_ 0 = 10)
def endL (nat_ : Int) : List Int := if nat_ = 1 then [10] else if nat_ = 2 then [13, 10] else [13]
def tyP (A : List Int) (at_ : Nat) (nat_ : Int) (last : Bool) (b x : Int) : List Int := if x ≠ 10 then [x] else if meltF A at_ nat_ last b = true then [13, 10] else endL nat_
def tyF (A : List Int) (at_ : Nat) (nat_ : Int) (l : List Int) : Nat → List Int
 | 0 => []
 | i + 1 => tyF A at_ nat_ l i ++ tyP A at_ nat_ (decide (i + 1 = l.length)) (bfr A at_ (tyF A at_ nat_ l i)) (l.getD i 0)
theorem tyP_len (A : List Int) (at_ : Nat) (nat_ : Int) (last : Bool) (b x : Int) : 1 ≤ (tyP A at_ nat_ last b x).length ∧ (tyP A at_ nat_ last b x).length ≤ 2 := by
 unfold tyP endL
 split
 ·exact ⟨by simp, by simp⟩
 ·split
  ·exact ⟨by simp, by simp⟩
  ·split
   ·exact ⟨by simp, by simp⟩
   ·split <;> exact ⟨by simp, by simp⟩
theorem tyF_len (A : List Int) (at_ : Nat) (nat_ : Int) (l : List Int) : ∀ i, i ≤ (tyF A at_ nat_ l i).length ∧ (tyF A at_ nat_ l i).length ≤ 2 * i
 | 0 => ⟨Nat.le_refl _, Nat.le_refl _⟩
 | i + 1 => by
  have h1 := tyF_len A at_ nat_ l i
  have h2 := tyP_len A at_ nat_ (decide (i + 1 = l.length)) (bfr A at_ (tyF A at_ nat_ l i)) (l.getD i 0)
  unfold tyF
  rw [List.length_append]
  omega
def typedF (A : List Int) (at_ nat_ : Int) (l : List Int) : List Int × Int :=
 if ¬ (1 ≤ nat_ ∧ nat_ ≤ 3) then ([], 1) else if ¬ (0 ≤ at_ ∧ at_ ≤ A.length) then ([], 2) else (tyF A at_.toNat nat_ l l.length, 0)
theorem fits_end {nat_ x : Int} (h : x ∈ endL nat_) : fitsI .i64 x := by
 unfold endL at h
 rw [fits_i64]
 split at h
 ·simp at h; subst h; decide
 ·split at h
  ·simp at h; rcases h with rfl | rfl <;> decide
  ·simp at h; subst h; decide
theorem fits_1310 {x : Int} (h : x ∈ ([13, 10] : List Int)) : fitsI .i64 x := by simp at h; rw [fits_i64]; rcases h with rfl | rfl <;> decide
theorem around_is {A : List Int} {a : Nat} (ha : a ≤ A.length) : partL A ((a : Int) - 1) ((a : Int) + 1) = (if a = 0 then [] else [A.getD (a - 1) 0]) ++ (if a < A.length then [A.getD a 0] else []) := by
 unfold partL
 have h1 : (max ((a : Int) - 1) 0).toNat = a - 1 := by omega
 rw [h1]
 by_cases h : a < A.length
 ·have h2 : (min ((a : Int) + 1) A.length).toNat = a + 1 := by omega
  rw [h2, if_pos h]
  have ga : A[a]? = some (A.getD a 0) := by rw [List.getD_eq_getElem?_getD, List.getElem?_eq_getElem h]; rfl
  by_cases h0 : a = 0
  ·subst h0
   rw [if_pos rfl, List.take_add_one, ga]; rfl
  ·rw [if_neg h0, List.take_add_one, ga, List.drop_append_of_le_length (by rw [List.length_take]; omega)]
   have gb : A[a - 1]? = some (A.getD (a - 1) 0) := by rw [List.getD_eq_getElem?_getD, List.getElem?_eq_getElem (by omega)]; rfl
   have : (A.take a).drop (a - 1) = [A.getD (a - 1) 0] := by
    have := List.take_add_one (l := A) (i := a - 1)
    rw [show a - 1 + 1 = a by omega, gb] at this
    rw [this, List.drop_append_of_le_length (by rw [List.length_take]; omega), List.drop_of_length_le (by rw [List.length_take]; omega)]; rfl
   rw [this]; rfl
 ·have h2 : (min ((a : Int) + 1) A.length).toNat = a := by omega
  rw [h2, if_neg h, List.append_nil]
  by_cases h0 : a = 0
  ·subst h0; rw [if_pos rfl]; rfl
  ·rw [if_neg h0]
   have gb : A[a - 1]? = some (A.getD (a - 1) 0) := by rw [List.getD_eq_getElem?_getD, List.getElem?_eq_getElem (by omega)]; rfl
   have := List.take_add_one (l := A) (i := a - 1)
   rw [show a - 1 + 1 = a by omega, gb] at this
   rw [this, List.drop_append_of_le_length (by rw [List.length_take]; omega), List.drop_of_length_le (by rw [List.length_take]; omega)]; rfl
theorem c_lTyped (M : Meth0 P S) (C : Cl0 P S) {n : Nat} {T : TX} {at_ nat_ : Int} {s : Sl} {l : List Int} (t : TextR S n h T) (hl : Lst .i64 h s l) (hL : l.length ≤ 1073741824) :
  Gives P (F_lines_Typed S (some T.p) at_ s nat_) [.one .sl, .one (.int .i64)] h fun (y : Sl × Int × Unit) h' => OwnL h.size .i64 h' y.1 (typedF (txA T) at_ nat_ l).1 ∧ y.2.1 = (typedF (txA T) at_ nat_ l).2 := by
 unfold F_lines_Typed Gives
 have hAl := txA_len T
 have hbig := (t.cur.few t.lim.2).1
 have hel := els_len T.enc T.cur.ps
 have ll := hl.len
 unfold typedF
 refine wp_bind (fun tag vs h' => (tag = 1 ∧ ¬ (1 ≤ nat_ ∧ nat_ ≤ 3) ∧ vs = [slv ⟨none, 0, 0⟩, i64v 1] ∧ Ext h h') ∨ (tag = 0 ∧ (1 ≤ nat_ ∧ nat_ ≤ 3) ∧ Ext h h' ∧ ∃ e : Sl, vs = [slv e] ∧ OwnL h.size .i64 h' e (endL nat_))) ?_ ?_
 ·refine wp_ifB (fun hc => ?_) fun hc => wp_ifB (fun hd => ?_) fun hd => wp_ifB (fun he => ?_) fun he => s_ret (.inl ⟨rfl, ?_, rfl, Ext.refl _⟩)
  ·rw [eqI_iff] at hc; subst hc
   refine s_allocL (k := .i64) [10] (fun z hz => fits_end (nat_ := 1) hz) (by simp) fun h1 e1 o1 => s_ret (.inr ⟨rfl, by omega, e1, _, rfl, o1⟩)
  ·rw [eqI_iff] at hd; subst hd
   refine s_allocL (k := .i64) [13, 10] (fun z hz => fits_end (nat_ := 2) hz) (by simp) fun h1 e1 o1 => s_ret (.inr ⟨rfl, by omega, e1, _, rfl, o1⟩)
  ·rw [eqI_iff] at he; subst he
   refine s_allocL (k := .i64) [13] (fun z hz => fits_end (nat_ := 3) hz) (by simp) fun h1 e1 o1 => s_ret (.inr ⟨rfl, by omega, e1, _, rfl, o1⟩)
  ·rw [eqI_not] at hc hd he; omega
 rintro tag vs h1 (⟨rfl, hn, rfl, e1⟩ | ⟨rfl, hn, e1, en, rfl, oe⟩)
 ·rw [if_pos hn]
  exact s_tag (wp_cast (tys := [.one .sl, .one (.int .i64)]) (⟨none, 0, 0⟩, 1, ()) rfl (s_ret ⟨rfl, e1, (⟨none, 0, 0⟩, 1, ()), rfl, OwnL.nil _ _ _, rfl⟩))
 rw [if_neg fun h => h hn]
 refine s_tagNo rfl (s_tag (wp_cast (tys := [.one .sl]) (en, ()) rfl ?_))
 refine bind_bool (¬ (0 ≤ at_ ∧ at_ ≤ (txA T).length)) ?_ fun bb h2 e2 hb2 => wp_ifB (fun hc => ?_) fun hc => ?_
 ·refine wp_ifB (fun hc => s_ret ⟨rfl, Ext.refl _, true, rfl, Iff.intro (fun _ => by rw [ltI_iff] at hc; omega) fun _ => rfl⟩) fun hc => wp_call (c_Len (t.ext e1)) fun ⟨(L : Int), _⟩ h2 e2 hLl => s_ret ⟨rfl, e2, _, rfl, ?_⟩
  rw [ltI_not] at hc
  have hLl : L = (els T.enc T.cur.ps).length := hLl
  rw [gtI_iff]
  dsimp only
  omega
 ·rw [if_pos (hb2.1 hc)]
  exact s_ret ⟨rfl, e1.trans e2, (⟨none, 0, 0⟩, 2, ()), rfl, OwnL.nil _ _ _, rfl⟩
 have hin : 0 ≤ at_ ∧ at_ ≤ (txA T).length := Classical.byContradiction fun h => by have hc : bb = false := hc; rw [hb2.2 h] at hc; cases hc
 rw [if_neg fun h => h hin]
 obtain ⟨a, rfl⟩ : ∃ a : Nat, at_ = a := ⟨at_.toNat, by omega⟩
 rw [Int.toNat_natCast, sub_ok (by omega) (by omega), add_ok (by omega) (by omega)]
 have e12 := e1.trans e2
 refine wp_call (c_Atoms M C (from_ := (a : Int) - 1) (t.ext e12) (fits_i64.2 (by omega))) fun ⟨(w : Sl), _⟩ h3 e3 ow => ?_
 have ow : OwnL h2.size .i64 h3 w ((cutL (els T.enc T.cur.ps) ((a : Int) - 1) ((a : Int) + 1)).map (·.1)) := ow
 rw [part_map, show (els T.enc T.cur.ps).map (fun x : El => x.1) = txA T from rfl, around_is (by omega)] at ow
 generalize txA T = A at *
 have lw := ow.len
 refine bind_val (tys := [.one .sl, .one (.int .i64)]) (fun (x : Sl × Int × Unit) h' => Lst .i64 h' x.1 (if a < A.length then [A.getD a 0] else []) ∧ x.2.1 = bfr A a []) ?_ fun ⟨(w2 : Sl), (b0 : Int), _⟩ h4 e4 ⟨lw2, hb0⟩ => ?_
 ·have hbf : bfr A a [] = if a = 0 then 0 else A.getD (a - 1) 0 := if_pos rfl
  refine wp_ifB (fun hc => ?_) fun hc => s_ret ⟨rfl, Ext.refl _, (w, 0, ()), rfl, ?_, ?_⟩
  ·rw [gtI_iff] at hc
   rw [if_neg (by omega)] at ow lw
   rw [List.length_append, List.length_singleton] at lw
   have := s_at0 (P := P) (Q := fun t vs h' => t = 0 ∧ Ext h3 h' ∧ ∃ x : Sl × Int × Unit, vs = Ts.inj [.one .sl, .one (.int .i64)] x ∧ Lst .i64 h' x.1 (if a < A.length then [A.getD a 0] else []) ∧ x.2.1 = bfr A a []) (K := fun n5019 => grd (leB 1 w.len) <| .ret 0 [.slice (cutBase w.base w.cap 1 1) (subN w.len 1) (subN w.cap 1), .int .i64 n5019]) ow.lst (n := 0) (by rw [List.length_append, List.length_singleton]; omega) fun _ => ?_
   ·exact this
   ·refine wp_grd (leB_ok (by omega) (by omega)) (s_ret ⟨rfl, Ext.refl _, (⟨cutBase w.base w.cap 1 1, subN w.len 1, subN w.cap 1⟩, A.getD (a - 1) 0, ()), rfl, ?_, ?_⟩)
    ·have hlst := ow.lst
     have hsub := Go.Sw.Lst.drop hlst (i := 1) (m := w.cap - 1) (by rw [List.length_append, List.length_singleton]; omega) (by have := hlst.cap; omega) (by have := hlst.max; omega)
     exact hsub
    ·rw [hbf, if_neg (by omega)]
  ·rw [gtI_not] at hc
   have h0 : a = 0 := by omega
   rw [if_pos h0, List.nil_append] at ow
   exact ow.lst
  ·rw [gtI_not] at hc
   show (0 : Int) = _
   rw [hbf, if_pos (by omega)]
 have hb0 : b0 = bfr A a [] := hb0
 have lw2l := lw2.len
 refine bind_val (tys := [.one (.int .i64)]) (fun (x : Int × Unit) _ => x.1 = A.getD a 0) ?_ fun ⟨(bh : Int), _⟩ h5 e5 hbh => ?_
 ·refine wp_ifB (fun hc => ?_) fun hc => s_ret ⟨rfl, Ext.refl _, (0, ()), rfl, ?_⟩
  ·rw [gtI_iff, natI_def] at hc
   have hlt : a < A.length := by
    by_cases h : a < A.length
    ·exact h
    ·rw [if_neg h] at lw2l; simp at lw2l; dsimp only at hc; omega
   rw [if_pos hlt] at lw2
   exact s_at0 lw2 (n := 0) (by simp) fun _ => s_ret ⟨rfl, Ext.refl _, (_, ()), rfl, rfl⟩
  ·rw [gtI_not, natI_def] at hc
   have hlt : ¬ a < A.length := fun h => by rw [if_pos h] at lw2l; simp at lw2l; dsimp only at hc; omega
   show (0 : Int) = _
   rw [List.getD_eq_getElem?_getD, List.getElem?_eq_none (by omega)]; rfl
 have hbh : bh = A.getD a 0 := hbh
 have e15 := (e2.trans e3).trans (e4.trans e5)
 have e05 := e1.trans e15
 have oe5 := oe.ext e15
 have hs1 := e1.size
 dsimp only
 refine wp_while (fun (r : Int × Sl × Int × Unit) h' => ∃ i : Nat, i ≤ l.length ∧ r.2.2.1 = (i : Int) ∧ r.1 = bfr A a (tyF A a nat_ l i) ∧ Ext h5 h' ∧ OwnL h5.size .i64 h' r.2.1 (tyF A a nat_ l i)) (fun r _ => (l.length - r.2.2.1).toNat)
  (fun tag vs h' => tag = 3 ∧ ∃ r : Sl, vs = [slv r] ∧ Ext h5 h' ∧ OwnL h5.size .i64 h' r (tyF A a nat_ l l.length)) ⟨0, Nat.zero_le _, rfl, hb0, Ext.refl _, OwnL.nil _ _ _⟩ ?_ ?_
 ·rintro ⟨(ah : Int), (r : Sl), (i' : Int), u⟩ h6 ⟨i, hi, hi', hah, e6, o6⟩
  dsimp only at hi' hah o6 ⊢
  subst hi'
  have hl6 := hl.ext (e05.trans e6)
  have q6 := e6.size
  have fl := tyF_len A a nat_ l i
  refine wp_ifB (fun hc => ?_) fun hc => ?_
  ·rw [ltI_iff, natI_def, ll] at hc
   refine s_at hl6 (by omega) (by omega) fun hfx => ?_
   rw [Int.toNat_natCast] at hfx ⊢
   have hstep : tyF A a nat_ l (i + 1) = tyF A a nat_ l i ++ tyP A a nat_ (decide (i + 1 = l.length)) (bfr A a (tyF A a nat_ l i)) (l.getD i 0) := rfl
   have pl := tyP_len A a nat_ (decide (i + 1 = l.length)) (bfr A a (tyF A a nat_ l i)) (l.getD i 0)
   rw [← hah] at hstep pl
   have app : ∀ {h7 : Heap} {x : Sl} {m : List Int} {K : Sl → Prog} {R : Nat → List Value → Heap → Prop}, Ext h6 h7 → Lst .i64 h7 x m → m = tyP A a nat_ (decide (i + 1 = l.length)) ah (l.getD i 0) → (∀ r' h8, Ext h5 h8 → OwnL h5.size .i64 h8 r' (tyF A a nat_ l (i + 1)) → wp P (K r') h8 R) → wp P (.append 1 8 [.int .i64 0] r x K) h7 R := fun {h7 x m K R} e7 hx hm hk => by
    subst hm
    refine s_append (o6.ext e7) (by have := e7.size; omega) hx (by omega) (by omega) fun r' h8 k8 o8 _ _ => hk r' h8 (Keep.trans (e6.trans e7) k8) (by rw [hstep]; exact o8)
   refine wp_bind (fun tag vs h' => tag = 0 ∧ ∃ r' : Sl, vs = [slv r'] ∧ Ext h5 h' ∧ OwnL h5.size .i64 h' r' (tyF A a nat_ l (i + 1))) ?_ ?_
   ·refine wp_ifB (fun hd => ?_) fun hd => ?_
    ·rw [neI_iff] at hd
     refine s_allocL (k := .i64) [l.getD i 0] (by intro z hz; rw [List.mem_singleton.1 hz]; exact hfx) (by simp) fun h7 e7 o7 => app e7 o7.lst (by unfold tyP; rw [if_pos hd]) fun r' h8 e8 o8 => s_ret ⟨rfl, r', rfl, e8, o8⟩
    rw [neI_not] at hd
    have hP : tyP A a nat_ (decide (i + 1 = l.length)) ah (l.getD i 0) = if meltF A a nat_ (decide (i + 1 = l.length)) ah = true then [13, 10] else endL nat_ := by unfold tyP; rw [if_neg fun h => h hd]
    refine bind_bool (nat_ = 1 ∧ ah = 13) ?_ fun b7 h7 e7 hb7 => wp_ifB (fun hx => ?_) fun hx => ?_
    ·refine wp_ifB (fun hx => s_ret ⟨rfl, Ext.refl _, _, rfl, ?_⟩) fun hx => s_ret ⟨rfl, Ext.refl _, false, rfl, Iff.intro (fun h => by cases h) fun h => ?_⟩
     ·rw [eqI_iff] at hx; rw [eqI_iff]; exact ⟨fun h => ⟨hx, h⟩, fun h => h.2⟩
     ·rw [eqI_not] at hx; exact absurd h.1 hx
    ·have hx' := hb7.1 hx
     have hx : b7 = true := hx
     subst hx
     have hm : meltF A a nat_ (decide (i + 1 = l.length)) ah = true := by unfold meltF; rw [decide_eq_true hx']; rfl
     refine s_ifT (s_allocL (k := .i64) [13, 10] (fun z hz => fits_1310 hz) (by simp) fun h8 e8 o8 => app (e7.trans e8) o8.lst (by rw [hP, if_pos hm]) fun r' h9 e9 o9 => s_ret ⟨rfl, r', rfl, e9, o9⟩)
    have hx1 : ¬ (nat_ = 1 ∧ ah = 13) := fun h => by have hx : b7 = false := hx; rw [hb7.2 h] at hx; cases hx
    have hsub : subI .i64 (natI s.len) 1 = (l.length : Int) - 1 := by rw [natI_def, ll, sub_ok (by omega) (by omega)]
    rw [hsub]
    refine bind_bool (nat_ = 3 ∧ i + 1 = l.length ∧ A.getD a 0 = 10) ?_ fun b8 h8 e8 hb8 => wp_ifB (fun hy => ?_) fun hy => ?_
    ·refine wp_ifB (fun hy => wp_ifB (fun hz => s_ret ⟨rfl, Ext.refl _, _, rfl, ?_⟩) fun hz => s_ret ⟨rfl, Ext.refl _, false, rfl, Iff.intro (fun h => by cases h) fun h => ?_⟩) fun hy => s_ret ⟨rfl, Ext.refl _, false, rfl, Iff.intro (fun h => by cases h) fun h => ?_⟩
     ·rw [eqI_iff] at hy hz
      rw [eqI_iff, hbh]; exact ⟨fun h => ⟨hy, by omega, h⟩, fun h => h.2.2⟩
     ·rw [eqI_not] at hz; omega
     ·rw [eqI_not] at hy; exact absurd h.1 hy
    ·have hy := hb8.1 hy
     have hm : meltF A a nat_ (decide (i + 1 = l.length)) ah = true := by
      unfold meltF
      rw [decide_eq_true (p := nat_ = 3 ∧ decide (i + 1 = l.length) = true ∧ A.getD a 0 = 10) ⟨hy.1, decide_eq_true hy.2.1, hy.2.2⟩, Bool.or_true]
     refine s_allocL (k := .i64) [13, 10] (fun z hz => fits_1310 hz) (by simp) fun h9 e9 o9 => app ((e7.trans e8).trans e9) o9.lst (by rw [hP, if_pos hm]) fun r' h10 e10 o10 => s_ret ⟨rfl, r', rfl, e10, o10⟩
    ·have hy2 : ¬ (nat_ = 3 ∧ i + 1 = l.length ∧ A.getD a 0 = 10) := fun h => by have hy : b8 = false := hy; rw [hb8.2 h] at hy; cases hy
     have hm : ¬ (meltF A a nat_ (decide (i + 1 = l.length)) ah = true) := fun h => by
      unfold meltF at h
      rw [Bool.or_eq_true, decide_eq_true_iff, decide_eq_true_iff] at h
      rcases h with h | h
      ·exact hx1 h
      ·exact hy2 ⟨h.1, of_decide_eq_true h.2.1, h.2.2⟩
     have e78 := e7.trans e8
     exact app e78 ((oe5.ext e6).ext e78).lst (by rw [hP, if_neg hm]) fun r' h9 e9 o9 => s_ret ⟨rfl, r', rfl, e9, o9⟩
   ·rintro tag vs h7 ⟨rfl, r', rfl, e7, o7⟩
    have fl2 := tyF_len A a nat_ l (i + 1)
    have lr := o7.len
    refine s_tag (wp_cast (tys := [.one .sl]) (r', ()) rfl ?_)
    have hsub : subI .i64 (natI r'.len) 1 = (((tyF A a nat_ l (i + 1)).length - 1 : Nat) : Int) := by rw [natI_def, lr, sub_ok (by omega) (by omega)]; omega
    dsimp only
    rw [hsub]
    refine s_at o7.lst (by omega) (by omega) fun _ => ?_
    rw [Int.toNat_natCast, add_ok (by omega) (by omega)]
    refine s_ret ⟨fun _ => ⟨((tyF A a nat_ l (i + 1)).getD ((tyF A a nat_ l (i + 1)).length - 1) 0, r', (i : Int) + 1, ()), rfl, ⟨i + 1, by omega, by dsimp only; omega, ?_, e7, o7⟩, by dsimp only; omega⟩, fun hh => absurd rfl hh⟩
    unfold bfr
    rw [if_neg (by omega)]
  ·rw [ltI_not, natI_def, ll] at hc
   have : i = l.length := by omega
   subst this
   exact s_ret ⟨fun hh => absurd hh (by decide), fun _ => ⟨rfl, r, rfl, e6, o6⟩⟩
 ·rintro tag vs h6 ⟨rfl, r, rfl, e6, o6⟩
  exact s_tag (wp_cast (tys := [.one .sl]) (r, ()) rfl (s_ret ⟨rfl, e05.trans e6, (r, 0, ()), rfl, o6.mono e05.size, rfl⟩))
end Go.Sw.Piece

set_option linter.unusedVariables false
set_option linter.unusedSimpArgs false
set_option maxRecDepth 100000
namespace Go.Sw.Piece
open Go.Sw.Any Go.Sw.Codec
open Go.Sw.Tree (iv s_putAll s_newP s_getP s_getT s_putP eqI_self Placed cell_own wp_whileG minI_eq)
variable {P : Program} {S : Ids} {h : Heap} {Q : Nat → List Value → Heap → Prop}
def c4 (l : List LnD) : List Value := l.flatMap fun x => Bs.inj b4 x
theorem c4_len (l : List LnD) : (c4 l).length = l.length * 4 := by
 unfold c4
 induction l with
 | nil => rfl
 | cons x l ih => rw [List.flatMap_cons, List.length_append, ih]; simp only [List.length_cons]; show 4 + l.length * 4 = _; omega
theorem c4_at : ∀ (l : List LnD) (i : Nat) (y : LnD), l[i]? = some y → ∀ (j : Nat) (v : Value), (Bs.inj b4 y)[j]? = some v → (c4 l)[i * 4 + j]? = some v
 | [], i, y, h, _, _, _ => by simp at h
 | x :: l, 0, y, h, j, v, hv => by
  simp at h; subst h
  unfold c4
  rw [List.flatMap_cons, Nat.zero_mul, Nat.zero_add, List.getElem?_append_left (List.getElem?_eq_some_iff.1 hv).1]; exact hv
 | x :: l, i + 1, y, h, j, v, hv => by
  have := c4_at l i y (by simpa using h) j v hv
  unfold c4 at this ⊢
  rw [List.flatMap_cons, List.getElem?_append_right (by show 4 ≤ _; omega)]
  rw [show (i + 1) * 4 + j - (Bs.inj b4 x).length = i * 4 + j by show (i + 1) * 4 + j - 4 = _; omega]
  exact this
theorem c4_snoc (l : List LnD) (y : LnD) : c4 (l ++ [y]) = c4 l ++ Bs.inj b4 y := by unfold c4; rw [List.flatMap_append]; simp
abbrev LnL (n : Nat) (h : Heap) (s : Sl) (l : List LnD) : Prop := Own n 4 h s (c4 l)
theorem LnL.len {n : Nat} {s : Sl} {l : List LnD} (o : LnL n h s l) : s.len = l.length := by have := o.1; rw [c4_len] at this; omega
theorem s_push4 {n : Nat} {s : Sl} {l : List LnD} (y : LnD) {K : Sl → Prog} (o : LnL n h s l) (hn : n ≤ h.size) (hl : l.length ≤ 1073741824) (hk : ∀ r h', Keep n h h' → LnL n h' r (l ++ [y]) → wp P (K r) h' Q) :
  wp P (.alloc (Bs.inj b4 y) fun a => .append 4 32 (Bs.inj b4 z4) s ⟨some a, 1, 1⟩ K) h Q := by
 have ls := o.len
 exact wp_push o hn rfl flat4 rfl (by rw [ls]; omega) (by rw [ls]; omega) fun r h' a b c d => hk r h' (Upd.keep o hn c) (by show Own n 4 h' r _; rw [c4_snoc]; exact a)
theorem s_ld4 {n i : Nat} {s : Sl} {l : List LnD} {y : LnD} {K : LnD → Prog} (o : LnL n h s l) (hi : l[i]? = some y) (hk : wp P (K y) h Q) :
  wp P (grd (andB (someB s.base) (inB (i : Int) s.len)) <| .load t4 (shiftTo s.base (mulN (toN (i : Int)) 4)) K) h Q := by
 have ls := o.len
 have hlt := (List.getElem?_eq_some_iff.1 hi).1
 obtain ⟨a, ea, c0⟩ := o.rd.2 (i * 4 + 0) _ (c4_at l i y hi 0 _ rfl)
 refine wp_grd (andB_iff.2 ⟨by simp [someB, ea], inB_is.2 ⟨by omega, by omega⟩⟩) ⟨a.add (i * 4), by simp [shiftTo, ea, mulN, toN], y, ?_, hk⟩
 refine cells_iff.2 fun j v hj => ?_
 obtain ⟨a', ea', c⟩ := o.rd.2 (i * 4 + j) _ (c4_at l i y hi j v hj)
 rw [ea] at ea'; cases ea'
 rw [add_add]; exact c
theorem s_fld4 {n i j : Nat} {s : Sl} {l : List LnD} {y : LnD} {z : Int} {K : Int → Prog} (o : LnL n h s l) (hi : l[i]? = some y) (hz : (Bs.inj b4 y)[j]? = some (i64v z)) (hk : wp P (K z) h Q) :
  wp P (grd (andB (someB s.base) (inB (i : Int) s.len)) <| grd (someB (shiftTo s.base (mulN (toN (i : Int)) 4))) <| .load (.one (.int .i64)) (shiftTo (shiftTo s.base (mulN (toN (i : Int)) 4)) j) K) h Q := by
 have ls := o.len
 have hlt := (List.getElem?_eq_some_iff.1 hi).1
 obtain ⟨a, ea, c⟩ := o.rd.2 (i * 4 + j) _ (c4_at l i y hi j _ hz)
 have hsh : shiftTo s.base (mulN (toN (i : Int)) 4) = some (a.add (i * 4)) := by simp [shiftTo, ea, mulN, toN]
 rw [hsh]
 refine wp_grd (andB_iff.2 ⟨by simp [someB, ea], inB_is.2 ⟨by omega, by omega⟩⟩) (wp_grd rfl (wp_load1 (b := .int .i64) _ z rfl ?_ hk))
 show Sw.cell h ((a.add (i * 4)).add j) = _
 rw [add_add]; exact c
def linesL (A : List Int) (n : Nat) : List LnD := (List.range n).map (lineD A)
theorem linesL_len (A : List Int) (n : Nat) : (linesL A n).length = n := by unfold linesL; rw [List.length_map, List.length_range]
theorem linesL_succ (A : List Int) (n : Nat) : linesL A (n + 1) = linesL A n ++ [lineD A n] := by unfold linesL; rw [List.range_succ, List.map_append]; rfl
theorem linesL_at {A : List Int} {n i : Nat} (hi : i < n) : (linesL A n)[i]? = some (lineD A i) := by unfold linesL; rw [List.getElem?_map, List.getElem?_range hi]; rfl
theorem end_get {A : List Int} {i : Nat} (he : isE A i = true) (hi : i < A.length) : endN A (cntE A i) = i + 1 ∧ cntE A i < nB A := by
 have h := ends_get he hi
 have h2 : cntE A (i + 1) ≤ nB A := cntE_mono A (show i + 1 ≤ A.length by omega)
 rw [cntE_succ, if_pos he] at h2
 refine ⟨?_, by omega⟩
 unfold endN
 rw [List.getD_eq_getElem?_getD, h]; simp
theorem seam0 {A : List Int} {i : Nat} : seam A i = 0 ↔ ¬ (1 ≤ i ∧ A.getD (i - 1) 0 = 13 ∧ A.getD i 0 = 10) := by
 unfold seam
 split
 ·rename_i h; exact ⟨fun h' => by omega, fun h' => absurd h h'⟩
 ·rename_i h; exact ⟨fun _ => h, fun _ => rfl⟩
theorem notE {A : List Int} {i : Nat} (h : ¬ isE A i = true) : cntE A (i + 1) = cntE A i := by rw [cntE_succ, if_neg h]; rfl
theorem c_refAll {s : Sl} {A : List Int} (ha : Lst .i64 h s A) (hl : A.length ≤ 1000000000) : Gives P (F_ref6_All S s) [.one .sl, .one (.int .i64)] h fun (y : Sl × Int × Unit) h' => LnL h.size h' y.1 (linesL A (nB A + 1)) ∧ y.2.1 = nLines A := by
 unfold F_ref6_All Gives
 have hla := ha.len
 have hnB : nB A ≤ A.length := cntE_le _ _
 refine wp_while (fun (r : Sl × Int × Int × Unit) h' => ∃ i : Nat, i ≤ A.length ∧ r.2.2.1 = (i : Int) ∧ seam A i = 0 ∧ r.2.1 = (startN A (cntE A i) : Int) ∧ Ext h h' ∧ LnL h.size h' r.1 (linesL A (cntE A i))) (fun r _ => (A.length - r.2.2.1).toNat)
  (fun tag vs h' => tag = 2 ∧ ∃ o : Sl, vs = [slv o, i64v (startN A (nB A))] ∧ Ext h h' ∧ LnL h.size h' o (linesL A (nB A))) ⟨0, Nat.zero_le _, rfl, rfl, rfl, Ext.refl _, Own.nil _ _ _⟩ ?_ ?_
 ·rintro ⟨(o : Sl), (f : Int), (i' : Int), u⟩ h1 ⟨i, hi, hi', hsm, hf, e1, o1⟩
  dsimp only at hi' hf o1 ⊢
  subst hi'; subst hf
  have hcn := cntE_le A i
  have hs1 := e1.size
  have a1 := ha.ext e1
  refine wp_ifB (fun hc => ?_) fun hc => ?_
  ·rw [ltI_iff, natI_def, hla] at hc
   have hiA : i < A.length := by omega
   have hadd : addI .i64 (i : Int) 1 = ((i + 1 : Nat) : Int) := by rw [add_ok (by omega) (by omega)]; rfl
   have hadd2 : addI .i64 (i : Int) 2 = ((i + 2 : Nat) : Int) := by rw [add_ok (by omega) (by omega)]; rfl
   rw [hadd, hadd2]
   have hsm' := seam0.1 hsm
   refine wp_bind (fun tag vs h' => tag = 0 ∧ ∃ (o' : Sl) (j : Nat), vs = [slv o', i64v (startN A (cntE A (j + 1))), i64v j] ∧ i ≤ j ∧ j < A.length ∧ seam A (j + 1) = 0 ∧ Ext h h' ∧ LnL h.size h' o' (linesL A (cntE A (j + 1)))) ?_ ?_
   ·refine s_at a1 (by omega) (by omega) fun _ => ?_
    rw [Int.toNat_natCast]
    refine wp_ifB (fun hd => ?_) fun hd => ?_
    ·rw [eqI_iff] at hd
     have hE : isE A i = true := isE_is.2 (.inl hd)
     obtain ⟨g1, g2⟩ := end_get hE hiA
     have hcs : cntE A (i + 1) = cntE A i + 1 := by rw [cntE_succ, if_pos hE]
     have hln : lineD A (cntE A i) = ((startN A (cntE A i) : Int), (i : Int), ((i + 1 : Nat) : Int), 1, ()) := by
      have hb : brkN A (i + 1) = 1 := by
       unfold brkN
       rw [show i + 1 - 1 = i by omega, if_neg (by omega), if_neg fun h => hsm' ⟨by omega, by rw [show i - 1 = i + 1 - 2 by omega]; exact h.2, hd⟩]
      unfold lineD
      rw [if_pos g2, g1, hb, if_neg (by decide), show i + 1 - 1 = i by omega]; rfl
     refine s_push4 ((startN A (cntE A i) : Int), (i : Int), ((i + 1 : Nat) : Int), 1, ()) o1 hs1 (by rw [linesL_len]; omega) fun o' h2 k2 o2 => s_ret ⟨rfl, o', i, ?_, Nat.le_refl _, hiA, seam0.2 fun h => by rw [show i + 1 - 1 = i by omega] at h; omega, Keep.trans e1 k2, ?_⟩
     ·rw [hcs, start_succ, g1]
     ·rw [hcs, linesL_succ, hln]; exact o2
    rw [eqI_not] at hd
    refine bind_bool (A.getD i 0 = 13 ∧ A.getD (i + 1) 0 = 10) ?_ fun bb h2 e2 hb2 => wp_ifB (fun hx => ?_) fun hx => ?_
    ·refine s_at a1 (by omega) (by omega) fun _ => ?_
     rw [Int.toNat_natCast]
     refine wp_ifB (fun hx => wp_ifB (fun hy => ?_) fun hy => s_ret ⟨rfl, Ext.refl _, false, rfl, Iff.intro (fun h => by cases h) fun h => ?_⟩) fun hx => s_ret ⟨rfl, Ext.refl _, false, rfl, Iff.intro (fun h => by cases h) fun h => ?_⟩
     ·rw [eqI_iff] at hx
      rw [ltI_iff, natI_def, hla] at hy
      refine s_at a1 (by omega) (by omega) fun _ => s_ret ⟨rfl, Ext.refl _, _, rfl, ?_⟩
      rw [eqI_iff, Int.toNat_natCast]; exact ⟨fun h => ⟨hx, h⟩, fun h => h.2⟩
     ·rw [ltI_not, natI_def, hla] at hy
      have h0 : A.getD (i + 1) 0 = 0 := getD_end (by omega)
      have := h.2; omega
     ·rw [eqI_not] at hx; exact absurd h.1 hx
    ·have hx := hb2.1 hx
     have hi1 : i + 1 < A.length := by
      by_cases hh : i + 1 < A.length
      ·exact hh
      ·have h0 : A.getD (i + 1) 0 = 0 := getD_end (by omega)
       have := hx.2; omega
     have hnE : ¬ isE A i = true := fun h => by rcases isE_is.1 h with h | h; exact hd h; exact h.2 hx.2
     have hE : isE A (i + 1) = true := isE_is.2 (.inl hx.2)
     obtain ⟨g1, g2⟩ := end_get hE hi1
     rw [notE hnE] at g1 g2
     have hcs : cntE A (i + 1 + 1) = cntE A i + 1 := by rw [cntE_succ, if_pos hE, notE hnE]
     have hln : lineD A (cntE A i) = ((startN A (cntE A i) : Int), (i : Int), ((i + 2 : Nat) : Int), 2, ()) := by
      have hb : brkN A (i + 1 + 1) = 2 := by
       unfold brkN
       rw [show i + 1 + 1 - 1 = i + 1 by omega, if_neg (by omega), if_pos ⟨by omega, by rw [show i + 1 + 1 - 2 = i by omega]; exact hx.1⟩]
      unfold lineD
      rw [if_pos g2, g1, hb, if_pos rfl, show i + 1 + 1 - 2 = i by omega]; rfl
     have hs2 := (e1.trans e2).size
     refine s_push4 ((startN A (cntE A i) : Int), (i : Int), ((i + 2 : Nat) : Int), 2, ()) (o1.ext e2) hs2 (by rw [linesL_len]; omega) fun o' h3 k3 o3 => s_ret ⟨rfl, o', i + 1, ?_, by omega, hi1, seam0.2 fun h => by rw [show i + 1 + 1 - 1 = i + 1 by omega] at h; omega, Keep.trans (e1.trans e2) k3, ?_⟩
     ·rw [hcs, start_succ, g1]
     ·rw [hcs, linesL_succ, hln]; exact o3
    have hx : ¬ (A.getD i 0 = 13 ∧ A.getD (i + 1) 0 = 10) := fun h => by have hx : bb = false := hx; rw [hb2.2 h] at hx; cases hx
    refine s_at (a1.ext e2) (by omega) (by omega) fun _ => ?_
    rw [Int.toNat_natCast]
    have hs2 := (e1.trans e2).size
    refine wp_ifB (fun hy => ?_) fun hy => ?_
    ·rw [eqI_iff] at hy
     have hE : isE A i = true := isE_is.2 (.inr ⟨hy, fun h => hx ⟨hy, h⟩⟩)
     obtain ⟨g1, g2⟩ := end_get hE hiA
     have hcs : cntE A (i + 1) = cntE A i + 1 := by rw [cntE_succ, if_pos hE]
     have hln : lineD A (cntE A i) = ((startN A (cntE A i) : Int), (i : Int), ((i + 1 : Nat) : Int), 3, ()) := by
      have hb : brkN A (i + 1) = 3 := by
       unfold brkN
       rw [show i + 1 - 1 = i by omega, if_pos hy]
      unfold lineD
      rw [if_pos g2, g1, hb, if_neg (by decide), show i + 1 - 1 = i by omega]; rfl
     refine s_push4 ((startN A (cntE A i) : Int), (i : Int), ((i + 1 : Nat) : Int), 3, ()) (o1.ext e2) hs2 (by rw [linesL_len]; omega) fun o' h3 k3 o3 => s_ret ⟨rfl, o', i, ?_, Nat.le_refl _, hiA, seam0.2 fun h => by rw [show i + 1 - 1 = i by omega] at h; exact hx ⟨hy, h.2.2⟩, Keep.trans (e1.trans e2) k3, ?_⟩
     ·rw [hcs, start_succ, g1]
     ·rw [hcs, linesL_succ, hln]; exact o3
    ·rw [eqI_not] at hy
     have hnE : ¬ isE A i = true := fun h => by rcases isE_is.1 h with h | h; exact hd h; exact hy h.1
     refine s_ret ⟨rfl, o, i, by rw [notE hnE], Nat.le_refl _, hiA, seam0.2 fun h => by rw [show i + 1 - 1 = i by omega] at h; exact hy h.2.1, e1.trans e2, by rw [notE hnE]; exact o1.ext e2⟩
   ·rintro tag vs h2 ⟨rfl, o', j, rfl, hij, hj, hs, e2, o2⟩
    refine s_tag (wp_cast (tys := [.one .sl, .one (.int .i64), .one (.int .i64)]) (o', (startN A (cntE A (j + 1)) : Int), (j : Int), ()) rfl ?_)
    rw [add_ok (by dsimp only; omega) (by dsimp only; omega)]
    exact s_ret ⟨fun _ => ⟨(o', (startN A (cntE A (j + 1)) : Int), (j : Int) + 1, ()), rfl, ⟨j + 1, by omega, by dsimp only; omega, hs, rfl, e2, o2⟩, by dsimp only; omega⟩, fun hh => absurd rfl hh⟩
  ·rw [ltI_not, natI_def, hla] at hc
   have : i = A.length := by omega
   subst this
   exact s_ret ⟨fun hh => absurd hh (by decide), fun _ => ⟨rfl, o, rfl, e1, o1⟩⟩
 ·rintro tag vs h1 ⟨rfl, o, rfl, e1, o1⟩
  have hs1 := e1.size
  refine s_tag (wp_cast (tys := [.one .sl, .one (.int .i64)]) (o, (startN A (nB A) : Int), ()) rfl ?_)
  have hln : lineD A (nB A) = ((startN A (nB A) : Int), natI s.len, natI s.len, 0, ()) := by unfold lineD; rw [if_neg (by omega), natI_def, hla]
  dsimp only
  refine s_push4 ((startN A (nB A) : Int), natI s.len, natI s.len, 0, ()) o1 hs1 (by rw [linesL_len]; omega) fun o' h2 k2 o2 => ?_
  rw [← hln, ← linesL_succ] at o2
  have l1 := o1.len; have l2 := o2.len
  rw [linesL_len] at l1 l2
  have e2 : Ext h h2 := Keep.trans e1 k2
  refine bind_val (tys := [.one (.int .i64)]) (fun (x : Int × Unit) _ => x.1 = nLines A) ?_ fun ⟨(z : Int), _⟩ h3 e3 hz => s_ret ⟨rfl, e2.trans e3, (o', z, ()), rfl, o2.ext e3, hz⟩
  refine bind_bool (A.length = 0 ∨ startN A (nB A) < A.length) ?_ fun bb h3 e3 hb3 => wp_ifB (fun hx => s_ret ⟨rfl, e3, (_, ()), rfl, ?_⟩) fun hx => s_ret ⟨rfl, e3, (_, ()), rfl, ?_⟩
  ·refine wp_ifB (fun hx => s_ret ⟨rfl, Ext.refl _, true, rfl, Iff.intro (fun _ => .inl (by rw [eqI_iff, natI_def, hla] at hx; omega)) fun _ => rfl⟩) fun hx => s_ret ⟨rfl, Ext.refl _, _, rfl, ?_⟩
   rw [eqI_not, natI_def, hla] at hx
   rw [ltI_iff, natI_def, hla]
   exact ⟨fun h => .inr (by omega), fun h => by rcases h with h | h; omega; omega⟩
  ·unfold nLines
   rw [if_pos (hb3.1 hx)]
   show natI o'.len = _
   rw [natI_def, l2]
  ·have hx : ¬ (A.length = 0 ∨ startN A (nB A) < A.length) := fun h => by have hx : bb = false := hx; rw [hb3.2 h] at hx; cases hx
   unfold nLines
   rw [if_neg hx]
   show natI o.len = _
   rw [natI_def, l1]
variable {s : Sl} {A : List Int}
theorem c_refCount (ha : Lst .i64 h s A) (hl : A.length ≤ 1000000000) : Gives P (F_ref6_Count S s) [.one (.int .i64)] h fun (y : Int × Unit) _ => y.1 = nLines A := by
 unfold F_ref6_Count Gives
 exact wp_call (c_refAll ha hl) fun ⟨(o : Sl), (n : Int), _⟩ h1 e1 ⟨_, hn⟩ => s_ret ⟨rfl, e1, (n, ()), rfl, hn⟩
theorem c_refAt {line : Int} (ha : Lst .i64 h s A) (hl : A.length ≤ 1000000000) : Gives P (F_ref6_At S s line) [t4, .one (.int .i64)] h fun (y : LnD × Int × Unit) _ => AtR A line y := by
 unfold F_ref6_At Gives
 refine s_new4 z4 fun h1 e1 o1 => wp_call (c_refAll (ha.ext e1) hl) fun ⟨(o : Sl), (n : Int), _⟩ h2 e2 ⟨ho, hn⟩ => ?_
 have ho : LnL h1.size h2 o (linesL A (nB A + 1)) := ho
 have lo := ho.len
 rw [linesL_len] at lo
 refine bind_bool (¬ (0 ≤ line ∧ line ≤ nB A)) ?_ fun bb h3 e3 hb3 => wp_ifB (fun hx => ?_) fun hx => ?_
 ·refine wp_ifB (fun hx => s_ret ⟨rfl, Ext.refl _, true, rfl, Iff.intro (fun _ => by rw [ltI_iff] at hx; omega) fun _ => rfl⟩) fun hx => s_ret ⟨rfl, Ext.refl _, _, rfl, ?_⟩
  rw [ltI_not] at hx
  rw [geI_iff, natI_def]
  dsimp only
  omega
 ·have hx := hb3.1 hx
  exact s_put4 z4 (o1.ext (e2.trans e3)) (e1.trans (e2.trans e3)) (Nat.le_refl _) fun h' o' e' => s_ret ⟨rfl, e', (z4, 2, ()), rfl, fun h => absurd h hx, fun _ => ⟨rfl, rfl⟩⟩
 ·have hin : 0 ≤ line ∧ line ≤ nB A := Classical.byContradiction fun h => by have hx : bb = false := hx; rw [hb3.2 h] at hx; cases hx
  obtain ⟨k, rfl⟩ : ∃ k : Nat, line = k := ⟨line.toNat, by omega⟩
  refine s_ld4 (ho.ext e3) (linesL_at (by omega)) (s_put4 (lineD A k) (o1.ext (e2.trans e3)) (e1.trans (e2.trans e3)) (Nat.le_refl _) fun h' o' e' => s_ret ⟨rfl, e', (lineD A k, 0, ()), rfl, fun _ => ⟨rfl, rfl⟩, fun h => absurd hin h⟩)
theorem c_refNative {fb : Int} (ha : Lst .i64 h s A) (hl : A.length ≤ 1000000000) : Gives P (F_ref6_Native S s fb) [.one (.int .i64)] h fun (y : Int × Unit) _ => y.1 = nativeF A fb := by
 unfold F_ref6_Native Gives
 refine wp_call (c_refAll ha hl) fun ⟨(o : Sl), (n : Int), _⟩ h1 e1 ⟨ho, hn⟩ => ?_
 have ho : LnL h.size h1 o (linesL A (nB A + 1)) := ho
 have ld : ∀ {K : Int → Prog}, wp P (K (lineD A 0).2.2.2.1) h1 (fun t vs h' => t = 0 ∧ Ext h h' ∧ ∃ y : Int × Unit, vs = Ts.inj [.one (.int .i64)] y ∧ y.1 = nativeF A fb) → wp P (grd (andB (someB o.base) (inB 0 o.len)) <| grd (someB (shiftTo o.base 0)) <| .load (.one (.int .i64)) (shiftTo (shiftTo o.base 0) 3) K) h1 (fun t vs h' => t = 0 ∧ Ext h h' ∧ ∃ y : Int × Unit, vs = Ts.inj [.one (.int .i64)] y ∧ y.1 = nativeF A fb) := fun hk =>
  s_fld4 (i := 0) (j := 3) ho (linesL_at (A := A) (n := nB A + 1) (i := 0) (by omega)) rfl hk
 refine ld (wp_ifB (fun hx => ld (s_ret ⟨rfl, e1, (_, ()), rfl, ?_⟩)) fun hx => s_ret ⟨rfl, e1, (_, ()), rfl, ?_⟩)
 ·rw [neI_iff] at hx; unfold nativeF; rw [if_pos hx]
 ·rw [neI_not] at hx; unfold nativeF; rw [if_neg fun h => h hx]
theorem c_refKinds (ha : Lst .i64 h s A) (hl : A.length ≤ 1000000000) : Gives P (F_ref6_Kinds S s) [t4] h fun (y : LnD × Unit) _ => y.1 = kindsD A (nLines A) := by
 unfold F_ref6_Kinds Gives
 have hN := nLines_le A
 have hnB : nB A ≤ A.length := cntE_le _ _
 refine s_new4 z4 fun h1 e1 o1 => s_new4 z4 fun h2 e2 o2 => wp_call (c_refAll (ha.ext (e1.trans e2)) hl) fun ⟨(o : Sl), (n : Int), _⟩ h3 e3 ⟨ho, hn⟩ => ?_
 have ho : LnL h2.size h3 o (linesL A (nB A + 1)) := ho
 have hn : n = nLines A := hn
 subst hn
 have q1 := e1.size; have q2 := e2.size; have q3 := e3.size
 have l1 : h.size < h1.size := (o1.lt rfl).2
 have l2 : h1.size < h2.size := (o2.lt rfl).2
 have o13 : Own4 h.size h3 ⟨h.size, 0, none⟩ z4 := (o1.ext e2).ext e3
 have o23 : Own4 h1.size h3 ⟨h1.size, 0, none⟩ z4 := o2.ext e3
 have e03 := (e1.trans e2).trans e3
 dsimp only
 refine wp_while (fun (r : Int × Unit) h' => ∃ i : Nat, i ≤ nLines A ∧ r.1 = (i : Int) ∧ Chg (fun i => i = h1.size) h3 h' ∧ Own4 h1.size h' ⟨h1.size, 0, none⟩ (kindsD A i)) (fun r _ => (nLines A - r.1).toNat)
  (fun tag vs h' => tag = 2 ∧ vs = [] ∧ Chg (fun i => i = h1.size) h3 h' ∧ Own4 h1.size h' ⟨h1.size, 0, none⟩ (kindsD A (nLines A))) ⟨0, Nat.zero_le _, rfl, Chg.refl _ _, o23⟩ ?_ ?_
 ·rintro ⟨(r : Int), u⟩ h4 ⟨i, hi, hr, c4', o4⟩
  dsimp only at hr ⊢
  subst hr
  refine wp_ifB (fun hc => ?_) fun hc => s_ret ⟨fun hh => absurd hh (by decide), fun _ => ⟨rfl, rfl, c4', ?_⟩⟩
  ·rw [ltI_iff] at hc
   obtain ⟨q, hq, hbq⟩ := brk_lt A i
   obtain ⟨g1, g2⟩ := kinds_succ hbq hq
   have hcl := cntK_le A q i
   have ho4 : LnL h2.size h4 o (linesL A (nB A + 1)) := c4'.own ho fun x hx f => by have := (ho.lt hx).1; omega
   refine s_fld4 (j := 3) (z := (q : Int)) ho4 (linesL_at (A := A) (n := nB A + 1) (i := i) (by omega)) (by rw [← hbq]; rfl) (wp_grd (inB_ok (by omega) (by omega)) ?_)
   rw [mulN_def, toN_def, Int.toNat_natCast, Nat.mul_one]
   refine s_cell (b := .int .i64) (cntK A q i : Int) rfl o4.cells g1 (wp_grd (inB_ok (by omega) (by omega)) ?_)
   rw [add_ok (by omega) (by omega)]
   refine s_setC' (i64v ((cntK A q i : Int) + 1)) o4 (by show q < 4; omega) rfl fun h7 o7 u7 => ?_
   rw [add_ok (by omega) (by omega)]
   exact s_ret ⟨fun _ => ⟨((i : Int) + 1, ()), rfl, ⟨i + 1, by omega, by dsimp only; omega, c4'.upd u7 fun x hx _ => by cases hx; rfl, by rw [g2] at o7; exact o7⟩, by dsimp only; omega⟩, fun hh => absurd rfl hh⟩
  ·rw [ltI_not] at hc
   rw [show nLines A = i by omega]; exact o4
 ·rintro tag vs h4 ⟨rfl, rfl, c4', o4⟩
  have o14 : Own4 h.size h4 ⟨h.size, 0, none⟩ z4 := c4'.own o13 fun x hx f => by cases hx; dsimp only at f; omega
  have q4 := c4'.1
  refine s_tag (s_cast0 (s_getO (bs := b4) o4 (s_put4 (kindsD A (nLines A)) o14 (Keep.trans e03 (c4'.keep (by omega) fun i hi f => by omega)) (Nat.le_refl _) fun h' o' e' => s_ret ⟨rfl, e', (_, ()), rfl, rfl⟩)))
theorem c_refOf {at_ : Int} (ha : Lst .i64 h s A) (hl : A.length ≤ 1000000000) : Gives P (F_ref6_Of S s at_) [.one (.int .i64)] h fun (y : Int × Unit) _ => y.1 = cntE A (min (max at_ 0) A.length).toNat := by
 unfold F_ref6_Of Gives
 have hnB : nB A ≤ A.length := cntE_le _ _
 refine wp_call (c_refAll ha hl) fun ⟨(o : Sl), (n : Int), _⟩ h1 e1 ⟨ho, hn⟩ => ?_
 have ho : LnL h.size h1 o (linesL A (nB A + 1)) := ho
 have lo := ho.len
 rw [linesL_len] at lo
 dsimp only
 refine wp_while (fun (r : Int × Unit) h' => ∃ i : Nat, i ≤ nB A + 1 ∧ r.1 = (i : Int) ∧ h' = h1 ∧ (∀ j, j < i → j < nB A → (endN A j : Int) ≤ at_) ∧ (i = nB A + 1 → (A.length : Int) ≤ at_)) (fun r _ => (nB A + 1 - r.1).toNat)
  (fun tag vs h' => h' = h1 ∧ ((tag = 2 ∧ vs = [] ∧ nB A = cntE A (min (max at_ 0) A.length).toNat) ∨ (tag = 1 ∧ vs = [i64v (cntE A (min (max at_ 0) A.length).toNat)]))) ⟨0, Nat.zero_le _, rfl, rfl, fun j hj => by omega, fun h => by omega⟩ ?_ ?_
 ·rintro ⟨(r : Int), u⟩ h2 ⟨i, hi, hr, rfl, hall, hlast⟩
  dsimp only at hr ⊢
  subst hr
  refine wp_ifB (fun hc => ?_) fun hc => ?_
  ·rw [ltI_iff, natI_def, lo] at hc
   have hiB : i ≤ nB A := by omega
   have hnx : (lineD A i).2.2.1 = if i < nB A then (endN A i : Int) else (A.length : Int) := by unfold lineD; split <;> rfl
   refine s_fld4 (j := 2) (z := (lineD A i).2.2.1) ho (linesL_at (A := A) (n := nB A + 1) (i := i) (by omega)) rfl (wp_ifB (fun hd => s_ret ⟨fun hh => absurd hh (by decide), fun _ => ⟨rfl, .inr ⟨rfl, ?_⟩⟩⟩) fun hd => ?_)
   ·rw [ltI_iff, hnx] at hd
    have key : cntE A (min (max at_ 0) A.length).toNat = i := by
     obtain ⟨s1, s2⟩ := start_at hiB
     have hst : (startN A i : Int) ≤ max at_ 0 := by
      by_cases h0 : i = 0
      ·subst h0; show (0 : Int) ≤ _; omega
      ·have := hall (i - 1) (by omega) (by omega)
       rw [show startN A i = endN A (i - 1) from if_neg h0]; omega
     have h1 := cntE_mono A (show startN A i ≤ (min (max at_ 0) A.length).toNat by omega)
     by_cases hlt : i < nB A
     ·rw [if_pos hlt] at hd
      obtain ⟨_, g1, g2, g3, g4⟩ := end_at hlt
      have h2 := cntE_mono A (show (min (max at_ 0) A.length).toNat ≤ endN A i - 1 by omega)
      omega
     ·have h2 := cntE_mono A (show (min (max at_ 0) A.length).toNat ≤ A.length by omega)
      have : cntE A A.length = nB A := rfl
      omega
    rw [key]
   ·rw [ltI_not, hnx] at hd
    rw [add_ok (by omega) (by omega)]
    refine s_ret ⟨fun _ => ⟨((i : Int) + 1, ()), rfl, ⟨i + 1, by omega, by dsimp only; omega, rfl, fun j hj hjB => ?_, fun h => ?_⟩, by dsimp only; omega⟩, fun hh => absurd rfl hh⟩
    ·by_cases hji : j = i
     ·subst hji; rw [if_pos hjB] at hd; exact hd
     ·exact hall j (by omega) hjB
    ·rw [if_neg (by omega)] at hd; exact hd
  ·rw [ltI_not, natI_def, lo] at hc
   have := hlast (by omega)
   refine s_ret ⟨fun hh => absurd hh (by decide), fun _ => ⟨rfl, .inl ⟨rfl, rfl, ?_⟩⟩⟩
   rw [show (min (max at_ 0) A.length).toNat = A.length by omega]; rfl
 ·rintro tag vs h2 ⟨rfl, ⟨rfl, rfl, hB⟩ | ⟨rfl, rfl⟩⟩
  ·refine s_tag (s_cast0 ?_)
   rw [natI_def, lo, sub_ok (by omega) (by omega)]
   refine s_ret ⟨rfl, e1, (_, ()), rfl, ?_⟩
   show ((nB A + 1 : Nat) : Int) - 1 = _
   rw [← hB]; omega
  ·exact s_tagNo rfl (s_tag (s_castI (s_ret ⟨rfl, e1, (_, ()), rfl, rfl⟩)))
end Go.Sw.Piece

set_option linter.unusedVariables false
set_option linter.unusedSimpArgs false
set_option maxRecDepth 100000
namespace Go.Sw.Piece
open Go.Sw.Any Go.Sw.Codec
open Go.Sw.Tree (iv s_putAll s_newP s_getP s_getT s_putP eqI_self Placed cell_own wp_whileG minI_eq)
variable {P : Program} {S : Ids} {h : Heap} {Q : Nat → List Value → Heap → Prop} {s : Sl} {A : List Int}
theorem c_refAhead {a : Nat} {o : Sl} {out : List Int} (ha : Lst .i64 h s A) (hl : A.length ≤ 1000000000) (hal : a ≤ A.length) (ho : Lst .i64 h o out) (hol : out.length ≤ 2147483648) : Gives P (F_ref6_ahead S s (a : Int) o) [.one (.int .i64)] h fun (y : Int × Unit) _ => y.1 = bfr A a out := by
 unfold F_ref6_ahead Gives bfr
 have la := ha.len; have lo := ho.len
 refine wp_ifB (fun hc => ?_) fun hc => ?_
 ·rw [gtI_iff, natI_def, lo] at hc
  rw [if_neg (by omega)]
  have hsub : subI .i64 (natI o.len) 1 = ((out.length - 1 : Nat) : Int) := by rw [natI_def, lo, sub_ok (by omega) (by omega)]; omega
  rw [hsub]
  refine s_at ho (by omega) (by omega) fun _ => s_ret ⟨rfl, Ext.refl _, (_, ()), rfl, ?_⟩
  rfl
 ·rw [gtI_not, natI_def, lo] at hc
  rw [if_pos (show out.length = 0 by omega)]
  refine wp_ifB (fun hd => ?_) fun hd => s_ret ⟨rfl, Ext.refl _, (_, ()), rfl, ?_⟩
  ·rw [gtI_iff] at hd
   have hsub : subI .i64 (a : Int) 1 = ((a - 1 : Nat) : Int) := by rw [sub_ok (by omega) (by omega)]; omega
   rw [hsub]
   refine s_at ha (by omega) (by omega) fun _ => s_ret ⟨rfl, Ext.refl _, (_, ()), rfl, ?_⟩
   rw [if_neg (by omega)]; rfl
  ·rw [gtI_not] at hd
   rw [if_pos (by omega)]
theorem c_refTyped {at_ nat_ : Int} {t : Sl} {l : List Int} (ha : Lst .i64 h s A) (hl : A.length ≤ 1000000000) (ht : Lst .i64 h t l) (hL : l.length ≤ 1073741824) :
  Gives P (F_ref6_Typed S s at_ t nat_) [.one .sl, .one (.int .i64)] h fun (y : Sl × Int × Unit) h' => OwnL h.size .i64 h' y.1 (typedF A at_ nat_ l).1 ∧ y.2.1 = (typedF A at_ nat_ l).2 := by
 unfold F_ref6_Typed Gives
 have la := ha.len; have ll := ht.len
 unfold typedF
 refine bind_bool (¬ (1 ≤ nat_ ∧ nat_ ≤ 3)) ?_ fun bb h1 e1 hb1 => wp_ifB (fun hc => ?_) fun hc => ?_
 ·refine wp_ifB (fun hc => s_ret ⟨rfl, Ext.refl _, true, rfl, Iff.intro (fun _ => by rw [ltI_iff] at hc; omega) fun _ => rfl⟩) fun hc => s_ret ⟨rfl, Ext.refl _, _, rfl, ?_⟩
  rw [ltI_not] at hc
  rw [gtI_iff]; omega
 ·rw [if_pos (hb1.1 hc)]
  exact s_ret ⟨rfl, e1, (⟨none, 0, 0⟩, 1, ()), rfl, OwnL.nil _ _ _, rfl⟩
 have hn : 1 ≤ nat_ ∧ nat_ ≤ 3 := Classical.byContradiction fun h => by have hc : bb = false := hc; rw [hb1.2 h] at hc; cases hc
 rw [if_neg fun h => h hn]
 refine bind_bool (¬ (0 ≤ at_ ∧ at_ ≤ A.length)) ?_ fun b2 h2 e2 hb2 => wp_ifB (fun hc => ?_) fun hc => ?_
 ·refine wp_ifB (fun hc => s_ret ⟨rfl, Ext.refl _, true, rfl, Iff.intro (fun _ => by rw [ltI_iff] at hc; omega) fun _ => rfl⟩) fun hc => s_ret ⟨rfl, Ext.refl _, _, rfl, ?_⟩
  rw [ltI_not] at hc
  rw [gtI_iff, natI_def, la]; omega
 ·rw [if_pos (hb2.1 hc)]
  exact s_ret ⟨rfl, e1.trans e2, (⟨none, 0, 0⟩, 2, ()), rfl, OwnL.nil _ _ _, rfl⟩
 have hin : 0 ≤ at_ ∧ at_ ≤ A.length := Classical.byContradiction fun h => by have hc : b2 = false := hc; rw [hb2.2 h] at hc; cases hc
 rw [if_neg fun h => h hin]
 obtain ⟨a, rfl⟩ : ∃ a : Nat, at_ = a := ⟨at_.toNat, by omega⟩
 rw [Int.toNat_natCast]
 have e12 := e1.trans e2
 have q2 := e12.size
 refine wp_while (fun (r : Sl × Int × Unit) h' => ∃ i : Nat, i ≤ l.length ∧ r.2.1 = (i : Int) ∧ Ext h2 h' ∧ OwnL h2.size .i64 h' r.1 (tyF A a nat_ l i)) (fun r _ => (l.length - r.2.1).toNat)
  (fun tag vs h' => tag = 2 ∧ ∃ r : Sl, vs = [slv r] ∧ Ext h2 h' ∧ OwnL h2.size .i64 h' r (tyF A a nat_ l l.length)) ⟨0, Nat.zero_le _, rfl, Ext.refl _, OwnL.nil _ _ _⟩ ?_ ?_
 ·rintro ⟨(r : Sl), (i' : Int), u⟩ h3 ⟨i, hi, hi', e3, o3⟩
  dsimp only at hi' o3 ⊢
  subst hi'
  have ht3 := ht.ext (e12.trans e3)
  have ha3 := ha.ext (e12.trans e3)
  have q3 := e3.size
  have fl := tyF_len A a nat_ l i
  refine wp_ifB (fun hc => ?_) fun hc => ?_
  ·rw [ltI_iff, natI_def, ll] at hc
   have hstep : tyF A a nat_ l (i + 1) = tyF A a nat_ l i ++ tyP A a nat_ (decide (i + 1 = l.length)) (bfr A a (tyF A a nat_ l i)) (l.getD i 0) := rfl
   have pl := tyP_len A a nat_ (decide (i + 1 = l.length)) (bfr A a (tyF A a nat_ l i)) (l.getD i 0)
   refine wp_bind (fun tag vs h' => tag = 0 ∧ ∃ r' : Sl, vs = [slv r'] ∧ Ext h2 h' ∧ OwnL h2.size .i64 h' r' (tyF A a nat_ l (i + 1))) ?_ ?_
   ·refine s_at ht3 (by omega) (by omega) fun hfx => ?_
    rw [Int.toNat_natCast] at hfx ⊢
    have app : ∀ {h7 : Heap} {r : Sl} {u : List Int} {x : Int} {K : Sl → Prog} {R : Nat → List Value → Heap → Prop}, Ext h2 h7 → OwnL h2.size .i64 h7 r u → fitsI .i64 x → u.length ≤ 2147483649 → (∀ r' h8, Ext h2 h8 → OwnL h2.size .i64 h8 r' (u ++ [x]) → wp P (K r') h8 R) → wp P (.alloc [i64v x] fun a1 => .append 1 8 [i64v 0] r ⟨some a1, 1, 1⟩ K) h7 R := fun {h7 r u x K R} e7 ou hx hu hk => by
     refine s_allocL (k := .i64) [x] (by intro z hz; rw [List.mem_singleton.1 hz]; exact hx) (by simp) fun h8 e8 o8 => ?_
     have e78 := e7.trans e8
     refine s_append (ou.ext e8) (by have := e7.size; have := e8.size; omega) o8.lst (by simp only [List.length_singleton]; omega) (by simp only [List.length_singleton]; omega) fun r' h9 k9 o9 _ _ => hk r' h9 (Keep.trans e78 k9) o9
    refine wp_ifB (fun hd => ?_) fun hd => ?_
    ·rw [neI_iff] at hd
     refine s_at ht3 (by omega) (by omega) fun hfx => ?_
     rw [Int.toNat_natCast] at hfx ⊢
     refine app e3 o3 hfx (by omega) fun r' h4 e4 o4 => s_ret ⟨rfl, r', rfl, e4, ?_⟩
     rw [hstep]; unfold tyP; rw [if_pos hd]; exact o4
    rw [neI_not] at hd
    have hP : tyP A a nat_ (decide (i + 1 = l.length)) (bfr A a (tyF A a nat_ l i)) (l.getD i 0) = if meltF A a nat_ (decide (i + 1 = l.length)) (bfr A a (tyF A a nat_ l i)) = true then [13, 10] else endL nat_ := by unfold tyP; rw [if_neg fun h => h hd]
    refine wp_call (c_refAhead ha3 hl (by omega) o3.lst (by omega)) fun ⟨(b : Int), _⟩ h4 e4 hb => ?_
    have hb : b = bfr A a (tyF A a nat_ l i) := hb
    rw [← hb] at hP hstep
    refine bind_bool (nat_ = 1 ∧ b = 13) ?_ fun b5 h5 e5 hb5 => ?_
    ·refine wp_ifB (fun hx => s_ret ⟨rfl, Ext.refl _, _, rfl, ?_⟩) fun hx => s_ret ⟨rfl, Ext.refl _, false, rfl, Iff.intro (fun h => by cases h) fun h => ?_⟩
     ·rw [eqI_iff] at hx; rw [eqI_iff]; exact ⟨fun h => ⟨hx, h⟩, fun h => h.2⟩
     ·rw [eqI_not] at hx; exact absurd h.1 hx
    have e05 := (e12.trans e3).trans (e4.trans e5)
    have ha5 := ha.ext e05
    have hsub : subI .i64 (natI t.len) 1 = (l.length : Int) - 1 := by rw [natI_def, ll, sub_ok (by omega) (by omega)]
    rw [hsub]
    refine bind_bool (meltF A a nat_ (decide (i + 1 = l.length)) b = true) ?_ fun b6 h6 e6 hb6 => ?_
    ·refine bind_bool (nat_ = 3 ∧ i + 1 = l.length ∧ A.getD a 0 = 10) ?_ fun b6 h6 e6 hb6 => ?_
     ·refine wp_ifB (fun hy => wp_ifB (fun hz => wp_ifB (fun hw => ?_) fun hw => s_ret ⟨rfl, Ext.refl _, false, rfl, Iff.intro (fun h => by cases h) fun h => ?_⟩) fun hz => s_ret ⟨rfl, Ext.refl _, false, rfl, Iff.intro (fun h => by cases h) fun h => ?_⟩) fun hy => s_ret ⟨rfl, Ext.refl _, false, rfl, Iff.intro (fun h => by cases h) fun h => ?_⟩
      ·rw [eqI_iff] at hy hz
       rw [ltI_iff, natI_def, la] at hw
       refine s_at ha5 (by omega) (by omega) fun _ => s_ret ⟨rfl, Ext.refl _, _, rfl, ?_⟩
       rw [eqI_iff, Int.toNat_natCast]; exact ⟨fun h => ⟨hy, by omega, h⟩, fun h => h.2.2⟩
      ·rw [ltI_not, natI_def, la] at hw
       have h0 : A.getD a 0 = 0 := getD_end (by omega)
       have := h.2.2; omega
      ·rw [eqI_not] at hz; omega
      ·rw [eqI_not] at hy; exact absurd h.1 hy
     ·have key : meltF A a nat_ (decide (i + 1 = l.length)) b = true ↔ (nat_ = 3 ∧ i + 1 = l.length ∧ A.getD a 0 = 10) ∨ (nat_ = 1 ∧ b = 13) := by
       unfold meltF
       rw [Bool.or_eq_true, decide_eq_true_iff, decide_eq_true_iff, decide_eq_true_iff]
       exact Or.comm
      refine wp_ifB (fun hx => s_ret ⟨rfl, e6, true, rfl, ?_⟩) fun hx => s_ret ⟨rfl, e6, b5, rfl, ?_⟩
      ·exact Iff.intro (fun _ => key.2 (.inl (hb6.1 hx))) fun _ => rfl
      ·rw [key]
       exact Iff.intro (fun h => .inr (hb5.1 h)) fun h => h.elim (fun h => by have hx : b6 = false := hx; rw [hb6.2 h] at hx; cases hx) hb5.2
    have e36 := (e3.trans e4).trans (e5.trans e6)
    have o36 := o3.ext ((e4.trans e5).trans e6)
    generalize hU : tyF A a nat_ l i = U at *
    have parts : tyF A a nat_ l (i + 1) = (U ++ if nat_ = 2 ∨ nat_ = 3 ∨ meltF A a nat_ (decide (i + 1 = l.length)) b = true then [13] else []) ++ if nat_ = 2 ∨ nat_ = 1 ∨ meltF A a nat_ (decide (i + 1 = l.length)) b = true then [10] else [] := by
     rw [hstep, hP]
     by_cases hm : meltF A a nat_ (decide (i + 1 = l.length)) b = true
     ·rw [if_pos hm, if_pos (.inr (.inr hm)), if_pos (.inr (.inr hm)), List.append_assoc]; rfl
     ·rw [if_neg hm]
      unfold endL
      by_cases h1 : nat_ = 1
      ·rw [if_pos h1, if_neg fun h => by rcases h with h | h | h; omega; omega; exact hm h, if_pos (.inr (.inl h1)), List.append_nil]
      ·rw [if_neg h1]
       by_cases h2 : nat_ = 2
       ·rw [if_pos h2, if_pos (.inl h2), if_pos (.inl h2), List.append_assoc]; rfl
       ·rw [if_neg h2, if_pos (.inr (.inl (by omega))), if_neg fun h => by rcases h with h | h | h; omega; omega; exact hm h, List.append_nil]
    rw [parts]
    have m3 : b6 = false → ¬ (meltF A a nat_ (decide (i + 1 = l.length)) b = true) := fun h h' => by rw [hb6.2 h'] at h; cases h
    refine wp_bind (fun tag vs h' => tag = 0 ∧ ∃ r' : Sl, vs = [slv r'] ∧ Ext h2 h' ∧ OwnL h2.size .i64 h' r' (U ++ if nat_ = 2 ∨ nat_ = 3 ∨ meltF A a nat_ (decide (i + 1 = l.length)) b = true then [13] else [])) ?_ ?_
    ·refine bind_bool (nat_ = 2 ∨ nat_ = 3 ∨ meltF A a nat_ (decide (i + 1 = l.length)) b = true) ?_ fun b7 h7 e7 hb7 => wp_ifB (fun hx => ?_) fun hx => ?_
     ·refine wp_ifB (fun hx => s_ret ⟨rfl, Ext.refl _, true, rfl, Iff.intro (fun _ => .inl (eqI_iff.1 hx)) fun _ => rfl⟩) fun hx => wp_ifB (fun hy => s_ret ⟨rfl, Ext.refl _, true, rfl, Iff.intro (fun _ => .inr (.inl (eqI_iff.1 hy))) fun _ => rfl⟩) fun hy => s_ret ⟨rfl, Ext.refl _, b6, rfl, ?_⟩
      rw [eqI_not] at hx hy
      rw [hb6]
      exact Iff.intro (fun h => .inr (.inr h)) fun h => by rcases h with h | h | h; exact absurd h hx; exact absurd h hy; exact h
     ·rw [if_pos (hb7.1 hx)]
      exact app (e36.trans e7) (o36.ext e7) (fits_1310 (by simp)) (by omega) fun r' h8 e8 o8 => s_ret ⟨rfl, r', rfl, e8, o8⟩
     ·rw [if_neg (fun h => by have hx : b7 = false := hx; rw [hb7.2 h] at hx; cases hx), List.append_nil]
      exact s_ret ⟨rfl, r, rfl, e36.trans e7, o36.ext e7⟩
    ·rintro tag vs h7 ⟨rfl, r2, rfl, e7, o7⟩
     refine s_tag (wp_cast (tys := [.one .sl]) (r2, ()) rfl ?_)
     have hlen : (U ++ if nat_ = 2 ∨ nat_ = 3 ∨ meltF A a nat_ (decide (i + 1 = l.length)) b = true then [13] else []).length ≤ 2147483649 := by
      rw [List.length_append]; split
      ·simp only [List.length_singleton]; omega
      ·simp only [List.length_nil]; omega
     generalize (U ++ if nat_ = 2 ∨ nat_ = 3 ∨ meltF A a nat_ (decide (i + 1 = l.length)) b = true then [13] else []) = V at o7 hlen ⊢
     refine bind_bool (nat_ = 2 ∨ nat_ = 1 ∨ meltF A a nat_ (decide (i + 1 = l.length)) b = true) ?_ fun b8 h8 e8 hb8 => wp_ifB (fun hx => ?_) fun hx => ?_
     ·refine wp_ifB (fun hx => s_ret ⟨rfl, Ext.refl _, true, rfl, Iff.intro (fun _ => .inl (eqI_iff.1 hx)) fun _ => rfl⟩) fun hx => wp_ifB (fun hy => s_ret ⟨rfl, Ext.refl _, true, rfl, Iff.intro (fun _ => .inr (.inl (eqI_iff.1 hy))) fun _ => rfl⟩) fun hy => s_ret ⟨rfl, Ext.refl _, b6, rfl, ?_⟩
      rw [eqI_not] at hx hy
      rw [hb6]
      exact Iff.intro (fun h => .inr (.inr h)) fun h => by rcases h with h | h | h; exact absurd h hx; exact absurd h hy; exact h
     ·rw [if_pos (hb8.1 hx)]
      exact app (e7.trans e8) (o7.ext e8) (fits_1310 (by simp)) hlen fun r' h9 e9 o9 => s_ret ⟨rfl, r', rfl, e9, o9⟩
     ·rw [if_neg (fun h => by have hx : b8 = false := hx; rw [hb8.2 h] at hx; cases hx), List.append_nil]
      exact s_ret ⟨rfl, r2, rfl, e7.trans e8, o7.ext e8⟩
   ·rintro tag vs h4 ⟨rfl, r', rfl, e4, o4⟩
    refine s_tag (wp_cast (tys := [.one .sl]) (r', ()) rfl ?_)
    rw [add_ok (by omega) (by omega)]
    exact s_ret ⟨fun _ => ⟨(r', (i : Int) + 1, ()), rfl, ⟨i + 1, by omega, by dsimp only; omega, e4, o4⟩, by dsimp only; omega⟩, fun hh => absurd rfl hh⟩
  ·rw [ltI_not, natI_def, ll] at hc
   have : i = l.length := by omega
   subst this
   exact s_ret ⟨fun hh => absurd hh (by decide), fun _ => ⟨rfl, r, rfl, e3, o3⟩⟩
 ·rintro tag vs h6 ⟨rfl, r, rfl, e6, o6⟩
  exact s_tag (wp_cast (tys := [.one .sl]) (r, ()) rfl (s_ret ⟨rfl, e12.trans e6, (r, 0, ()), rfl, o6.mono q2, rfl⟩))
theorem c_refWhole {first last : Int} (ha : Lst .i64 h s A) (hl : A.length ≤ 1000000000) : Gives P (F_ref6_Whole S s first last) [.one (.int .i64), .one (.int .i64), .one (.int .i64)] h fun (y : Int × Int × Int × Unit) _ => y = ((wholeF A first last).1.1, (wholeF A first last).1.2.1, (wholeF A first last).2, ()) := by
 unfold F_ref6_Whole Gives
 have hN := nLines_le A
 have hnB : nB A ≤ A.length := cntE_le _ _
 refine wp_call (c_refAll ha hl) fun ⟨(o : Sl), (n : Int), _⟩ h1 e1 ⟨ho, hn⟩ => ?_
 have ho : LnL h.size h1 o (linesL A (nB A + 1)) := ho
 have hn : n = nLines A := hn
 subst hn
 unfold wholeF
 refine bind_bool (first < 0 ∨ last < first ∨ (nLines A : Int) ≤ last) ?_ fun bb h2 e2 hb2 => wp_ifB (fun hc => ?_) fun hc => ?_
 ·refine wp_ifB (fun hc => s_ret ⟨rfl, Ext.refl _, true, rfl, Iff.intro (fun _ => .inl (ltI_iff.1 hc)) fun _ => rfl⟩) fun hc => wp_ifB (fun hd => s_ret ⟨rfl, Ext.refl _, true, rfl, Iff.intro (fun _ => .inr (.inl (ltI_iff.1 hd))) fun _ => rfl⟩) fun hd => s_ret ⟨rfl, Ext.refl _, _, rfl, ?_⟩
  rw [ltI_not] at hc hd
  rw [geI_iff]
  dsimp only
  exact ⟨fun h => .inr (.inr h), fun h => by rcases h with h | h | h; omega; omega; exact h⟩
 ·rw [if_pos (hb2.1 hc)]
  exact s_ret ⟨rfl, e1.trans e2, (0, 0, 2, ()), rfl, rfl⟩
 have hc : ¬ (first < 0 ∨ last < first ∨ (nLines A : Int) ≤ last) := fun h => by have hc : bb = false := hc; rw [hb2.2 h] at hc; cases hc
 rw [if_neg hc]
 obtain ⟨x, rfl⟩ : ∃ x : Nat, first = x := ⟨first.toNat, by omega⟩
 obtain ⟨y, rfl⟩ : ∃ y : Nat, last = y := ⟨last.toNat, by omega⟩
 have ho2 := ho.ext e2
 have hx : (linesL A (nB A + 1))[x]? = some (lineD A x) := linesL_at (by omega)
 have hy : (linesL A (nB A + 1))[y]? = some (lineD A y) := linesL_at (by omega)
 have hx1 : (linesL A (nB A + 1))[x - 1]? = some (lineD A (x - 1)) := linesL_at (by omega)
 rw [Int.toNat_natCast, Int.toNat_natCast, show ((x : Int) - 1).toNat = x - 1 by omega]
 refine bind_bool ((lineD A y).2.2.2.1 = 0 ∧ 0 < (x : Int) ∧ (lineD A (x - 1)).1 < (lineD A (x - 1)).2.1) ?_ fun b3 h3 e3 hb3 => wp_ifB (fun hd => ?_) fun hd => ?_
 ·refine s_fld4 (j := 3) ho2 hy rfl (wp_ifB (fun hd => wp_ifB (fun he => ?_) fun he => s_ret ⟨rfl, Ext.refl _, false, rfl, Iff.intro (fun h => by cases h) fun h => ?_⟩) fun hd => s_ret ⟨rfl, Ext.refl _, false, rfl, Iff.intro (fun h => by cases h) fun h => ?_⟩)
  ·rw [eqI_iff] at hd
   rw [gtI_iff] at he
   have hsub : subI .i64 (x : Int) 1 = ((x - 1 : Nat) : Int) := by rw [sub_ok (by omega) (by omega)]; omega
   rw [hsub]
   refine s_fld4 (j := 0) ho2 hx1 rfl (s_fld4 (j := 1) ho2 hx1 rfl (s_ret ⟨rfl, Ext.refl _, _, rfl, ?_⟩))
   rw [ltI_iff]
   exact ⟨fun h => ⟨hd, he, h⟩, fun h => h.2.2⟩
  ·rw [gtI_not] at he; have := h.2.1; omega
  ·rw [eqI_not] at hd; exact absurd h.1 hd
 ·have hd' := hb3.1 hd
  rw [if_pos hd']
  have hsub : subI .i64 (x : Int) 1 = ((x - 1 : Nat) : Int) := by rw [sub_ok (by omega) (by omega)]; omega
  rw [hsub]
  exact s_fld4 (j := 1) (ho2.ext e3) hx1 rfl (s_fld4 (j := 2) (ho2.ext e3) hy rfl (s_ret ⟨rfl, (e1.trans e2).trans e3, (_, _, _, ()), rfl, rfl⟩))
 ·rw [if_neg fun h => by have hd : b3 = false := hd; rw [hb3.2 h] at hd; cases hd]
  exact s_fld4 (j := 0) (ho2.ext e3) hx rfl (s_fld4 (j := 2) (ho2.ext e3) hy rfl (s_ret ⟨rfl, (e1.trans e2).trans e3, (_, _, _, ()), rfl, rfl⟩))
end Go.Sw.Piece
