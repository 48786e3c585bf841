/-
  A text in memory.
-/
import Derived.Test.YtjhnjehmbgaciaaSwG1
import Derived.Test.YtjhnjehmbgaciaaSwU4
import Derived.Test.YtjhnjehmbgaciaaSwCC
set_option linter.unusedVariables false
set_option linter.unusedSimpArgs false
set_option maxRecDepth 100000
namespace Go.Sw.Piece
open Go.Sw.Any Go.Sw.Codec
open Go.Sw.Tree (iv s_putAll s_newP s_getP s_getT s_putP eqI_self Placed cell_own cell_upd1 wp_whileG minI_eq)
variable {P : Program} {S : Ids} {h : Heap} {Q : Nat → List Value → Heap → Prop}

abbrev i64v (x : Int) : Value := .int .i64 x
abbrev slv (s : Sl) : Value := .slice s.base s.len s.cap

/-! ### What a text shows -/
/-- The atoms of a piece with their tags: the first has the tag (if any), the others follow. -/
def elsF (tag : Int) : Nat → List (Int × Int) → List (Int × Int)
  | _, [] => []
  | o, t :: ts => (t.1, if tag < 0 then -1 else tag + o) :: elsF tag (o + t.2.toNat) ts
theorem elsF_len (tag : Int) : ∀ (ts : List (Int × Int)) (o : Nat), (elsF tag o ts).length = ts.length
  | [], _ => rfl
  | t :: ts, o => by simp only [elsF, List.length_cons, elsF_len tag ts]
theorem elsF_take (tag : Int) : ∀ (ts : List (Int × Int)) (o n : Nat), (elsF tag o ts).take n = elsF tag o (ts.take n)
  | [], o, n => by simp [elsF]
  | t :: ts, o, 0 => by simp [elsF]
  | t :: ts, o, n + 1 => by simp only [elsF, List.take_succ_cons, elsF_take tag ts]
theorem elsF_drop (tag : Int) : ∀ (ts : List (Int × Int)) (o n : Nat), (elsF tag o ts).drop n = elsF tag (o + offs (ts.take n)) (ts.drop n)
  | [], o, n => by simp [elsF]
  | t :: ts, o, 0 => by simp [offs]
  | t :: ts, o, n + 1 => by simp only [elsF, List.drop_succ_cons, List.take_succ_cons, elsF_drop tag ts, offs_cons, Nat.add_assoc]
theorem elsF_tag {tag : Int} (k : Nat) : ∀ (ts : List (Int × Int)) (o : Nat), elsF (tagF tag k) o ts = elsF tag (o + k) ts
  | [], o => rfl
  | t :: ts, o => by
    simp only [elsF, elsF_tag k ts]
    rw [show o + t.2.toNat + k = o + k + t.2.toNat by omega]
    congr 1
    unfold tagF
    by_cases h : 0 ≤ tag
    · rw [if_pos h, if_neg (by omega), if_neg (by omega)]; congr 1; omega
    · rw [if_neg h, if_pos (by omega), if_pos (by omega)]

/-- A piece: the program's part, its bytes. -/
abbrev Pc := Part × List Int
def elsP (enc : Int) (q : Pc) : List (Int × Int) := elsF q.1.2.1 0 (toks enc q.2)
def els (enc : Int) (ps : List Pc) : List (Int × Int) := ps.flatMap (elsP enc)
def toksL (enc : Int) (ps : List Pc) : List (Int × Int) := ps.flatMap fun q => toks enc q.2
def bytesL (ps : List Pc) : List Int := ps.flatMap fun q => q.2
theorem els_len (enc : Int) (ps : List Pc) : (els enc ps).length = (toksL enc ps).length := by
  induction ps with
  | nil => rfl
  | cons q ps ih =>
    unfold els toksL at ih ⊢
    rw [List.flatMap_cons, List.flatMap_cons, List.length_append, List.length_append, ih]; unfold elsP; rw [elsF_len]

/-! ### In memory -/
structure St where
  root : Option Addr
  t : Bt Part
  ps : List Pc
structure TX where
  p : Addr
  enc : Int
  limit : Int
  cur : St
  kept : List St
  ad : Sl
  A : List Int
  Z : Nat → Prop

/-- A piece of a text. -/
structure PcR (h : Heap) (T : TX) (q : Pc) : Prop where
  lst : Lst .u8 h q.1.1 q.2
  ne : 0 < q.2.length
  is : q.1 = mkP q.1.1 q.1.2.1 (toks T.enc q.2)
  tag : -1 ≤ q.1.2.1 ∧ q.1.2.1 + q.2.length ≤ 65536
  len : q.2.length ≤ 65536
  blk : ∀ a, q.1.1.base = some a → T.Z a.block ∧ a.block ≠ T.p.block ∧ ∀ b, T.ad.base = some b → a.block = b.block → a.spot = none ∧ a.off + q.2.length ≤ T.A.length
structure StR (S : Ids) (h : Heap) (T : TX) (s : St) : Prop where
  nd : Nd (part S T.Z) h s.root s.t
  ls : s.t.list = s.ps.map (·.1)
  pcs : ∀ q, q ∈ s.ps → PcR h T q
  small : (bytesL s.ps).length ≤ 1099511627776
/-- A text. -/
structure TextR (S : Ids) (n : Nat) (h : Heap) (T : TX) : Prop where
  enc : known T.enc
  lim : 0 ≤ T.limit ∧ T.limit ≤ 65536
  ob : Own n 1 h ⟨some T.p, 4, 4⟩ [i64v T.enc, i64v T.limit, .pointer T.cur.root, slv T.ad]
  ad : OwnL n .u8 h T.ad T.A
  adp : ∀ b, T.ad.base = some b → b.block ≠ T.p.block
  adk : ∀ b, T.ad.base = some b → 0 < T.A.length
  cur : StR S h T T.cur
  kept : ∀ s, s ∈ T.kept → StR S h T s
  zp : T.Z T.p.block
  za : ∀ b, T.ad.base = some b → T.Z b.block
  lo : ∀ i, T.Z i → n ≤ i ∧ i < h.size

theorem PcR.chg {F : Nat → Prop} {h' : Heap} {T : TX} {q : Pc} (r : PcR h T q) (c : Chg F h h') (hF : ∀ i, T.Z i → ¬ F i) : PcR h' T q :=
  ⟨c.lst r.lst fun a ha => hF _ (r.blk a ha).1, r.ne, r.is, r.tag, r.len, r.blk⟩
theorem StR.chg {F : Nat → Prop} {h' : Heap} {T : TX} {s : St} (r : StR S h T s) (c : Chg F h h') (hF : ∀ i, T.Z i → ¬ F i) : StR S h' T s :=
  ⟨r.nd.chg c fun i _ hz => hF i hz, r.ls, fun q hq => (r.pcs q hq).chg c hF, r.small⟩
/-- What does not touch a text's blocks leaves it as it is. -/
theorem TextR.chg {F : Nat → Prop} {n : Nat} {h' : Heap} {T : TX} (r : TextR S n h T) (c : Chg F h h') (hF : ∀ i, T.Z i → ¬ F i) : TextR S n h' T where
  enc := r.enc
  lim := r.lim
  ob := c.own r.ob fun x hx => by cases hx; exact hF _ r.zp
  ad := c.ownL r.ad fun x hx => hF _ (r.za x hx)
  adp := r.adp
  adk := r.adk
  cur := r.cur.chg c hF
  kept := fun s hs => (r.kept s hs).chg c hF
  zp := r.zp
  za := r.za
  lo := fun i hi => ⟨(r.lo i hi).1, Nat.lt_of_lt_of_le (r.lo i hi).2 c.1⟩
theorem TextR.ext {n : Nat} {h' : Heap} {T : TX} (r : TextR S n h T) (e : Ext h h') : TextR S n h' T := r.chg (Chg.of_ext (F := fun _ => False) e) fun _ _ x => x
theorem TextR.c0 {n : Nat} {T : TX} (r : TextR S n h T) : Sw.cell h (T.p.add 0) = some (i64v T.enc) := cells_iff.1 r.ob.cells 0 _ rfl
theorem TextR.c1 {n : Nat} {T : TX} (r : TextR S n h T) : Sw.cell h (T.p.add 1) = some (i64v T.limit) := cells_iff.1 r.ob.cells 1 _ rfl
theorem TextR.c2 {n : Nat} {T : TX} (r : TextR S n h T) : Sw.cell h (T.p.add 2) = some (.pointer T.cur.root) := cells_iff.1 r.ob.cells 2 _ rfl
theorem TextR.c3 {n : Nat} {T : TX} (r : TextR S n h T) : Sw.cell h (T.p.add 3) = some (slv T.ad) := cells_iff.1 r.ob.cells 3 _ rfl

/-! ### The sums of a state -/
theorem PcR.bytes {T : TX} {q : Pc} (r : PcR h T q) : isBytes q.2 := r.lst.wf
theorem PcR.sum {T : TX} {q : Pc} (r : PcR h T q) : sumP q.1 = sumT (toks T.enc q.2) := by rw [r.is]; rfl
theorem PcR.wt {T : TX} {q : Pc} (r : PcR h T q) : wtP q.1 = (toks T.enc q.2).length ∧ VS (wtP q.1) (sumP q.1) := by
  have h1 := sumT_is (okT_toks (enc := T.enc) r.bytes)
  have h2 := (toks_len (enc := T.enc) r.bytes).2.1 r.ne
  have h3 : q.1.2.2.1 = (sumT (toks T.enc q.2)).1 := congrArg Prod.fst r.sum
  have h4 : wtP q.1 = (toks T.enc q.2).length := by unfold wtP; rw [h3, h1.1]; omega
  exact ⟨h4, by rw [h4, r.sum]; exact VS.sumT (okT_toks r.bytes)⟩
theorem StR.wf {T : TX} {s : St} (r : StR S h T s) : (part S T.Z).wf s.t.list := by
  intro x hx
  rw [r.ls] at hx
  obtain ⟨q, hq, rfl⟩ := List.mem_map.1 hx
  exact (r.pcs q hq).wt.2
theorem okT_toksL {enc : Int} {ps : List Pc} (hb : ∀ q, q ∈ ps → isBytes q.2) : okT (toksL enc ps) := by
  intro t ht
  obtain ⟨q, hq, ht⟩ := List.mem_flatMap.1 ht
  exact okT_toks (hb q hq) t ht
/-- What parts add up to. -/
def sumPs (l : List Part) : Sums := l.foldl (fun s r => addS s (sumP r)) zS
theorem sum_ps {T : TX} : ∀ {ps : List Pc}, (∀ q, q ∈ ps → PcR h T q) → sumPs (ps.map (·.1)) = sumT (toksL T.enc ps) := by
  intro ps
  have gen : ∀ (qs pre : List Pc), (∀ q, q ∈ pre ++ qs → PcR h T q) → (qs.map (·.1)).foldl (fun s r => addS s (sumP r)) (sumT (toksL T.enc pre)) = sumT (toksL T.enc (pre ++ qs)) := by
    intro qs
    induction qs with
    | nil => intro pre hq; simp
    | cons q qs ih =>
      intro pre hq
      have h1 := hq q (by simp)
      have hb : ∀ q, q ∈ pre → isBytes q.2 := fun q hq' => (hq q (by simp [hq'])).bytes
      have e : addS (sumT (toksL T.enc pre)) (sumP q.1) = sumT (toksL T.enc (pre ++ [q])) := by
        have : toksL T.enc (pre ++ [q]) = toksL T.enc pre ++ toks T.enc q.2 := by simp [toksL]
        rw [this, sumT_append (okT_toksL hb) (okT_toks h1.bytes), h1.sum]
      rw [List.map_cons, List.foldl_cons, e, ih (pre ++ [q]) (by simpa using hq)]
      simp
  intro hq
  exact gen ps [] (by simpa using hq)
theorem W_ps {T : TX} : ∀ {ps : List Pc}, (∀ q, q ∈ ps → PcR h T q) → ((ps.map (·.1)).map wtP).sum = (toksL T.enc ps).length := by
  intro ps
  induction ps with
  | nil => intro _; rfl
  | cons q ps ih =>
    intro hq
    rw [List.map_cons, List.map_cons, List.sum_cons, ih (fun x hx => hq x (List.mem_cons_of_mem _ hx)), (hq q (List.mem_cons_self ..)).wt.1]
    simp [toksL]
theorem toksL_le {enc : Int} : ∀ {ps : List Pc}, (∀ q, q ∈ ps → isBytes q.2) → (toksL enc ps).length ≤ (bytesL ps).length ∧ offs (toksL enc ps) = (bytesL ps).length := by
  intro ps
  induction ps with
  | nil => intro _; exact ⟨Nat.le_refl _, rfl⟩
  | cons q ps ih =>
    intro hq
    have h1 := toks_len (enc := enc) (hq q (List.mem_cons_self ..))
    have h2 := toks_offs (enc := enc) (hq q (List.mem_cons_self ..))
    have h3 := ih fun x hx => hq x (List.mem_cons_of_mem _ hx)
    unfold toksL bytesL at h3 ⊢
    rw [List.flatMap_cons, List.flatMap_cons, List.length_append, List.length_append, offs_append]
    omega
theorem StR.bytes {T : TX} {s : St} (r : StR S h T s) : ∀ q, q ∈ s.ps → isBytes q.2 := fun q hq => (r.pcs q hq).bytes
theorem StR.W {T : TX} {s : St} (r : StR S h T s) : (part S T.Z).W s.t.list = (toksL T.enc s.ps).length := by
  show (List.map wtP s.t.list).sum = _
  rw [r.ls, W_ps r.pcs]
theorem StR.sum {T : TX} {s : St} (r : StR S h T s) : (part S T.Z).sum s.t.list = sumT (toksL T.enc s.ps) := by
  show sumPs s.t.list = _
  rw [r.ls, sum_ps r.pcs]
theorem StR.few {T : TX} {s : St} (r : StR S h T s) (hl : T.limit ≤ 65536) : (toksL T.enc s.ps).length ≤ 1099511627776 ∧ (part S T.Z).W s.t.list ≤ 1099511627776 := by
  have h1 := r.small
  have h2 := (toksL_le (enc := T.enc) r.bytes).1
  rw [r.W]; omega

theorem StR.room {T : TX} {s : St} (r : StR S h T s) (hl : T.limit ≤ 65536) : (part S T.Z).W s.t.list < 4398046511104 := Nat.lt_of_le_of_lt (r.few hl).2 (by decide)

/-! ### Len, Size, Enc -/
abbrev TR := Option Addr × Unit
theorem s_root {n : Nat} {T : TX} {K : TR → Prog} (r : TextR S n h T) (hk : wp P (K (T.cur.root, ())) h Q) : wp P (grd (someB (some T.p)) <| grd (someB (some T.p)) <| .load (.agg [.ptr]) (shiftTo (some T.p) 2) K) h Q :=
  wp_grd rfl (wp_grd rfl ⟨T.p.add 2, rfl, (T.cur.root, ()), cells_iff.2 fun j v hj => by
    match j, hj with
    | 0, hj => simp [Ty.cells, Bs.inj] at hj; subst hj; rw [add_zero']; exact r.c2
    | j + 1, hj => simp [Ty.cells, Bs.inj] at hj, hk⟩)
theorem s_enc {n : Nat} {T : TX} {K : Int → Prog} (r : TextR S n h T) (hk : wp P (K T.enc) h Q) : wp P (grd (someB (some T.p)) <| grd (someB (some T.p)) <| .load (.one (.int .i64)) (shiftTo (some T.p) 0) K) h Q :=
  wp_grd rfl (wp_grd rfl (wp_load1 (b := .int .i64) _ T.enc rfl r.c0 hk))

theorem c_TSum {n : Nat} {T : TX} (r : TextR S n h T) : Gives P (F_Tree_part_Sum S (T.cur.root, ())) [.agg SB] h fun (x : Sums × Unit) _ => x.1 = sumT (toksL T.enc T.cur.ps) := by
  have hf := r.cur.few r.lim.2
  have := c_Sum (part_ok S T.Z (P := P)) r.cur.nd r.cur.wf (Nat.le_of_lt (r.cur.room r.lim.2))
  exact Gives.mono this fun x h' e hx => hx.trans r.cur.sum
theorem c_Len {n : Nat} {T : TX} (r : TextR S n h T) : Gives P (F_Text_Len S (some T.p)) [.one (.int .i64)] h fun (x : Int × Unit) _ => x.1 = (els T.enc T.cur.ps).length := by
  unfold F_Text_Len Gives
  refine s_root r (wp_call (c_TSum r) fun x h1 e1 hx => s_ret ⟨rfl, e1, (_, ()), rfl, ?_⟩)
  have hx : x.1 = _ := hx
  show x.1.1 = _
  rw [hx, (sumT_is (okT_toksL r.cur.bytes)).1, els_len]
theorem c_Size {n : Nat} {T : TX} (r : TextR S n h T) : Gives P (F_Text_Size S (some T.p)) [.one (.int .i64)] h fun (x : Int × Unit) _ => x.1 = (bytesL T.cur.ps).length := by
  unfold F_Text_Size Gives
  refine s_root r (wp_call (c_TSum r) fun x h1 e1 hx => s_ret ⟨rfl, e1, (_, ()), rfl, ?_⟩)
  have hx : x.1 = _ := hx
  show x.1.2.1 = _
  rw [hx, (sumT_is (okT_toksL r.cur.bytes)).2, (toksL_le r.cur.bytes).2]

/-! ### find -/
/-- Where an offset lies: ahead of it i whole pieces and n atoms of the next (at least one, but at 0). -/
def FindR (enc : Int) (ps : List Pc) (at_ : Int) (i n : Nat) : Prop :=
  i ≤ ps.length ∧ (at_ : Int) = (toksL enc (ps.take i)).length + n ∧ (at_ = 0 → i = 0 ∧ n = 0) ∧ (0 < at_ → ∃ q, ps[i]? = some q ∧ 0 < n ∧ n ≤ (toks enc q.2).length)
theorem toksL_take_le {enc : Int} (ps : List Pc) (i : Nat) : (toksL enc (ps.take i)).length ≤ (toksL enc ps).length := by
  have : toksL enc ps = toksL enc (ps.take i) ++ toksL enc (ps.drop i) := by unfold toksL; rw [← List.flatMap_append, List.take_append_drop]
  rw [this, List.length_append]; omega
theorem toksL_succ {enc : Int} {ps : List Pc} {i : Nat} {q : Pc} (hq : ps[i]? = some q) : toksL enc (ps.take (i + 1)) = toksL enc (ps.take i) ++ toks enc q.2 := by
  rw [List.take_add_one, hq]; simp [toksL]
theorem key_ps {T : TX} {ps : List Pc} (hq : ∀ q, q ∈ ps → PcR h T q) (i : Nat) : keyS (sumPs ((ps.map (·.1)).take i)) 0 = (toksL T.enc (ps.take i)).length := by
  have h1 : (ps.map (·.1)).take i = (ps.take i).map (·.1) := List.map_take.symm
  have hq' : ∀ q, q ∈ ps.take i → PcR h T q := fun q h => hq q (List.mem_of_mem_take h)
  rw [h1, sum_ps hq']
  unfold keyS
  rw [if_pos rfl, (sumT_is (okT_toksL fun q h => (hq' q h).bytes)).1]

theorem c_find {n : Nat} {T : TX} {at_ : Int} (r : TextR S n h T) (h0 : 0 ≤ at_) (h1 : at_ ≤ (toksL T.enc T.cur.ps).length) :
    Gives P (F_Text_find S (some T.p) at_) [.one (.int .i64), .one (.int .i64)] h fun (x : Int × Int × Unit) _ => ∃ i n : Nat, x.1 = i ∧ x.2.1 = n ∧ FindR T.enc T.cur.ps at_ i n := by
  unfold F_Text_find Gives
  have hf := r.cur.few r.lim.2
  refine wp_ifB (fun hc => ?_) fun hc => ?_
  · rw [leI_iff] at hc
    have : at_ = 0 := by omega
    subst this
    exact s_ret ⟨rfl, Ext.refl _, (0, 0, ()), rfl, 0, 0, rfl, rfl, Nat.zero_le _, rfl, fun _ => ⟨rfl, rfl⟩, fun h => absurd h (by decide)⟩
  rw [leI_not] at hc
  refine s_root r ?_
  refine wp_call (R := fun (x : Int × Unit) _ => Any.Found (part S T.Z) T.cur.t.list 0 at_ x.1) (c_Find (part_ok S T.Z (P := P)) r.cur.nd r.cur.wf (r.cur.room r.lim.2)) fun ⟨(f : Int), _⟩ h2 e2 hx => ?_
  have hx : (f = 0 ∧ at_ ≤ 0) ∨ (1 ≤ f ∧ f ≤ T.cur.t.list.length ∧ at_ ≤ keyS (sumPs (T.cur.t.list.take f.toNat)) 0 ∧ keyS (sumPs (T.cur.t.list.take (f.toNat - 1))) 0 < at_) ∨ (f = T.cur.t.list.length + 1 ∧ keyS (sumPs T.cur.t.list) 0 < at_) := hx
  dsimp only
  have r2 := r.ext e2
  have hlen : T.cur.t.list.length = T.cur.ps.length := by rw [r.cur.ls, List.length_map]
  have hps : T.cur.ps.length ≤ 1099511627776 := by have h1 := W_len (part_ok S T.Z (P := P)) T.cur.t.list; have h2 := Nat.le_trans h1 hf.2; rw [← hlen]; exact h2
  rw [r.cur.ls] at hx
  simp only [key_ps r.cur.pcs] at hx
  rw [List.length_map] at hx
  have hsum : keyS (sumPs (T.cur.ps.map (·.1))) 0 = (toksL T.enc T.cur.ps).length := by
    have := key_ps r.cur.pcs T.cur.ps.length
    rwa [List.take_of_length_le (by simp), List.take_of_length_le (Nat.le_refl _)] at this
  rw [hsum] at hx
  obtain ⟨g1, g2, g3, g4⟩ : 1 ≤ f ∧ f ≤ T.cur.ps.length ∧ at_ ≤ (toksL T.enc (T.cur.ps.take f.toNat)).length ∧ ((toksL T.enc (T.cur.ps.take (f.toNat - 1))).length : Int) < at_ := by
    rcases hx with ⟨_, hx⟩ | hx | ⟨_, hx⟩
    · omega
    · exact hx
    · omega
  refine s_root r2 ?_
  rw [sub_ok (by omega) (by omega)]
  refine wp_call (R := fun (x : Sums × Unit) _ => x.1 = sumPs (T.cur.t.list.take (f - 1).toNat)) (c_Upto' (part_ok S T.Z (P := P)) r2.cur.nd r2.cur.wf (r2.cur.room r2.lim.2)) fun ⟨(s : Sums), _⟩ h3 e3 hs => ?_
  have hs : s = _ := hs
  dsimp only
  have hi : (f - 1).toNat = f.toNat - 1 := by omega
  have hs1 : s.1 = (toksL T.enc (T.cur.ps.take (f.toNat - 1))).length := by
    have := key_ps r.cur.pcs (f.toNat - 1)
    rw [hs, hi, r.cur.ls, ← this]
    rfl
  obtain ⟨q, hq⟩ : ∃ q, T.cur.ps[f.toNat - 1]? = some q := ⟨T.cur.ps[f.toNat - 1]'(by omega), List.getElem?_eq_getElem (by omega)⟩
  have hsc := toksL_succ (enc := T.enc) hq
  rw [show f.toNat - 1 + 1 = f.toNat by omega] at hsc
  rw [hsc, List.length_append] at g3
  rw [hs1, sub_ok (by omega) (by omega)]
  refine s_ret ⟨rfl, e2.trans e3, (_, _, ()), rfl, f.toNat - 1, (at_ - (toksL T.enc (T.cur.ps.take (f.toNat - 1))).length).toNat, ?_, ?_, by omega, by omega, fun h => by omega, fun _ => ⟨q, hq, by omega, by omega⟩⟩
  · show f - 1 = _; omega
  · show at_ - _ = _; omega
end Go.Sw.Piece

set_option linter.unusedVariables false
set_option linter.unusedSimpArgs false
set_option maxRecDepth 100000
namespace Go.Sw.Piece
open Go.Sw.Any Go.Sw.Codec
open Go.Sw.Tree (iv s_putAll s_newP s_getP s_getT s_putP eqI_self Placed cell_own cell_upd1 wp_whileG minI_eq)
variable {P : Program} {S : Ids} {h : Heap} {Q : Nat → List Value → Heap → Prop}

/-- A call of cut on the piece at a, its answers in two new objects: in any order. -/
def cutB (S : Ids) (t : Option Addr) (a : Addr) (m : Int) (fin : Addr → Addr → Prog) : Prog :=
  .both (.load (.agg PB) (some a) fun (r : Part) => grd (someB t) <| grd (someB t) <| .load (.one (.int .i64)) (shiftTo t 0) fun (n : Int) =>
    .call (F_part_cut S r n m) [.agg PB, .agg PB] fun (c : Part × Part × Unit) =>
    .alloc (Bs.inj PB zP) fun A => .check (shiftTo t 0) [i64v n] <| .check (some a) (Bs.inj PB r) <|
    .alloc (Bs.inj PB zP) fun B => .check (shiftTo t 0) [i64v n] <| .check (some a) (Bs.inj PB r) <|
    .store (some A) (Bs.inj PB c.1) <| .store (some B) (Bs.inj PB c.2.1) <| fin A B) <|
  .both (.load (.agg PB) (some a) fun (r : Part) => grd (someB t) <| grd (someB t) <| .load (.one (.int .i64)) (shiftTo t 0) fun (n : Int) =>
    .call (F_part_cut S r n m) [.agg PB, .agg PB] fun (c : Part × Part × Unit) =>
    .alloc (Bs.inj PB zP) fun A => .check (shiftTo t 0) [i64v n] <| .check (some a) (Bs.inj PB r) <|
    .alloc (Bs.inj PB zP) fun B => .check (shiftTo t 0) [i64v n] <| .check (some a) (Bs.inj PB r) <|
    .store (some B) (Bs.inj PB c.1) <| .store (some A) (Bs.inj PB c.2.1) <| fin B A) <|
  .both (.load (.agg PB) (some a) fun (r : Part) => grd (someB t) <| grd (someB t) <| .load (.one (.int .i64)) (shiftTo t 0) fun (n : Int) =>
    .alloc (Bs.inj PB zP) fun A => .check (shiftTo t 0) [i64v n] <| .check (some a) (Bs.inj PB r) <|
    .call (F_part_cut S r n m) [.agg PB, .agg PB] fun (c : Part × Part × Unit) =>
    .alloc (Bs.inj PB zP) fun B => .check (shiftTo t 0) [i64v n] <| .check (some a) (Bs.inj PB r) <|
    .store (some A) (Bs.inj PB c.1) <| .store (some B) (Bs.inj PB c.2.1) <| fin A B) <|
  .both (.load (.agg PB) (some a) fun (r : Part) => grd (someB t) <| grd (someB t) <| .load (.one (.int .i64)) (shiftTo t 0) fun (n : Int) =>
    .alloc (Bs.inj PB zP) fun A => .check (shiftTo t 0) [i64v n] <| .check (some a) (Bs.inj PB r) <|
    .alloc (Bs.inj PB zP) fun B => .check (shiftTo t 0) [i64v n] <| .check (some a) (Bs.inj PB r) <|
    .call (F_part_cut S r n m) [.agg PB, .agg PB] fun (c : Part × Part × Unit) =>
    .store (some A) (Bs.inj PB c.1) <| .store (some B) (Bs.inj PB c.2.1) <| fin A B) <|
  .both (.load (.agg PB) (some a) fun (r : Part) => grd (someB t) <| grd (someB t) <| .load (.one (.int .i64)) (shiftTo t 0) fun (n : Int) =>
    .alloc (Bs.inj PB zP) fun A => .check (shiftTo t 0) [i64v n] <| .check (some a) (Bs.inj PB r) <|
    .call (F_part_cut S r n m) [.agg PB, .agg PB] fun (c : Part × Part × Unit) =>
    .alloc (Bs.inj PB zP) fun B => .check (shiftTo t 0) [i64v n] <| .check (some a) (Bs.inj PB r) <|
    .store (some B) (Bs.inj PB c.1) <| .store (some A) (Bs.inj PB c.2.1) <| fin B A) <|
  (.load (.agg PB) (some a) fun (r : Part) => grd (someB t) <| grd (someB t) <| .load (.one (.int .i64)) (shiftTo t 0) fun (n : Int) =>
    .alloc (Bs.inj PB zP) fun A => .check (shiftTo t 0) [i64v n] <| .check (some a) (Bs.inj PB r) <|
    .alloc (Bs.inj PB zP) fun B => .check (shiftTo t 0) [i64v n] <| .check (some a) (Bs.inj PB r) <|
    .call (F_part_cut S r n m) [.agg PB, .agg PB] fun (c : Part × Part × Unit) =>
    .store (some B) (Bs.inj PB c.1) <| .store (some A) (Bs.inj PB c.2.1) <| fin B A)

abbrev OwnP (n : Nat) (h : Heap) (a : Addr) (x : Part) : Prop := Own n 1 h ⟨some a, 7, 7⟩ (Bs.inj PB x)

theorem c_cutB (M : Meth0 P S) {n0 n1 : Nat} {T : TX} {a : Addr} {x : Part} {bs : List Int} {m : Int} {fin : Addr → Addr → Prog} (r : TextR S n0 h T) (q : PcR h T (x, bs)) (o : OwnP n1 h a x) (h0 : 0 ≤ m) (hm : m ≤ (toks T.enc bs).length)
    (hk : ∀ h' A B, Ext h h' → OwnP h.size h' A (headP T.enc x bs m.toNat) → OwnP h.size h' B (tailP T.enc x bs m.toNat) → wp P (fin A B) h' Q) : wp P (cutB S (some T.p) a m fin) h Q := by
  have al : ∀ {h' : Heap} {K : Addr → Prog}, Ext h h' → (∀ h'', Ext h' h'' → OwnP h'.size h'' ⟨h'.size, 0, none⟩ zP → wp P (K ⟨h'.size, 0, none⟩) h'' Q) →
      wp P (.alloc (Bs.inj PB zP) fun A => .check (shiftTo (some T.p) 0) [i64v T.enc] <| .check (some a) (Bs.inj PB x) <| K A) h' Q := fun {h' K} e hk =>
    s_newO (bs := PB) zP (by decide) fun h2 e2 o2 => s_ckC (r.ext (e.trans e2)).c0 (s_ckO (bs := PB) (o.ext (e.trans e2)) (hk h2 e2 o2))
  have fs : ∀ {h' : Heap} {A B : Addr} {mA mB : Nat}, Ext h h' → h.size ≤ mA → h.size ≤ mB → A.block ≠ B.block → OwnP mA h' A zP → OwnP mB h' B zP →
      wp P (.store (some A) (Bs.inj PB (headP T.enc x bs m.toNat)) <| .store (some B) (Bs.inj PB (tailP T.enc x bs m.toNat)) <| fin A B) h' Q := fun {h' A B mA mB} e hA hB hne oA oB =>
    s_stoO (bs := PB) _ oA (flatP _) fun h1 o1 u1 => s_stoO (bs := PB) _ (ob_upd oB u1 hne) (flatP _) fun h2 o2 u2 =>
      hk h2 A B (Upd.extN (Upd.extN e u1 (by intro z hz; cases hz; have := (oA.lt rfl).1; exact Nat.le_trans hA this)) u2 (by intro z hz; cases hz; have := (oB.lt rfl).1; exact Nat.le_trans hB this)) ((ob_upd o1 u2 hne.symm).mono hA) (o2.mono hB)
  have ct : ∀ {h' : Heap} {K : Part × Part × Unit → Prog}, Ext h h' → (∀ h'', Ext h' h'' → wp P (K (headP T.enc x bs m.toNat, tailP T.enc x bs m.toNat, ())) h'' Q) → wp P (.call (F_part_cut S x T.enc m) [.agg PB, .agg PB] K) h' Q := fun {h' K} e hk =>
    wp_call (c_cut M r.enc (q.lst.ext e) (show bs.length ≤ _ from Nat.le_trans q.len (by decide)) h0 hm (by have := q.tag; dsimp only at this ⊢; omega)) fun ⟨(y1 : Part), (y2 : Part), _⟩ h2 e2 ⟨hy1, hy2⟩ => by
      have hy1 : y1 = _ := hy1
      have hy2 : y2 = _ := hy2
      subst hy1; subst hy2
      exact hk h2 e2
  have st : ∀ {K : Part → Int → Prog}, wp P (K x T.enc) h Q → wp P (.load (.agg PB) (some a) fun (r : Part) => grd (someB (some T.p)) <| grd (someB (some T.p)) <| .load (.one (.int .i64)) (shiftTo (some T.p) 0) fun (n : Int) => K r n) h Q := fun hk => s_getO (bs := PB) o (s_enc r hk)
  have E0 := Ext.refl h
  unfold cutB
  refine ⟨?_, ?_, ?_, ?_, ?_, ?_⟩
  · exact st (ct E0 fun h1 e1 => al e1 fun h2 e2 o2 => al (e1.trans e2) fun h3 e3 o3 => fs ((e1.trans e2).trans e3) (by have := e1.size; omega) (by have := e1.size; have := e2.size; omega) (by have := (o2.lt rfl).2; dsimp only at this ⊢; omega) (o2.ext e3) o3)
  · exact st (ct E0 fun h1 e1 => al e1 fun h2 e2 o2 => al (e1.trans e2) fun h3 e3 o3 => fs ((e1.trans e2).trans e3) (by have := e1.size; have := e2.size; omega) (by have := e1.size; omega) (by have := (o2.lt rfl).2; dsimp only at this ⊢; omega) o3 (o2.ext e3))
  · exact st (al E0 fun h1 e1 o1 => ct e1 fun h2 e2 => al (e1.trans e2) fun h3 e3 o3 => fs ((e1.trans e2).trans e3) (by omega) (by have := e1.size; have := e2.size; omega) (by have : h.size < h1.size := (o1.lt rfl).2; have := e2.size; show h.size ≠ h2.size; omega) (o1.ext (e2.trans e3)) o3)
  · exact st (al E0 fun h1 e1 o1 => al e1 fun h2 e2 o2 => ct (e1.trans e2) fun h3 e3 => fs ((e1.trans e2).trans e3) (by omega) (by have := e1.size; omega) (by have := (o1.lt rfl).2; dsimp only at this ⊢; omega) (o1.ext (e2.trans e3)) (o2.ext e3))
  · exact st (al E0 fun h1 e1 o1 => ct e1 fun h2 e2 => al (e1.trans e2) fun h3 e3 o3 => fs ((e1.trans e2).trans e3) (by have := e1.size; have := e2.size; omega) (by omega) (by have : h.size < h1.size := (o1.lt rfl).2; have := e2.size; show h2.size ≠ h.size; omega) o3 (o1.ext (e2.trans e3)))
  · exact st (al E0 fun h1 e1 o1 => al e1 fun h2 e2 o2 => ct (e1.trans e2) fun h3 e3 => fs ((e1.trans e2).trans e3) (by have := e1.size; omega) (by omega) (by have := (o1.lt rfl).2; dsimp only at this ⊢; omega) (o2.ext e3) (o1.ext (e2.trans e3)))

/-- What is ahead of an offset. -/
theorem find_take {enc : Int} {ps : List Pc} {at_ : Int} {i n : Nat} (f : FindR enc ps at_ i n) (h0 : 0 ≤ at_) : (ps[i]? = none ∧ n = 0 ∧ ps = [] ∧ (toksL enc ps).take at_.toNat = toksL enc (ps.take i)) ∨
    ∃ q, ps[i]? = some q ∧ n ≤ (toks enc q.2).length ∧ (toksL enc ps).take at_.toNat = toksL enc (ps.take i) ++ (toks enc q.2).take n := by
  obtain ⟨f1, f2, f3, f4⟩ := f
  have hsplit : ∀ q, ps[i]? = some q → n ≤ (toks enc q.2).length → (toksL enc ps).take at_.toNat = toksL enc (ps.take i) ++ (toks enc q.2).take n := fun q hq hn => by
    have h1 : toksL enc ps = toksL enc (ps.take i) ++ (toks enc q.2 ++ toksL enc (ps.drop (i + 1))) := by
      have h2 := toksL_succ (enc := enc) hq
      rw [← List.append_assoc, ← h2]
      unfold toksL; rw [← List.flatMap_append, List.take_append_drop]
    have h3 : at_.toNat = (toksL enc (ps.take i)).length + n := by omega
    rw [h3, h1, List.take_append, List.take_of_length_le (by omega), Nat.add_sub_cancel_left, List.take_append_of_le_length hn]
  by_cases h : 0 < at_
  · obtain ⟨q, hq, n0, n1⟩ := f4 h
    exact .inr ⟨q, hq, n1, hsplit q hq n1⟩
  · obtain ⟨rfl, rfl⟩ := f3 (by omega)
    cases ps with
    | nil => exact .inl ⟨rfl, rfl, rfl, by simp [toksL]⟩
    | cons q ps => exact .inr ⟨q, rfl, Nat.zero_le _, hsplit q rfl (Nat.zero_le _)⟩

theorem c_ahead (M : Meth0 P S) {n : Nat} {T : TX} {at_ : Int} (r : TextR S n h T) (h0 : 0 ≤ at_) (h1 : at_ ≤ (toksL T.enc T.cur.ps).length) :
    Gives P (F_Text_ahead S (some T.p) at_) [.agg SB] h fun (x : Sums × Unit) _ => x.1 = sumT ((toksL T.enc T.cur.ps).take at_.toNat) := by
  unfold F_Text_ahead Gives
  have hf := r.cur.few r.lim.2
  have O := part_ok S T.Z (P := P)
  refine s_newO (bs := SB) zS (by decide) fun ha ea oa => ?_
  have ra := r.ext ea
  refine wp_call (c_find ra h0 h1) fun ⟨(i' : Int), (m' : Int), _⟩ h2 e2 ⟨i, m, hi, hm, f⟩ => ?_
  have hi : i' = i := hi
  have hm : m' = m := hm
  subst hi; subst hm
  dsimp only
  have r2 := ra.ext e2
  have hps : T.cur.ps.length ≤ 1099511627776 := by
    have hlen : T.cur.t.list.length = T.cur.ps.length := by rw [r.cur.ls, List.length_map]
    have h1 := W_len O T.cur.t.list; have h2 := Nat.le_trans h1 hf.2; rw [← hlen]; exact h2
  have hil := f.1
  refine s_root r2 (wp_call (R := fun (x : Sums × Unit) _ => x.1 = sumPs (T.cur.t.list.take ((i : Int)).toNat)) (c_Upto' O r2.cur.nd r2.cur.wf (r2.cur.room r2.lim.2)) fun ⟨(s : Sums), _⟩ h3 e3 hs => ?_)
  have hs : s = sumT (toksL T.enc (T.cur.ps.take i)) := by
    have hs : s = _ := hs
    rw [hs, Int.toNat_natCast, r.cur.ls, ← List.map_take, sum_ps fun q hq => r.cur.pcs q (List.mem_of_mem_take hq)]
  subst hs
  dsimp only
  refine s_putO (bs := SB) (z := zS) (sumT (toksL T.enc (T.cur.ps.take i))) (by decide) (flatS _) fun h4 e4 o4 => ?_
  have r4 := (r2.ext e3).ext e4
  have hbT : ∀ q, q ∈ T.cur.ps → isBytes q.2 := r.cur.bytes
  refine wp_bind (fun t vs h' => t = 0 ∧ vs = [] ∧ Ext h3 h' ∧ Own h3.size 1 h' ⟨some ⟨h3.size, 0, none⟩, 5, 5⟩ (Bs.inj SB (sumT ((toksL T.enc T.cur.ps).take at_.toNat)))) ?_ ?_
  · rcases find_take f h0 with ⟨hq, rfl, hnil, htk⟩ | ⟨q, hq, hn, htk⟩
    · refine s_root r4 (wp_call (R := fun (y : Part × Bool × Unit) _ => y.1 = zP ∧ y.2.1 = false) (c_AtNo O r4.cur.nd (Nat.le_of_lt (r4.cur.room r4.lim.2)) (by omega) (.inr ?_)) fun ⟨(y : Part), (ok : Bool), _⟩ h5 e5 ⟨hy, hok⟩ => ?_)
      · have : T.cur.t.list = [] := by rw [r.cur.ls, hnil]; rfl
        show ((List.length T.cur.t.list : Nat) : Int) ≤ _
        rw [this]; simp
      · have hok : ok = false := hok
        subst hok
        dsimp only
        refine s_newO (bs := PB) zP (by decide) fun h6 e6 o6 => s_stoO (bs := PB) y o6 (flatP _) fun h7 o7 u7 => s_ifF (s_ret ⟨rfl, rfl, ?_, ?_⟩)
        · exact Upd.extN ((e4.trans e5).trans e6) u7 (by intro x hx; cases hx; have := e4.size; have := e5.size; dsimp only; omega)
        · rw [htk]
          exact ob_upd ((o4.ext e5).ext e6) u7 (by have : h3.size < h4.size := (o4.lt rfl).2; have := e5.size; show h5.size ≠ h3.size; omega)
    · have hx : T.cur.t.list[((i : Int)).toNat]? = some q.1 := by rw [Int.toNat_natCast, r.cur.ls, List.getElem?_map, hq]; rfl
      refine s_root r4 (wp_call (R := fun (y : Part × Bool × Unit) _ => y.1 = q.1 ∧ y.2.1 = true) (c_At O r4.cur.nd r4.cur.wf (Nat.le_of_lt (r4.cur.room r4.lim.2)) (by omega) hx) fun ⟨(y : Part), (ok : Bool), _⟩ h5 e5 ⟨hy, hok⟩ => ?_)
      have hok : ok = true := hok
      have hy : y = q.1 := hy
      subst hok; subst hy
      dsimp only
      refine s_newO (bs := PB) zP (by decide) fun h6 e6 o6 => s_stoO (bs := PB) q.1 o6 (flatP _) fun h7 o7 u7 => s_ifT ?_
      have e57 : Ext h4 h7 := Upd.extN (e5.trans e6) u7 (by intro x hx; cases hx; have := e5.size; dsimp only; omega)
      have r7 := r4.ext e57
      have hqm := List.mem_of_getElem? hq
      have pc := r7.cur.pcs q hqm
      refine wp_bind (fun t vs h' => t = 0 ∧ Ext h7 h' ∧ ∃ A : Addr, vs = [.pointer (some A)] ∧ OwnP h7.size h' A (headP T.enc q.1 q.2 m)) ?_ ?_
      · refine c_cutB M (fin := fun A B => .ret 0 [.pointer (some A)]) r7 (x := q.1) (bs := q.2) pc o7 (by omega) (by omega) fun h8 A B e8 oA oB => s_ret ⟨rfl, e8, A, rfl, ?_⟩
        rw [Int.toNat_natCast] at oA; exact oA
      · rintro t vs h8 ⟨rfl, e8, A, rfl, oA⟩
        refine s_tag (wp_cast (tys := [.one .ptr]) (some A, ()) rfl ?_)
        dsimp only
        have o48 := (o4.ext e57).ext e8
        refine s_getO (bs := SB) o48 (wp_grd rfl ?_)
        refine ⟨A.add 2, rfl, sumT ((toks T.enc q.2).take m), cells_iff.2 fun j v hj => ?_, ?_⟩
        · rw [add_add]
          refine cells_iff.1 oA.cells _ _ ?_
          match j, hj with
          | 0, hj => exact hj
          | 1, hj => exact hj
          | 2, hj => exact hj
          | 3, hj => exact hj
          | 4, hj => exact hj
          | j + 5, hj => simp [Ty.cells, Bs.inj] at hj
        · have v1 := VS.sumT (okT_toksL (enc := T.enc) (ps := T.cur.ps.take i) fun q hq => hbT q (List.mem_of_mem_take hq))
          have v2 := VS.sumT ((okT_toks (enc := T.enc) (hbT q hqm)).take m)
          have hl1 := toksL_take_le (enc := T.enc) T.cur.ps i
          have hl2 := toks_len (enc := T.enc) (hbT q hqm)
          have := pc.len
          refine wp_call (c_Add v1 v2 (by rw [List.length_take]; omega)) fun ⟨(o : Sums), _⟩ h9 e9 ho => ?_
          have ho : o = _ := ho
          subst ho
          dsimp only
          refine s_stoO (bs := SB) _ (o48.ext e9) (flatS _) fun h10 o10 u10 => s_ret ⟨rfl, rfl, Upd.extN (((e4.trans e57).trans e8).trans e9) u10 (by intro x hx; cases hx; exact Nat.le_refl _), ?_⟩
          rw [htk, sumT_append (okT_toksL fun q hq => hbT q (List.mem_of_mem_take hq)) ((okT_toks (hbT q hqm)).take m)]
          exact o10
  · rintro t vs h5 ⟨rfl, rfl, e5, o5⟩
    have e25 := (e2.trans e3).trans e5
    exact s_tag (s_cast0 (s_getO (bs := SB) o5 (s_tellO (bs := SB) _ (oa.ext e25) (Nat.le_refl _) (ea.trans e25) (flatS _) fun h' e => ⟨rfl, e, (_, ()), rfl, rfl⟩)))
end Go.Sw.Piece

set_option linter.unusedVariables false
set_option linter.unusedSimpArgs false
set_option maxRecDepth 100000
namespace Go.Sw.Piece
open Go.Sw.Any Go.Sw.Codec
open Go.Sw.Tree (iv s_putAll s_newP s_getP s_getT s_putP eqI_self Placed cell_own cell_upd1 wp_whileG minI_eq)
variable {P : Program} {S : Ids} {h : Heap} {Q : Nat → List Value → Heap → Prop}

/-- An edit: from, to, what is put. -/
abbrev EdSh : Sh := .str (.pair (.int .i64) (.pair (.int .i64) (.pair (.list (.int .i64)) .unit)))
abbrev EdD := Int × Int × (Sl × List Int) × Unit
abbrev Eds := Sl × List EdD
def putsOf (es : List EdD) : List Int := es.flatMap fun e => e.2.2.1.2

theorem s_edit {x : Eds} {e : EdD} {j : Nat} {K : Addr → Prog} (ho : (Sh.list EdSh).ok h x) (hj : x.2[j]? = some e)
    (hk : ∀ a h', Ext h h' → h.size ≤ a.block → Own h.size 1 h' ⟨some a, 3, 3⟩ [i64v e.1, i64v e.2.1, slv e.2.2.1.1] → wp P (K a) h' Q) :
    wp P (grd (andB (someB x.1.base) (inB (j : Int) x.1.len)) <| .load (.agg [.int .i64, .int .i64, .sl]) (shiftTo x.1.base (mulN (toN (j : Int)) 3)) fun (r : Int × Int × Sl × Unit) =>
      .alloc [i64v 0, i64v 0, .slice none 0 0] fun a => .store (some a) [i64v r.1, i64v r.2.1, slv r.2.2.1] (K a)) h Q := by
  refine s_atSh (e := EdSh) (x := x) ho (by omega) (by simpa using hj) rfl (z := (e.1, e.2.1, e.2.2.1.1, ())) rfl ?_
  dsimp only
  refine fun elem => ?_
  have e1 : Ext h (h.push (.cells [i64v 0, i64v 0, .slice none 0 0].toArray elem)) := Ext.push ..
  have o1 : Own h.size 1 (h.push (.cells [i64v 0, i64v 0, .slice none 0 0].toArray elem)) ⟨some ⟨h.size, 0, none⟩, 3, 3⟩ [i64v 0, i64v 0, .slice none 0 0] := own_alloc rfl (by decide) (by decide)
  generalize h.push (.cells [i64v 0, i64v 0, .slice none 0 0].toArray elem) = h1 at e1 o1 ⊢
  exact s_putV [i64v e.1, i64v e.2.1, slv e.2.2.1.1] o1 rfl (by intro v hv; simp only [List.mem_cons, List.not_mem_nil, or_false] at hv; rcases hv with rfl | rfl | rfl <;> rfl) fun h2 o2 u2 z2 =>
    hk _ h2 (Upd.extN e1 u2 (by intro x hx; cases hx; exact Nat.le_refl _)) (Nat.le_refl _) o2

/-! ### Where edits may be -/
def Plc (len : Int) : Int → List EdD → Prop
  | _, [] => True
  | at_, e :: es => at_ ≤ e.1 ∧ e.1 ≤ e.2.1 ∧ e.2.1 ≤ len ∧ Plc len e.2.1 es
def lastTo : Int → List EdD → Int
  | at_, [] => at_
  | _, e :: es => lastTo e.2.1 es
theorem Plc.append {len : Int} : ∀ {xs : List EdD} {at_ : Int} {ys : List EdD}, Plc len at_ (xs ++ ys) ↔ Plc len at_ xs ∧ Plc len (lastTo at_ xs) ys
  | [], at_, ys => by simp [Plc, lastTo]
  | x :: xs, at_, ys => by
    simp only [List.cons_append, Plc, lastTo, Plc.append (xs := xs)]
    exact ⟨fun ⟨a, b, c, d, e⟩ => ⟨⟨a, b, c, d⟩, e⟩, fun ⟨⟨a, b, c, d⟩, e⟩ => ⟨a, b, c, d, e⟩⟩
theorem lastTo_snoc : ∀ {xs : List EdD} {at_ : Int} {e : EdD}, lastTo at_ (xs ++ [e]) = e.2.1
  | [], _, _ => rfl
  | x :: xs, at_, e => lastTo_snoc (xs := xs)
theorem Plc.at {len : Int} {es : List EdD} {at_ : Int} (h : Plc len at_ es) {i : Nat} {e : EdD} (hi : es[i]? = some e) : lastTo at_ (es.take i) ≤ e.1 ∧ e.1 ≤ e.2.1 ∧ e.2.1 ≤ len := by
  have h2 : es = es.take i ++ (e :: es.drop (i + 1)) := by
    have hlt := (List.getElem?_eq_some_iff.1 hi).1
    have := (List.getElem?_eq_some_iff.1 hi).2
    rw [← this, ← List.drop_eq_getElem_cons hlt, List.take_append_drop]
  rw [h2, Plc.append] at h
  exact ⟨h.2.1, h.2.2.1, h.2.2.2.1⟩
theorem lastTo_lo {len : Int} : ∀ {es : List EdD} {at_ : Int}, Plc len at_ es → at_ ≤ lastTo at_ es
  | [], _, _ => Int.le_refl _
  | e :: es, at_, ⟨a, b, _, d⟩ => by have := lastTo_lo d; simp only [lastTo]; omega
theorem Plc.take {len : Int} {es : List EdD} {at_ : Int} (h : Plc len at_ es) (i : Nat) : Plc len at_ (es.take i) := by
  have h2 := List.take_append_drop i es
  rw [← h2, Plc.append] at h
  exact h.1

def sizeL (enc : Int) (l : List Int) : Int := (l.map (sizeF enc)).sum
theorem sizeL_append (enc : Int) (l m : List Int) : sizeL enc (l ++ m) = sizeL enc l + sizeL enc m := by simp [sizeL]
theorem sizeL_le (enc : Int) (l : List Int) : 0 ≤ sizeL enc l ∧ sizeL enc l ≤ 4 * l.length := by
  induction l with
  | nil => simp [sizeL]
  | cons a l ih =>
    have h1 := sizeF_pos enc a; have h2 := sizeF_le enc a
    have : sizeL enc (a :: l) = sizeF enc a + sizeL enc l := by simp [sizeL]
    rw [this, List.length_cons]; omega
def goneE (ts : List (Int × Int)) (es : List EdD) : Int := (es.map fun e => (offs (ts.take e.2.1.toNat) : Int) - offs (ts.take e.1.toNat)).sum
def fitsE (enc : Int) (l : List Int) : Prop := ∀ a, a ∈ l → 0 < sizeF enc a

/-- What refuse answers. -/
inductive RefR (enc limit : Int) (ts : List (Int × Int)) (es : List EdD) : Int → Prop where
  | many : 70000 < es.length → RefR enc limit ts es 3
  | place : es.length ≤ 70000 → ¬ Plc ts.length 0 es → RefR enc limit ts es 2
  | fit : es.length ≤ 70000 → Plc ts.length 0 es → ¬ fitsE enc (putsOf es) → RefR enc limit ts es 11
  | full : es.length ≤ 70000 → Plc ts.length 0 es → fitsE enc (putsOf es) → limit < offs ts + sizeL enc (putsOf es) - goneE ts es → RefR enc limit ts es 50
  | ok : es.length ≤ 70000 → Plc ts.length 0 es → fitsE enc (putsOf es) → offs ts + sizeL enc (putsOf es) - goneE ts es ≤ limit → RefR enc limit ts es 0

theorem putsOf_succ {es : List EdD} {i : Nat} {e : EdD} (hi : es[i]? = some e) : putsOf (es.take (i + 1)) = putsOf (es.take i) ++ e.2.2.1.2 := by
  rw [List.take_add_one, hi]; simp [putsOf]
theorem putsOf_le (es : List EdD) (i : Nat) : (putsOf (es.take i)).length ≤ (putsOf es).length := by
  have : putsOf es = putsOf (es.take i) ++ putsOf (es.drop i) := by unfold putsOf; rw [← List.flatMap_append, List.take_append_drop]
  rw [this, List.length_append]; omega
theorem goneE_succ {ts : List (Int × Int)} {es : List EdD} {i : Nat} {e : EdD} (hi : es[i]? = some e) : goneE ts (es.take (i + 1)) = goneE ts (es.take i) + ((offs (ts.take e.2.1.toNat) : Int) - offs (ts.take e.1.toNat)) := by
  rw [List.take_add_one, hi]; simp [goneE]
theorem offs_take_le (ts : List (Int × Int)) (n : Nat) : offs (ts.take n) ≤ offs ts := by
  have := offs_append (ts.take n) (ts.drop n)
  rw [List.take_append_drop] at this; omega
theorem goneE_le {ts : List (Int × Int)} (es : List EdD) : -(offs ts : Int) * es.length ≤ goneE ts es ∧ goneE ts es ≤ offs ts * es.length := by
  induction es with
  | nil => simp [goneE]
  | cons e es ih =>
    have h1 := offs_take_le ts e.2.1.toNat
    have h2 := offs_take_le ts e.1.toNat
    have : goneE ts (e :: es) = ((offs (ts.take e.2.1.toNat) : Int) - offs (ts.take e.1.toNat)) + goneE ts es := by simp [goneE]
    rw [this, List.length_cons]
    have e1 : -(offs ts : Int) * ((es.length + 1 : Nat) : Int) = -(offs ts : Int) * es.length + -(offs ts : Int) := by push_cast; rw [Int.mul_add, Int.mul_one]
    have e2 : (offs ts : Int) * ((es.length + 1 : Nat) : Int) = (offs ts : Int) * es.length + (offs ts : Int) := by push_cast; rw [Int.mul_add, Int.mul_one]
    rw [e1, e2]
    omega

theorem c_refuse (M : Meth0 P S) {n : Nat} {T : TX} {x : Eds} (r : TextR S n h T) (ho : (Sh.list EdSh).ok h x) (htot : (putsOf x.2).length ≤ 1099511627776) (hsm : (bytesL T.cur.ps).length ≤ T.limit) :
    Gives P (F_Text_refuse S (some T.p) x.1) [.one (.int .i64)] h fun (y : Int × Unit) _ => RefR T.enc T.limit (toksL T.enc T.cur.ps) x.2 y.1 := by
  have hxl := ho.len
  have hcap := ho.2.1
  have hmax := ho.2.2.1
  have hf := r.cur.few r.lim.2
  have hlim := r.lim
  have hoffs := (toksL_le (enc := T.enc) r.cur.bytes).2
  unfold F_Text_refuse Gives
  refine wp_ifB (fun hc => s_ret ⟨rfl, Ext.refl _, (3, ()), rfl, .many ?_⟩) fun hc => ?_
  · rw [gtI_iff, natI_def, hxl] at hc; omega
  rw [gtI_not, natI_def, hxl] at hc
  have hfew : x.2.length ≤ 70000 := by omega
  refine wp_call (c_Len r) fun ⟨(L : Int), _⟩ h1 e1 hL => ?_
  have hL : L = (toksL T.enc T.cur.ps).length := by have hL : L = _ := hL; rw [hL, els_len]
  subst hL
  dsimp only
  generalize hts : toksL T.enc T.cur.ps = ts at *
  refine wp_while (fun (s : Int × Int × Unit) h' => Ext h h' ∧ ∃ i : Nat, s.2.1 = i ∧ i ≤ x.2.length ∧ Plc ts.length 0 (x.2.take i) ∧ s.1 = lastTo 0 (x.2.take i)) (fun s _ => ((x.2.length : Int) - s.2.1).toNat)
    (fun t vs h' => Ext h h' ∧ ((t = 2 ∧ vs = [] ∧ Plc ts.length 0 x.2) ∨ (t = 1 ∧ vs = [i64v 2] ∧ ¬ Plc ts.length 0 x.2))) ⟨e1, 0, rfl, Nat.zero_le _, trivial, rfl⟩ ?_ ?_
  · rintro ⟨(at_ : Int), i', u⟩ h2 ⟨e2, i, hi, hil, hp, ha⟩
    dsimp only at hi ha ⊢
    subst hi; subst ha
    refine wp_ifB (fun hc => ?_) fun hc => ?_
    · rw [ltI_iff, natI_def, hxl] at hc
      obtain ⟨e, hie⟩ : ∃ e, x.2[i]? = some e := ⟨x.2[i]'(by omega), List.getElem?_eq_getElem (by omega)⟩
      refine s_edit (ho.ext e2) hie fun a h3 e3 _ o3 => ?_
      have l0 : ∀ {K : Int → Prog} {Q : Nat → List Value → Heap → Prop} {h'}, Ext h3 h' → wp P (K e.1) h' Q → wp P (.load (.one (.int .i64)) (shiftTo (some a) 0) K) h' Q := fun q hk => wp_load1 (b := .int .i64) _ e.1 rfl (cells_iff.1 (o3.ext q).cells 0 _ rfl) hk
      have l1 : ∀ {K : Int → Prog} {Q : Nat → List Value → Heap → Prop} {h'}, Ext h3 h' → wp P (K e.2.1) h' Q → wp P (.load (.one (.int .i64)) (shiftTo (some a) 1) K) h' Q := fun q hk => wp_load1 (b := .int .i64) _ e.2.1 rfl (cells_iff.1 (o3.ext q).cells 1 _ rfl) hk
      have htk : x.2.take (i + 1) = x.2.take i ++ [e] := by rw [List.take_add_one, hie]; rfl
      refine bind_bool (¬ (lastTo 0 (x.2.take i) ≤ e.1 ∧ e.1 ≤ e.2.1 ∧ e.2.1 ≤ ts.length)) ?_ fun bb h4 e4 hb => wp_ifB (fun hc => ?_) fun hc => ?_
      · refine l0 (Ext.refl _) (wp_ifB (fun hc => s_ret ⟨rfl, Ext.refl _, true, rfl, ?_⟩) fun hc => l1 (Ext.refl _) (l0 (Ext.refl _) (wp_ifB (fun hd => s_ret ⟨rfl, Ext.refl _, true, rfl, ?_⟩) fun hd => l1 (Ext.refl _) (s_ret ⟨rfl, Ext.refl _, _, rfl, ?_⟩))))
        · rw [ltI_iff] at hc; exact Iff.intro (fun _ => by omega) fun _ => rfl
        · rw [ltI_iff] at hd; exact Iff.intro (fun _ => by omega) fun _ => rfl
        · rw [ltI_not] at hc hd; rw [gtI_iff]; omega
      · refine s_ret ⟨fun h => absurd h (by decide), fun _ => ⟨(e2.trans e3).trans e4, .inr ⟨rfl, rfl, fun hpl => hb.1 hc (hpl.at hie)⟩⟩⟩
      · have hok : lastTo 0 (x.2.take i) ≤ e.1 ∧ e.1 ≤ e.2.1 ∧ e.2.1 ≤ ts.length := by
          by_cases hx : lastTo 0 (x.2.take i) ≤ e.1 ∧ e.1 ≤ e.2.1 ∧ e.2.1 ≤ ts.length
          · exact hx
          · rw [hb.2 hx] at hc; cases hc
        refine l1 e4 ?_
        rw [add_ok (a := (i : Int)) (by omega) (by omega)]
        refine s_ret ⟨fun _ => ⟨(e.2.1, (i : Int) + 1, ()), rfl, ⟨(e2.trans e3).trans e4, i + 1, rfl, by omega, ?_, ?_⟩, by dsimp only; omega⟩, fun h => absurd rfl h⟩
        · rw [htk, Plc.append]; exact ⟨hp, hok.1, hok.2.1, hok.2.2, trivial⟩
        · rw [htk, lastTo_snoc]
    · rw [ltI_not, natI_def, hxl] at hc
      rw [List.take_of_length_le (by omega)] at hp
      exact s_ret ⟨fun h => absurd h (by decide), fun _ => ⟨e2, .inl ⟨rfl, rfl, hp⟩⟩⟩
  rintro t vs h2 ⟨e2, ⟨rfl, rfl, hpl⟩ | ⟨rfl, rfl, hno⟩⟩
  · refine s_tag (s_cast0 (wp_call (c_Size (r.ext e2)) fun ⟨(sz : Int), _⟩ h3 e3 hsz => ?_))
    have hsz : sz = (bytesL T.cur.ps).length := hsz
    rw [← hoffs] at hsz hsm
    subst hsz
    dsimp only
    have e03 := e2.trans e3
    refine wp_while (fun (s : Int × Int × Unit) h' => Ext h h' ∧ ∃ i : Nat, s.2.1 = i ∧ i ≤ x.2.length ∧ fitsE T.enc (putsOf (x.2.take i)) ∧ s.1 = offs ts + sizeL T.enc (putsOf (x.2.take i))) (fun s _ => ((x.2.length : Int) - s.2.1).toNat)
      (fun t vs h' => Ext h h' ∧ ((t = 4 ∧ vs = [i64v (offs ts + sizeL T.enc (putsOf x.2))] ∧ fitsE T.enc (putsOf x.2)) ∨ (t = 1 ∧ vs = [i64v 11] ∧ ¬ fitsE T.enc (putsOf x.2)))) ⟨e03, 0, rfl, Nat.zero_le _, (fun a ha => by simp [putsOf] at ha), by simp [putsOf, sizeL]⟩ ?_ ?_
    · rintro ⟨(bs : Int), i', u⟩ h4 ⟨e4, i, hi, hil, hp, ha⟩
      dsimp only at hi ha ⊢
      subst hi; subst ha
      refine wp_ifB (fun hc => ?_) fun hc => ?_
      · rw [ltI_iff, natI_def, hxl] at hc
        obtain ⟨e, hie⟩ : ∃ e, x.2[i]? = some e := ⟨x.2[i]'(by omega), List.getElem?_eq_getElem (by omega)⟩
        refine s_edit (ho.ext e4) hie fun a h5 e5 _ o5 => ?_
        have hlst : Lst .i64 h e.2.2.1.1 e.2.2.1.2 := Sh.lst (ho.el hie).2.2.1
        have hll := hlst.len
        have e05 := e4.trans e5
        have hsucc := putsOf_succ hie
        have hle1 := putsOf_le x.2 (i + 1)
        rw [hsucc, List.length_append] at hle1
        have hall : ∀ a, a ∈ e.2.2.1.2 → a ∈ putsOf x.2 := fun a ha => by
          unfold putsOf; exact List.mem_flatMap.2 ⟨e, List.mem_of_getElem? hie, ha⟩
        refine wp_load1 (b := .sl) _ e.2.2.1.1 rfl (cells_iff.1 o5.cells 2 _ rfl) ?_
        refine wp_while (fun (s : Int × Int × Unit) h' => Ext h h' ∧ ∃ j : Nat, s.2.1 = j ∧ j ≤ e.2.2.1.2.length ∧ fitsE T.enc (e.2.2.1.2.take j) ∧ s.1 = offs ts + sizeL T.enc (putsOf (x.2.take i)) + sizeL T.enc (e.2.2.1.2.take j)) (fun s _ => ((e.2.2.1.2.length : Int) - s.2.1).toNat)
          (fun t vs h' => Ext h h' ∧ ((t = 6 ∧ vs = [i64v (offs ts + sizeL T.enc (putsOf (x.2.take i)) + sizeL T.enc e.2.2.1.2)] ∧ fitsE T.enc e.2.2.1.2) ∨ (t = 1 ∧ vs = [i64v 11] ∧ ¬ fitsE T.enc e.2.2.1.2))) ⟨e05, 0, rfl, Nat.zero_le _, (fun a ha => by simp at ha), by simp [sizeL]⟩ ?_ ?_
        · rintro ⟨(bs : Int), j', u⟩ h6 ⟨e6, j, hj, hjl, hq, hb⟩
          dsimp only at hj hb ⊢
          subst hj; subst hb
          have hsz1 := sizeL_le T.enc (putsOf (x.2.take i))
          have hsz2 := sizeL_le T.enc (e.2.2.1.2.take j)
          rw [List.length_take] at hsz2
          refine wp_ifB (fun hd => ?_) fun hd => ?_
          · rw [ltI_iff, natI_def, hll] at hd
            have hjlt : j < e.2.2.1.2.length := by omega
            refine s_at (hlst.ext e6) (by omega) (by omega) fun hfit => s_enc (r.ext e6) ?_
            rw [show ((j : Int)).toNat = j by omega]
            have hge : e.2.2.1.2.getD j 0 = e.2.2.1.2[j] := by rw [List.getD_eq_getElem?_getD, List.getElem?_eq_getElem hjlt]; rfl
            rw [hge]
            refine wp_call (Codec.c_Size M.sizes T.enc (e.2.2.1.2[j])) fun ⟨(sz : Int), _⟩ h7 e7 hs => ?_
            have hs : sz = sizeF T.enc (e.2.2.1.2[j]) := hs
            subst hs
            have hpos := sizeF_pos T.enc (e.2.2.1.2[j]); have hle4 := sizeF_le T.enc (e.2.2.1.2[j])
            dsimp only
            refine wp_ifB (fun hz => ?_) fun hz => ?_
            · rw [eqI_iff] at hz
              refine s_ret ⟨fun h => absurd h (by decide), fun _ => ⟨e6.trans e7, .inr ⟨rfl, rfl, fun hfe => ?_⟩⟩⟩
              have := hfe _ (List.getElem_mem hjlt); omega
            · rw [eqI_not] at hz
              have htk : e.2.2.1.2.take (j + 1) = e.2.2.1.2.take j ++ [e.2.2.1.2[j]] := by rw [List.take_add_one, List.getElem?_eq_getElem hjlt]; rfl
              have hone : sizeL T.enc [e.2.2.1.2[j]] = sizeF T.enc (e.2.2.1.2[j]) := by simp [sizeL]
              rw [add_ok (a := (j : Int)) (by omega) (by omega), add_ok (by omega) (by omega)]
              refine s_ret ⟨fun _ => ⟨(_, (j : Int) + 1, ()), rfl, ⟨e6.trans e7, j + 1, rfl, by omega, ?_, ?_⟩, by dsimp only; omega⟩, fun h => absurd rfl h⟩
              · rw [htk]
                intro a ha
                rcases List.mem_append.1 ha with ha | ha
                · exact hq a ha
                · rw [List.mem_singleton.1 ha]; omega
              · dsimp only; rw [htk, sizeL_append, hone]; omega
          · rw [ltI_not, natI_def, hll] at hd
            have htj : e.2.2.1.2.take j = e.2.2.1.2 := List.take_of_length_le (by omega)
            rw [htj] at hq ⊢
            exact s_ret ⟨fun h => absurd h (by decide), fun _ => ⟨e6, .inl ⟨rfl, rfl, hq⟩⟩⟩
        · rintro t vs h6 ⟨e6, ⟨rfl, rfl, hq⟩ | ⟨rfl, rfl, hq⟩⟩
          · refine s_tag (s_castI ?_)
            rw [add_ok (a := (i : Int)) (by omega) (by omega)]
            refine s_ret ⟨fun _ => ⟨(_, (i : Int) + 1, ()), rfl, ⟨e6, i + 1, rfl, by omega, ?_, ?_⟩, by dsimp only; omega⟩, fun h => absurd rfl h⟩
            · rw [hsucc]
              intro a ha
              exact (List.mem_append.1 ha).elim (hp a) (hq a)
            · dsimp only; rw [hsucc, sizeL_append]; omega
          · refine s_skip (by decide) (s_tag (s_castI (s_ret ⟨fun h => absurd h (by decide), fun _ => ⟨e6, .inr ⟨rfl, rfl, fun hfe => hq fun a ha => hfe a (hall a ha)⟩⟩⟩)))
      · rw [ltI_not, natI_def, hxl] at hc
        rw [List.take_of_length_le (by omega)] at hp ⊢
        exact s_ret ⟨fun h => absurd h (by decide), fun _ => ⟨e4, .inl ⟨rfl, rfl, hp⟩⟩⟩
    · rintro t vs h4 ⟨e4, ⟨rfl, rfl, hfe⟩ | ⟨rfl, rfl, hnf⟩⟩
      · refine s_tag (s_castI ?_)
        have hszP := sizeL_le T.enc (putsOf x.2)
        refine wp_while (fun (s : Int × Int × Unit) h' => Ext h h' ∧ ∃ i : Nat, s.2.1 = i ∧ i ≤ x.2.length ∧ s.1 = offs ts + sizeL T.enc (putsOf x.2) - goneE ts (x.2.take i)) (fun s _ => ((x.2.length : Int) - s.2.1).toNat)
          (fun t vs h' => Ext h h' ∧ t = 8 ∧ vs = [i64v (offs ts + sizeL T.enc (putsOf x.2) - goneE ts x.2)]) ⟨e4, 0, rfl, Nat.zero_le _, by simp [goneE]⟩ ?_ ?_
        · rintro ⟨(bs : Int), i', u⟩ h5 ⟨e5, i, hi, hil, ha⟩
          dsimp only at hi ha ⊢
          subst hi; subst ha
          refine wp_ifB (fun hc => ?_) fun hc => ?_
          · rw [ltI_iff, natI_def, hxl] at hc
            obtain ⟨e, hie⟩ : ∃ e, x.2[i]? = some e := ⟨x.2[i]'(by omega), List.getElem?_eq_getElem (by omega)⟩
            have hpe := hpl.at hie
            have hlo := lastTo_lo (hpl.take i)
            have hg := goneE_le (ts := ts) (x.2.take i)
            have hgm : (offs ts : Int) * ((x.2.take i).length : Nat) ≤ 65536 * 70000 := Int.mul_le_mul (by omega) (by rw [List.length_take]; omega) (by omega) (by decide)
            have hgm2 : -(offs ts : Int) * ((x.2.take i).length : Nat) = -((offs ts : Int) * ((x.2.take i).length : Nat)) := Int.neg_mul ..
            rw [hgm2] at hg
            have hgs := goneE_succ (ts := ts) hie
            refine bind_val (tys := [.one (.int .i64)]) (fun (y : Int × Unit) _ => y.1 = offs ts + sizeL T.enc (putsOf x.2) - goneE ts (x.2.take (i + 1))) ?_ fun ⟨(y : Int), _⟩ h6 e6 hy => ?_
            · refine s_edit (ho.ext e5) hie fun a h6 e6 _ o6 => ?_
              have l0 : ∀ {K : Int → Prog} {Q : Nat → List Value → Heap → Prop} {h'}, Ext h6 h' → wp P (K e.1) h' Q → wp P (.load (.one (.int .i64)) (shiftTo (some a) 0) K) h' Q := fun q hk => wp_load1 (b := .int .i64) _ e.1 rfl (cells_iff.1 (o6.ext q).cells 0 _ rfl) hk
              have l1 : ∀ {K : Int → Prog} {Q : Nat → List Value → Heap → Prop} {h'}, Ext h6 h' → wp P (K e.2.1) h' Q → wp P (.load (.one (.int .i64)) (shiftTo (some a) 1) K) h' Q := fun q hk => wp_load1 (b := .int .i64) _ e.2.1 rfl (cells_iff.1 (o6.ext q).cells 1 _ rfl) hk
              have E := Ext.refl h6
              have r6 := r.ext (e5.trans e6)
              refine l1 E (l0 E (wp_ifB (fun hd => ?_) fun hd => ?_))
              · rw [gtI_iff] at hd
                refine l1 E (l0 E (wp_call (c_ahead M r6 (at_ := e.2.1) (by omega) (by rw [hts]; omega)) fun ⟨(s1 : Sums), _⟩ h7 e7 hs1 => s_ckC (q := a) (j := 0) (cells_iff.1 (o6.ext e7).cells 0 _ rfl) (wp_call (c_ahead M (r6.ext e7) (at_ := e.1) (by omega) (by rw [hts]; omega)) fun ⟨(s2 : Sums), _⟩ h8 e8 hs2 => ?_)))
                have hs1 : s1 = _ := hs1
                have hs2 : s2 = _ := hs2
                rw [hts] at hs1 hs2
                have okt : okT ts := by rw [← hts]; exact okT_toksL r.cur.bytes
                have b1 : s1.2.1 = offs (ts.take e.2.1.toNat) := by rw [hs1]; exact (sumT_is (okt.take _)).2
                have b2 : s2.2.1 = offs (ts.take e.1.toNat) := by rw [hs2]; exact (sumT_is (okt.take _)).2
                have k1 := offs_take_le ts e.2.1.toNat
                have k2 := offs_take_le ts e.1.toNat
                dsimp only
                rw [b1, b2, sub_ok (a := ((offs (ts.take e.2.1.toNat) : Nat) : Int)) (by omega) (by omega), sub_ok (by omega) (by omega)]
                exact s_ret ⟨rfl, (e6.trans e7).trans e8, (_, ()), rfl, by show _ = _; rw [hgs]; omega⟩
              · rw [gtI_not] at hd
                have hee : e.1 = e.2.1 := by omega
                exact s_ret ⟨rfl, e6, (_, ()), rfl, by show _ = _; rw [hgs, hee]; omega⟩
            · have hy : y = _ := hy
              subst hy
              dsimp only
              rw [add_ok (a := (i : Int)) (by omega) (by omega)]
              exact s_ret ⟨fun _ => ⟨(_, (i : Int) + 1, ()), rfl, ⟨e5.trans e6, i + 1, rfl, by omega, rfl⟩, by dsimp only; omega⟩, fun h => absurd rfl h⟩
          · rw [ltI_not, natI_def, hxl] at hc
            rw [List.take_of_length_le (by omega)]
            exact s_ret ⟨fun h => absurd h (by decide), fun _ => ⟨e5, rfl, rfl⟩⟩
        · rintro t vs h5 ⟨e5, rfl, rfl⟩
          refine s_tag (s_castI (wp_grd rfl (wp_grd rfl (wp_load1 (b := .int .i64) _ T.limit rfl (r.ext e5).c1 (wp_ifB (fun hc => ?_) fun hc => ?_)))))
          · rw [gtI_iff] at hc
            exact s_ret ⟨rfl, e5, (50, ()), rfl, .full hfew hpl hfe hc⟩
          · rw [gtI_not] at hc
            exact s_ret ⟨rfl, e5, (0, ()), rfl, .ok hfew hpl hfe hc⟩
      · exact s_skip (by decide) (s_tag (s_castI (s_ret ⟨rfl, e4, (11, ()), rfl, .fit hfew hpl hnf⟩)))
  · exact s_skip (by decide) (s_tag (s_castI (s_ret ⟨rfl, e2, (2, ()), rfl, .place hfew hno⟩)))
end Go.Sw.Piece

set_option linter.unusedVariables false
set_option linter.unusedSimpArgs false
set_option maxRecDepth 100000
namespace Go.Sw.Piece
open Go.Sw.Any Go.Sw.Codec
open Go.Sw.Tree (iv s_putAll s_newP s_getP s_getT s_putP eqI_self Placed cell_own cell_upd1 wp_whileG minI_eq)
variable {P : Program} {S : Ids} {h : Heap} {Q : Nat → List Value → Heap → Prop}

/-! ### Atoms that fit, put -/
theorem size_first {enc : Int} (he : known enc) {l : List Int} (hb : isBytes l) (hl : 0 < l.length) : 0 < sizeF enc (firstF enc l).1 ∧ (firstF enc l).2 = sizeF enc (firstF enc l).1 ∧ putF enc (firstF enc l).1 = l.take (firstF enc l).2.toNat := by
  obtain ⟨h1, h2⟩ := first_put he hb hl
  have h3 := putF_len h1
  have h4 := firstF_size (enc := enc) hl hb
  rw [h2, List.length_take] at h3
  exact ⟨h1, by omega, h2⟩
theorem toks_is {enc : Int} (he : known enc) {l : List Int} (hb : isBytes l) : (∀ t, t ∈ toks enc l → 0 < sizeF enc t.1 ∧ t.2 = sizeF enc t.1) ∧ (toks enc l).flatMap (fun t => putF enc t.1) = l := by
  refine byAtoms (enc := enc) (M := fun l => (∀ t, t ∈ toks enc l → 0 < sizeF enc t.1 ∧ t.2 = sizeF enc t.1) ∧ (toks enc l).flatMap (fun t => putF enc t.1) = l) (fun l hz => ?_) (fun l hb hl ih => ?_) l hb
  · rw [toks_nil hz]; exact ⟨fun t ht => (by cases ht), (List.eq_nil_of_length_eq_zero hz).symm⟩
  · obtain ⟨h1, h2, h3⟩ := size_first he hb hl
    rw [toks_cons hb hl]
    refine ⟨fun t ht => ?_, ?_⟩
    · rcases List.mem_cons.1 ht with rfl | ht
      · exact ⟨h1, h2⟩
      · exact ih.1 t ht
    · rw [List.flatMap_cons, ih.2, h3, List.take_append_drop]
abbrev tk (enc a : Int) : Int × Int := (a, sizeF enc a)
theorem toks_puts {enc : Int} (he : known enc) : ∀ {l : List Int}, (∀ a, a ∈ l → 0 < sizeF enc a ∧ scalarF a) → toks enc (l.flatMap (putF enc)) = l.map (tk enc)
  | [], _ => toks_nil rfl
  | a :: l, h => by
    have ha := h a (List.mem_cons_self ..)
    have hl := fun x hx => h x (List.mem_cons_of_mem _ hx)
    have hbl := bytes_flat (enc := enc) (l := l) fun x hx => (hl x hx).1
    have e := first_of_put he ha.1 ha.2 hbl
    have hlen := putF_len ha.1
    rw [List.flatMap_cons, toks_cons (bytes_append (bytes_put ha.1) hbl) (by rw [List.length_append]; omega), e]
    dsimp only
    rw [List.drop_left' (by omega), toks_puts he hl]; rfl
theorem toks_one {enc a : Int} (he : known enc) (hf : 0 < sizeF enc a) (hn : ¬ scalarF a) : toks enc (putF enc a) = [tk enc a] := by
  have hb := bytes_put hf
  have hlen := putF_len hf
  have hu := (fits_iff enc a).1 hf
  have e : firstF enc (putF enc a) = (a, sizeF enc a) := by
    unfold scalarF at hn
    rcases known_cases he with rfl | h23 | h23 | rfl
    · have ha : -256 ≤ a ∧ a ≤ -129 := by omega
      have hp : putF 1 a = [-1 - a] := by unfold putF; rw [if_pos (by omega)]
      have hs : sizeF 1 a = 1 := by rw [hp] at hlen; exact hlen.symm
      rw [hp] at hb ⊢
      unfold firstF
      rw [if_pos rfl, raw_val hb (by simp) fun m h1 h4 hm hr => ?_, hs]
      · simp; omega
      · have hm1 : m = 1 := by simp at hm; omega
        subst hm1
        have h0 := hb.at 0
        have := (row_is (x1 := 0) (x2 := 0) (x3 := 0) h0.1 h0.2 1 (by decide)).1 hr
        simp [contF] at this
        omega
    · subst h23
      by_cases h0 : a < 0
      · have hp : putF 2 a = [-1 - a] := by unfold putF; rw [if_pos h0]
        have hs : sizeF 2 a = 1 := by rw [hp] at hlen; exact hlen.symm
        rw [hp, hs]; unfold firstF first16; simp; omega
      · have hp : putF 2 a = [a % 256, a / 256] := by unfold putF unitB; rw [if_neg h0, if_neg (by decide), if_neg (by decide), if_neg (by omega), if_pos rfl]
        have hs : sizeF 2 a = 2 := by rw [hp] at hlen; exact hlen.symm
        rw [hp, hs]; unfold firstF first16 unitF; simp; omega
    · subst h23
      by_cases h0 : a < 0
      · have hp : putF 3 a = [-1 - a] := by unfold putF; rw [if_pos h0]
        have hs : sizeF 3 a = 1 := by rw [hp] at hlen; exact hlen.symm
        rw [hp, hs]; unfold firstF first16; simp; omega
      · have hp : putF 3 a = [a / 256, a % 256] := by unfold putF unitB; rw [if_neg h0, if_neg (by decide), if_neg (by decide), if_neg (by omega), if_neg (by decide)]
        have hs : sizeF 3 a = 2 := by rw [hp] at hlen; exact hlen.symm
        rw [hp, hs]; unfold firstF first16 unitF; simp; omega
    · omega
  rw [toks_cons hb (by omega), e]
  dsimp only
  rw [List.drop_of_length_le (by omega), toks_nil rfl]

/-! ### A text's blocks -/
theorem Nd.mono {I : Inst} {Z' : Nat → Prop} (hz : ∀ i, i < h.size → I.Z i → Z' i) : ∀ {t : Bt I.It} {p : Option Addr}, Nd I h p t → Nd { I with Z := Z' } h p t
  | .nil, _, n => n
  | .node l x r, p, ⟨a, pl, pr, e1, c, n1, n2⟩ => ⟨a, pl, pr, e1, ⟨c.1, hz _ (by have := cell_lt (cells_iff.1 c.1 0 _ rfl); rwa [add_block] at this) c.2.1, c.2.2⟩, Nd.mono hz n1, Nd.mono hz n2⟩
theorem part_mono {Z Z' : Nat → Prop} {t : Bt Part} {p : Option Addr} (n : Nd (part S Z) h p t) (hz : ∀ i, i < h.size → Z i → Z' i) : Nd (part S Z') h p t := Nd.mono (I := part S Z) hz n

/-- The blocks behind an append. -/
def Zad (Z : Nat → Prop) (s : Sl) (i : Nat) : Prop := Z i ∨ ∃ b, s.base = some b ∧ b.block = i

theorem lst_take {k : IntKind} {n : Nat} {h h' : Heap} {s r : Sl} {A B : List Int} {x : Sl} {l : List Int} {a b : Addr} (ho : OwnL n k h s A) (ho' : OwnL n k h' r (A ++ B)) (hb : s.base = some b) (hr : r.base = some b) (hx : Lst k h x l) (ha : x.base = some a) (hab : a.block = b.block) (hs : a.spot = none) (hl : a.off + l.length ≤ A.length) : Lst k h' x l := by
  obtain ⟨_, _, _, o4⟩ := ho.own
  rw [hb] at o4
  obtain ⟨e0, e1, _, cs, elem, e3, e4, e5⟩ := o4
  obtain ⟨_, _, _, o4'⟩ := ho'.own
  rw [hr] at o4'
  obtain ⟨_, _, _, cs', elem', e3', e4', e5'⟩ := o4'
  refine ⟨⟨hx.rd.1, fun i v hi => ?_⟩, hx.cap, hx.max, hx.wf⟩
  obtain ⟨a', ea, c⟩ := hx.rd.2 i v hi
  rw [ha] at ea; cases ea
  refine ⟨a, ha, ?_⟩
  have hil := (List.getElem?_eq_some_iff.1 hi).1
  rw [List.length_map] at hil
  obtain ⟨ab, ao, sp⟩ := a
  dsimp only at hab hs hl
  subst hs; subst hab
  rw [add_mk] at c ⊢
  unfold Sw.cell at c ⊢
  dsimp only at c ⊢
  rw [e3] at c
  rw [e3']
  have h1 := e5 (ao + i) (.int k (A.getD (ao + i) 0)) (by rw [List.getElem?_map, List.getElem?_eq_getElem (by omega)]; simp [List.getD, List.getElem?_eq_getElem (show ao + i < A.length by omega)])
  have h2 := e5' (ao + i) (.int k (A.getD (ao + i) 0)) (by rw [List.getElem?_map, List.getElem?_append_left (by omega), List.getElem?_eq_getElem (by omega)]; simp [List.getD, List.getElem?_eq_getElem (show ao + i < A.length by omega)])
  simp at c ⊢
  rw [h1] at c
  rw [h2]; exact c

/-- Bytes are added, and the text's slice is set. -/
theorem text_add {n : Nat} {T : TX} {B : List Int} {r : Sl} {h1 h2 : Heap} (t : TextR S n h T) (hn : n ≤ h.size) (hB : 0 < B.length) (o1 : OwnL n .u8 h1 r (T.A ++ B)) (u1 : Upd T.ad h h1) (b1 : ∀ a, r.base = some a → T.ad.base = some a ∨ h.size ≤ a.block) (c1 : r.base = T.ad.base ∨ Ext h h1)
    (o2 : Own n 1 h2 ⟨some T.p, 4, 4⟩ [i64v T.enc, i64v T.limit, .pointer T.cur.root, slv r]) (u2 : Upd ⟨some T.p, 4, 4⟩ h1 h2) : TextR S n h2 { T with ad := r, A := T.A ++ B, Z := Zad T.Z r } ∧ ∀ q, PcR h T q → PcR h2 { T with ad := r, A := T.A ++ B, Z := Zad T.Z r } q := by
  have hp : T.p.block < h.size := (t.lo _ t.zp).2
  have rne : ∀ b, r.base = some b → b.block ≠ T.p.block := fun b hb => by
    rcases b1 b hb with hx | hx
    · exact t.adp b hx
    · omega
  have pc : ∀ {q}, PcR h T q → PcR h2 { T with ad := r, A := T.A ++ B, Z := Zad T.Z r } q := fun {q} pq => by
    have hblk : ∀ a, q.1.1.base = some a → a.block < h.size := fun a ha => (t.lo _ (pq.blk a ha).1).2
    have l1 : Lst .u8 h1 q.1.1 q.2 := by
      rcases c1 with hc | hc
      · cases ha : q.1.1.base with
        | none => exact pq.lst.blocks fun a hx => by rw [ha] at hx; cases hx
        | some a =>
          cases hb : T.ad.base with
          | none => exact pq.lst.blocks fun a hx hl => u1.2.1 _ hl fun b hbb => by rw [hb] at hbb; cases hbb
          | some b =>
            by_cases hab : a.block = b.block
            · obtain ⟨_, _, k3⟩ := pq.blk a ha
              obtain ⟨k4, k5⟩ := k3 b hb hab
              exact lst_take t.ad o1 hb (hc.trans hb) pq.lst ha hab k4 k5
            · exact pq.lst.blocks fun a' hx hl => u1.2.1 _ hl fun b' hbb => by rw [ha] at hx; cases hx; rw [hb] at hbb; cases hbb; exact fun e => hab e.symm
      · exact pq.lst.ext hc
    refine ⟨l1.blocks fun a ha hl => u2.2.1 _ hl fun b hb => by cases hb; exact fun e => (pq.blk a ha).2.1 e.symm, pq.ne, pq.is, pq.tag, pq.len, fun a ha => ⟨.inl (pq.blk a ha).1, (pq.blk a ha).2.1, fun b hb hab => ?_⟩⟩
    rcases b1 b hb with hx | hx
    · obtain ⟨k4, k5⟩ := (pq.blk a ha).2.2 b hx hab
      refine ⟨k4, ?_⟩
      show _ ≤ (T.A ++ B).length
      rw [List.length_append]; omega
    · have := hblk a ha; omega
  have nd : ∀ {s}, StR S h T s → Nd (part S (Zad T.Z r)) h2 s.root s.t := fun {s} hs => by
    have n1 : Nd (part S T.Z) h1 s.root s.t := hs.nd.updK u1 fun b hb => by
      have hA := t.adk b hb
      have hl : Lst .u8 h T.ad T.A := t.ad.lst
      obtain ⟨b', e, c⟩ := hl.rd.at (i := 0) hA
      rw [hb] at e; cases e
      obtain ⟨_, _, _, o4⟩ := t.ad.own
      rw [hb] at o4
      obtain ⟨bb, bo, bsp⟩ := b
      have e0 := o4.1; have e1 := o4.2.1
      dsimp only at e0 e1
      subst e0; subst e1
      rw [add_zero'] at c
      exact ⟨_, _, c⟩
    have n2 : Nd (part S T.Z) h2 s.root s.t := n1.updK u2 fun b hb => by
      cases hb
      obtain ⟨_, _, _, o4⟩ := t.ob
      have c := cells_iff.1 (t.ob.cells) 0 _ rfl
      have c1 : Sw.cell h1 (T.p.add 0) = some (i64v T.enc) := by
        rw [cell_of_block (h := h) (by rw [add_block]; exact u1.2.1 _ hp fun b hb => t.adp b hb)]; exact c
      rw [add_zero'] at c1
      obtain ⟨e0, e1, _⟩ := o4
      have hpe : (⟨T.p.block, 0, none⟩ : Addr) = T.p := by
        show (⟨T.p.block, 0, none⟩ : Addr) = ⟨T.p.block, T.p.off, T.p.spot⟩
        rw [e0, e1]
      rw [hpe]
      exact ⟨_, _, c1⟩
    exact part_mono n2 fun i _ hi => .inl hi
  have st : ∀ {s}, StR S h T s → StR S h2 { T with ad := r, A := T.A ++ B, Z := Zad T.Z r } s := fun {s} hs => ⟨nd hs, hs.ls, fun q hq => pc (hs.pcs q hq), hs.small⟩
  refine ⟨⟨t.enc, t.lim, o2, ?_, rne, fun b hb => by show 0 < (T.A ++ B).length; rw [List.length_append]; omega, st t.cur, fun s hs => st (t.kept s hs), .inl t.zp, fun b hb => .inr ⟨b, hb, rfl⟩, fun i hi => ?_⟩, fun q hq => pc hq⟩
  · exact o1.upd u2 fun a b ha hb => by cases hb; exact fun e => rne a ha e.symm
  · rcases hi with hi | ⟨b, hb, rfl⟩
    · have := t.lo i hi; have := u1.1; have := u2.1; omega
    · have := (o1.own.lt hb); have := u2.1; omega
end Go.Sw.Piece

set_option linter.unusedVariables false
set_option linter.unusedSimpArgs false
set_option maxRecDepth 100000
namespace Go.Sw.Piece
open Go.Sw.Any Go.Sw.Codec
open Go.Sw.Tree (iv s_putAll s_newP s_getP s_getT s_putP eqI_self Placed cell_own cell_upd1 wp_whileG minI_eq)
variable {P : Program} {S : Ids} {h : Heap} {Q : Nat → List Value → Heap → Prop}

/-- The cells of parts. -/
def cP (l : List Part) : List Value := l.flatMap fun r => Bs.inj PB r
theorem cP_append (l m : List Part) : cP (l ++ m) = cP l ++ cP m := by simp [cP]
theorem cP_one (x : Part) : cP [x] = Bs.inj PB x := by simp [cP]
theorem cP_len (l : List Part) : (cP l).length = l.length * 7 := by
  induction l with
  | nil => rfl
  | cons x l ih => unfold cP at ih ⊢; rw [List.flatMap_cons, List.length_append, ih, inj_len, List.length_cons]; simp; omega
theorem cP_flat (l : List Part) : ∀ v, v ∈ cP l → flat v = true := fun v hv => by
  obtain ⟨x, _, hx⟩ := List.mem_flatMap.1 hv
  exact flatP x v hx
/-- A list of parts of one's own. -/
abbrev OwnPs (n : Nat) (h : Heap) (s : Sl) (l : List Part) : Prop := Own n 7 h s (cP l)
theorem OwnPs.len {n : Nat} {s : Sl} {l : List Part} (o : OwnPs n h s l) : s.len = l.length := by
  have := o.1
  rw [cP_len] at this; omega

/-- While bytes are added: what there is. -/
structure FG where
  ad : Sl
  A : List Int
  Z : Nat → Prop
  qs : List Pc
  ps : Sl
  seg : List Int
def TX.at_ (T : TX) (g : FG) : TX := { T with ad := g.ad, A := g.A, Z := g.Z }
structure FrI (S : Ids) (n : Nat) (T : TX) (m : Nat) (a1 a2 a5 a6 : Addr) (done : List Int) (h : Heap) (g : FG) : Prop where
  t : TextR S n h (T.at_ g)
  o1 : Own m 1 h ⟨some a1, 1, 1⟩ [.pointer (some T.p)]
  o2 : Own m 1 h ⟨some a2, 1, 1⟩ [slv g.ps]
  o5 : Own m 1 h ⟨some a5, 1, 1⟩ [i64v (g.A.length - (g.seg.flatMap (putF T.enc)).length : Nat)]
  o6 : Own m 1 h ⟨some a6, 1, 1⟩ [i64v g.seg.length]
  op : OwnPs m h g.ps (g.qs.map (·.1))
  dj : a1.block ≠ a2.block ∧ a1.block ≠ a5.block ∧ a1.block ≠ a6.block ∧ a2.block ≠ a5.block ∧ a2.block ≠ a6.block ∧ a5.block ≠ a6.block
  pd : ∀ b, g.ps.base = some b → b.block ≠ a1.block ∧ b.block ≠ a2.block ∧ b.block ≠ a5.block ∧ b.block ≠ a6.block ∧ ¬ g.Z b.block
  zd : ¬ g.Z a1.block ∧ ¬ g.Z a2.block ∧ ¬ g.Z a5.block ∧ ¬ g.Z a6.block
  zn : ∀ i, g.Z i → T.Z i ∨ m ≤ i
  pcs : ∀ q, q ∈ g.qs → PcR h (T.at_ g) q ∧ q.1.2.1 = -1
  all : g.A = T.A ++ done.flatMap (putF T.enc)
  put : bytesL g.qs ++ g.seg.flatMap (putF T.enc) = done.flatMap (putF T.enc)
  tks : toksL T.enc g.qs ++ g.seg.map (tk T.enc) = done.map (tk T.enc)
  fits : ∀ a, a ∈ done → 0 < sizeF T.enc a
  few : g.seg.length ≤ 128

theorem FrI.seg_le {n m : Nat} {T : TX} {a1 a2 a5 a6 : Addr} {done : List Int} {g : FG} (f : FrI S n T m a1 a2 a5 a6 done h g) : (g.seg.flatMap (putF T.enc)).length ≤ g.A.length := by
  rw [f.all, List.length_append, ← f.put, List.length_append]; omega
theorem FrI.drop {n m : Nat} {T : TX} {a1 a2 a5 a6 : Addr} {done : List Int} {g : FG} (f : FrI S n T m a1 a2 a5 a6 done h g) : g.A.drop (g.A.length - (g.seg.flatMap (putF T.enc)).length) = g.seg.flatMap (putF T.enc) := by
  have h1 : g.A = (T.A ++ bytesL g.qs) ++ g.seg.flatMap (putF T.enc) := by rw [f.all, ← f.put, List.append_assoc]
  have h2 : g.A.length - (g.seg.flatMap (putF T.enc)).length = (T.A ++ bytesL g.qs).length := by
    have := congrArg List.length h1
    rw [List.length_append (bs := g.seg.flatMap _)] at this; omega
  rw [h2]; conv => lhs; rw [h1]
  rw [List.drop_left' rfl]
theorem FrI.segfits {n m : Nat} {T : TX} {a1 a2 a5 a6 : Addr} {done : List Int} {g : FG} (f : FrI S n T m a1 a2 a5 a6 done h g) : ∀ a, a ∈ g.seg → 0 < sizeF T.enc a := fun a ha => by
  have h1 : tk T.enc a ∈ done.map (tk T.enc) := by rw [← f.tks]; exact List.mem_append_right _ (List.mem_map.2 ⟨a, ha, rfl⟩)
  obtain ⟨b, hb, e⟩ := List.mem_map.1 h1
  have : b = a := congrArg Prod.fst e
  rw [← this]; exact f.fits b hb
theorem FrI.ext {n m : Nat} {T : TX} {a1 a2 a5 a6 : Addr} {done : List Int} {g : FG} {h' : Heap} (f : FrI S n T m a1 a2 a5 a6 done h g) (e : Ext h h') : FrI S n T m a1 a2 a5 a6 done h' g :=
  { f with t := f.t.ext e, o1 := f.o1.ext e, o2 := f.o2.ext e, o5 := f.o5.ext e, o6 := f.o6.ext e, op := f.op.ext e, pcs := fun q hq => ⟨(f.pcs q hq).1.chg (Chg.of_ext (F := fun _ => False) e) fun _ _ x => x, (f.pcs q hq).2⟩ }
theorem put_le {enc : Int} {l : List Int} (hf : ∀ a, a ∈ l → 0 < sizeF enc a) : l.length ≤ (l.flatMap (putF enc)).length ∧ (l.flatMap (putF enc)).length ≤ 4 * l.length := by
  induction l with
  | nil => simp
  | cons a l ih =>
    have h1 := ih fun x hx => hf x (List.mem_cons_of_mem _ hx)
    have h2 := putF_len (hf a (List.mem_cons_self ..))
    have h3 := sizeF_le enc a
    have h4 := hf a (List.mem_cons_self ..)
    rw [List.flatMap_cons, List.length_append, List.length_cons]; omega
theorem upd_own {n size c d : Nat} {h' : Heap} {s : Sl} {b : Addr} {vs : List Value} (o : Own n size h s vs) (u : Upd ⟨some b, c, d⟩ h h') (hne : ∀ a, s.base = some a → b.block ≠ a.block) : Own n size h' s vs :=
  o.keep fun x hx => u.2.1 _ (o.lt hx).2 fun y hy => by cases hy; exact hne x hx
theorem upd_chg {c d : Nat} {b : Addr} {h' : Heap} (u : Upd ⟨some b, c, d⟩ h h') : Chg (fun i => i = b.block) h h' := Chg.of_upd u fun x hx _ => by cases hx; rfl

/-- shut: what was added since becomes a piece. -/
theorem c_shut (M : Meth0 P S) {n m : Nat} {T : TX} {a1 a2 a5 a6 : Addr} {done : List Int} {g : FG} {K : Unit → Prog} (f : FrI S n T m a1 a2 a5 a6 done h g) (hm : m ≤ h.size) (hsg : toks T.enc (g.seg.flatMap (putF T.enc)) = g.seg.map (tk T.enc))
    (hd : done.length ≤ 1099511627776) (hA : g.A.length ≤ 1099511627776)
    (hk : ∀ h' g', Keep m h h' → FrI S n T m a1 a2 a5 a6 done h' g' → g'.seg = [] → g'.Z = g.Z → g'.ad = g.ad → wp P (K ()) h' Q) : wp P (.call (F_Text_fresh_1 S (some a1) (some a5) (some a2) (some a6)) [] K) h Q := by
  have he : known T.enc := f.t.enc
  have hle := f.seg_le
  have hlen : g.ad.len = g.A.length := f.t.ad.len
  have hsl := put_le f.segfits
  show wp P (F_Text_fresh_1 S (some a1) (some a5) (some a2) (some a6)) h _
  unfold F_Text_fresh_1
  have c1 : Sw.cell h (a1.add 0) = some (.pointer (some T.p)) := cells_iff.1 f.o1.cells 0 _ rfl
  have c2 : ∀ {h'}, Ext h h' → Sw.cell h' (a2.add 0) = some (slv g.ps) := fun e => cells_iff.1 (f.o2.ext e).cells 0 _ rfl
  have c5 : Sw.cell h (a5.add 0) = some (i64v (g.A.length - (g.seg.flatMap (putF T.enc)).length : Nat)) := cells_iff.1 f.o5.cells 0 _ rfl
  rw [add_zero'] at c1 c5
  have lp : ∀ {K : Option Addr → Prog} {Q : Nat → List Value → Heap → Prop}, wp P (K (some T.p)) h Q → wp P (.load (.one .ptr) (some a1) K) h Q := fun hk => wp_load1 (b := .ptr) a1 (some T.p) rfl c1 hk
  have lad : ∀ {K : Sl → Prog} {Q : Nat → List Value → Heap → Prop}, wp P (K g.ad) h Q → wp P (grd (someB (some T.p)) <| grd (someB (some T.p)) <| .load (.one .sl) (shiftTo (some T.p) 3) K) h Q := fun hk => wp_grd rfl (wp_grd rfl (wp_load1 (b := .sl) (T.p.add 3) g.ad rfl f.t.c3 hk))
  have lfr : ∀ {K : Int → Prog} {Q : Nat → List Value → Heap → Prop}, wp P (K ((g.A.length - (g.seg.flatMap (putF T.enc)).length : Nat) : Int)) h Q → wp P (.load (.one (.int .i64)) (some a5) K) h Q := fun hk => wp_load1 (b := .int .i64) a5 _ rfl c5 hk
  have l2 : ∀ {K : Sl → Prog} {Q : Nat → List Value → Heap → Prop}, wp P (K g.ps) h Q → wp P (.load (.one .sl) (some a2) K) h Q := fun hk => wp_load1 (b := .sl) a2 g.ps rfl (by have := c2 (Ext.refl h); rwa [add_zero'] at this) hk
  refine lp (lad (lfr (wp_ifB (fun hc => ?_) fun hc => s_ret ⟨rfl, (), rfl, ?_⟩)))
  · rw [gtI_iff, natI_def, hlen] at hc
    have hne : 0 < (g.seg.flatMap (putF T.enc)).length := by omega
    generalize hfr : g.A.length - (g.seg.flatMap (putF T.enc)).length = fr at *
    have hdrop := f.drop
    rw [hfr] at hdrop
    have hto : toN (natI g.ad.len) = g.A.length := by rw [natI_def, toN_def, hlen]; omega
    have hfrN : toN ((fr : Nat) : Int) = fr := by rw [toN_def]; omega
    have hcap : g.ad.len ≤ g.ad.cap := f.t.ad.lst.cap
    have hmax : g.ad.cap < 2 ^ 63 := f.t.ad.lst.max
    refine l2 (lp (wp_grd rfl (wp_grd rfl (wp_load1 (b := .int .i64) (T.p.add 0) T.enc rfl f.t.c0 (lp (lad (lfr (s_grd (andB_iff.2 ⟨leB_ok (by rw [natI_def]; omega) (by rw [natI_def]; omega), andB_iff.2 ⟨leB_ok (by rw [natI_def]; omega) (by rw [hto, natI_def]; omega), leB_ok (by omega) (by rw [hto]; omega)⟩⟩) ?_))))))))
    rw [hto, hfrN]
    have hl0 : Lst .u8 h ⟨g.ad.base, g.A.length, g.A.length⟩ g.A := by
      have := (show OwnL n .u8 h g.ad g.A from f.t.ad).lst.take (n := g.A.length) (m := g.A.length) (Nat.le_refl _) (Nat.le_refl _) (by omega)
      rw [List.take_of_length_le (Nat.le_refl _)] at this
      exact this
    have hl1 := hl0.tail (i := fr) (by omega)
    dsimp only at hl1
    rw [hdrop] at hl1
    refine wp_call (c_newPart M he (tag := Int.negSucc 0) hl1 (by omega)) fun ⟨(y : Part), _⟩ h1 e1 hy => ?_
    have hy : y = _ := hy
    rw [hsg] at hy
    dsimp only
    have ck : ∀ {h'} {K : Prog} {Q : Nat → List Value → Heap → Prop}, Ext h h' → wp P K h' Q → wp P (.check (some a2) [slv g.ps] K) h' Q := fun e hk => s_check0 rfl (cells_iff.2 fun j v hj => by
      cases j with
      | zero => simp at hj; subst hj; exact c2 e
      | succ j => simp at hj) hk
    refine ck e1 (s_newO (bs := PB) y (by decide) fun h2 e2 o2 => ck (e1.trans e2) ?_)
    have e02 := e1.trans e2
    have f2 := f.ext e02
    have hnew : Rd 7 h2 ⟨some ⟨h1.size, 0, none⟩, 1, 1⟩ (cP [y]) := by
      rw [cP_one]
      exact ⟨by simp [Bs.inj], fun i v hi => ⟨_, rfl, cells_iff.1 o2.cells i v hi⟩⟩
    have hqn : g.qs.length ≤ done.length := by
      have h1 := congrArg List.length f.tks
      rw [List.length_append, List.length_map, List.length_map] at h1
      have : ∀ qs : List Pc, (∀ q, q ∈ qs → PcR h (T.at_ g) q) → qs.length ≤ (toksL T.enc qs).length := fun qs => by
        induction qs with
        | nil => intro _; exact Nat.le_refl _
        | cons q qs ih =>
          intro hq
          have h3 := ih fun x hx => hq x (List.mem_cons_of_mem _ hx)
          have h4 := hq q (List.mem_cons_self ..)
          have h5 := (toks_len (enc := T.enc) h4.bytes).2.1 h4.ne
          unfold toksL at h3 ⊢
          rw [List.flatMap_cons, List.length_append, List.length_cons]; omega
      have := this g.qs fun q hq => (f.pcs q hq).1
      omega
    have hpl := OwnPs.len f2.op
    rw [List.length_map] at hpl
    refine wp_append f2.op (by have := e02.size; omega) hnew (cP_flat _) rfl (by show (g.ps.len + 1) * 64 ≤ _; omega) (by show g.ps.len + 1 < _; omega) fun r h3 a3 b3 u3 d3 => ?_
    rw [← cP_append] at a3
    have k3 : Keep m h h3 := Keep.trans (e02.keep hm) (Upd.keep f2.op (by have := e02.size; omega) u3)
    have f2s := f2.t.lo
    -- what stays over the append
    have s3 : ∀ i, i < h2.size → (∀ b, g.ps.base = some b → b.block ≠ i) → h3[i]? = h2[i]? := u3.2.1
    have cg3 : Chg (fun i => ∃ b, g.ps.base = some b ∧ b.block = i) h2 h3 := Chg.of_upd u3 fun x hx _ => ⟨x, hx, rfl⟩
    have t3 : TextR S n h3 (T.at_ g) := f2.t.chg cg3 fun i hi ⟨b, hb, e⟩ => (f2.pd b hb).2.2.2.2 (e ▸ hi)
    have k1 : ∀ {c : Addr} {vs : List Value}, Own m 1 h2 ⟨some c, 1, 1⟩ vs → (∀ b, g.ps.base = some b → b.block ≠ c.block) → Own m 1 h3 ⟨some c, 1, 1⟩ vs := fun o hne => cg3.own o fun x hx ⟨b, hb, e⟩ => by cases hx; exact hne b hb e
    have o13 := k1 f2.o1 fun b hb => (f2.pd b hb).1
    have o23 := k1 f2.o2 fun b hb => (f2.pd b hb).2.1
    have o53 := k1 f2.o5 fun b hb => (f2.pd b hb).2.2.1
    have o63 := k1 f2.o6 fun b hb => (f2.pd b hb).2.2.2.1
    obtain ⟨d1, d2, d4, d5, d6, d7⟩ := f.dj
    have rlo : ∀ b, r.base = some b → b.block ≠ a1.block ∧ b.block ≠ a2.block ∧ b.block ≠ a5.block ∧ b.block ≠ a6.block ∧ ¬ g.Z b.block := fun b hb => by
      rcases d3 b hb with hx | hx
      · exact f2.pd b hx
      · have q1 := (f2.o1.lt rfl).2; have q2 := (f2.o2.lt rfl).2; have q5 := (f2.o5.lt rfl).2; have q6 := (f2.o6.lt rfl).2
        replace q1 : a1.block < h2.size := q1
        replace q2 : a2.block < h2.size := q2
        replace q5 : a5.block < h2.size := q5
        replace q6 : a6.block < h2.size := q6
        exact ⟨by omega, by omega, by omega, by omega, fun hz => by have : b.block < h2.size := (f2s _ hz).2; omega⟩
    refine s_putAll [slv r] o23 rfl (by intro v hv; rw [List.mem_singleton.1 hv]; rfl) fun h4 o24 u4 => s_putAll [i64v (natI g.ad.len)] (upd_own o53 u4 fun a ha => by cases ha; exact d5) rfl (by intro v hv; rw [List.mem_singleton.1 hv]; rfl) fun h5 o55 u5 => s_putAll [i64v 0] (upd_own (upd_own o63 u4 fun a ha => by cases ha; exact d6) u5 fun a ha => by cases ha; exact d7) rfl (by intro v hv; rw [List.mem_singleton.1 hv]; rfl) fun h6 o66 u6 => s_ret ⟨rfl, (), rfl, ?_⟩
    have cg46 : Chg (fun i => i = a2.block ∨ i = a5.block ∨ i = a6.block) h3 h6 := ((upd_chg u4).mono fun i _ e => .inl e).trans (((upd_chg u5).mono fun i _ e => .inr (.inl e)).trans ((upd_chg u6).mono fun i _ e => .inr (.inr e)) fun i _ x => x) fun i _ x => x
    have ma : m ≤ a2.block ∧ m ≤ a5.block ∧ m ≤ a6.block := ⟨(f.o2.lt rfl).1, (f.o5.lt rfl).1, (f.o6.lt rfl).1⟩
    obtain ⟨z1, z2, z5, z6⟩ := f.zd
    have t6 : TextR S n h6 (T.at_ g) := t3.chg cg46 fun i hi e => by rcases e with rfl | rfl | rfl <;> first | exact z2 hi | exact z5 hi | exact z6 hi
    have cg26 : Chg (fun i => ¬ g.Z i) h h6 := ((Chg.of_ext (F := fun i => ¬ g.Z i) e02).trans (cg3.mono fun i _ ⟨b, hb, e⟩ hz => (f2.pd b hb).2.2.2.2 (e ▸ hz)) fun i _ x => x).trans (cg46.mono fun i _ e hi => by rcases e with rfl | rfl | rfl <;> first | exact z2 hi | exact z5 hi | exact z6 hi) fun i _ x => x
    refine hk h6 { g with qs := g.qs ++ [(y, g.seg.flatMap (putF T.enc))], ps := r, seg := [] } (Keep.trans k3 (cg46.keep (by have := k3.1; omega) fun i hi e => by rcases e with rfl | rfl | rfl <;> omega)) ⟨t6, ?_, ?_, ?_, o66, ?_, f.dj, rlo, f.zd, f.zn, ?_, f.all, ?_, ?_, f.fits, by simp⟩ rfl rfl rfl
    · exact cg46.own o13 fun x hx e => by cases hx; rcases e with e | e | e <;> first | exact d1 e | exact d2 e | exact d4 e
    · exact upd_own (upd_own o24 u5 fun a ha => by cases ha; exact d5.symm) u6 fun a ha => by cases ha; exact d6.symm
    · have : natI g.ad.len = ((g.A.length - (([] : List Int).flatMap (putF T.enc)).length : Nat) : Int) := by rw [natI_def, hlen]; simp
      rw [this] at o55
      exact upd_own o55 u6 fun a ha => by cases ha; exact d7.symm
    · rw [List.map_append]
      exact cg46.own a3 fun x hx e => by rcases e with e | e | e <;> first | exact (rlo x hx).2.1 e | exact (rlo x hx).2.2.1 e | exact (rlo x hx).2.2.2.1 e
    · intro q hq
      rcases List.mem_append.1 hq with hq | hq
      · exact ⟨(f.pcs q hq).1.chg cg26 fun i hi hn => hn hi, (f.pcs q hq).2⟩
      · rw [List.mem_singleton.1 hq]
        have hbase : ∃ b, g.ad.base = some b := by
          cases hb : g.ad.base with
          | some b => exact ⟨b, rfl⟩
          | none =>
            obtain ⟨_, hq2, _, hq4⟩ := f.t.ad.own
            have hq4 : match g.ad.base with | none => g.ad.cap = 0 | some a => _ := hq4
            rw [hb] at hq4
            have hq4 : g.ad.cap = 0 := hq4
            omega
        obtain ⟨b, hb⟩ := hbase
        have hb0 : b.off = 0 ∧ b.spot = none := by
          obtain ⟨_, _, _, hq4⟩ := f.t.ad.own
          have hq4 : match g.ad.base with | none => g.ad.cap = 0 | some a => a.off = 0 ∧ a.spot = none ∧ _ := hq4
          rw [hb] at hq4
          exact ⟨hq4.1, hq4.2.1⟩
        have hcut : cutBase g.ad.base g.A.length fr 1 = some (b.add fr) := by
          unfold cutBase; rw [if_neg (by omega), hb]; simp
        refine ⟨⟨?_, hne, ?_, ?_, ?_, fun a ha => ?_⟩, by rw [hy]; rfl⟩
        · rw [hy]
          have : (mkP (⟨cutBase g.ad.base g.A.length fr 1, subN g.A.length fr, subN g.A.length fr⟩) (Int.negSucc 0) (List.map (tk T.enc) g.seg)).1 = ⟨cutBase g.ad.base g.A.length fr 1, subN g.A.length fr, subN g.A.length fr⟩ := rfl
          show Lst .u8 h6 (mkP _ _ _).1 _
          rw [this]
          refine cg26.lst hl1 fun x hx hn => hn ?_
          rw [hcut] at hx
          cases hx
          rw [add_block]
          exact f.t.za b hb
        · show y = mkP y.1 y.2.1 (toks T.enc _)
          rw [hy, hsg]; rfl
        · rw [hy]; have := f.few; show (-1 : Int) ≤ Int.negSucc 0 ∧ Int.negSucc 0 + ((g.seg.flatMap (putF T.enc)).length : Nat) ≤ 65536; omega
        · have := f.few
          show (g.seg.flatMap (putF T.enc)).length ≤ _; omega
        · have ha : cutBase g.ad.base g.A.length fr 1 = some a := by rw [hy] at ha; exact ha
          rw [hcut] at ha
          cases ha
          refine ⟨by rw [add_block]; exact f.t.za b hb, by rw [add_block]; exact f.t.adp b hb, fun b' hb' _ => ?_⟩
          refine ⟨add_spot hb0.2 _, ?_⟩
          rw [add_off, hb0.1]
          show 0 + fr + (g.seg.flatMap (putF T.enc)).length ≤ g.A.length
          omega
    · have : bytesL (g.qs ++ [(y, g.seg.flatMap (putF T.enc))]) = bytesL g.qs ++ g.seg.flatMap (putF T.enc) := by simp [bytesL]
      rw [this, ← f.put]; simp
    · have : toksL T.enc (g.qs ++ [(y, g.seg.flatMap (putF T.enc))]) = toksL T.enc g.qs ++ g.seg.map (tk T.enc) := by rw [← hsg]; simp [toksL]
      rw [this, ← f.tks]; simp
  · rw [gtI_not, natI_def, hlen] at hc
    have h0 : (g.seg.flatMap (putF T.enc)).length = 0 := by omega
    have hs : g.seg = [] := List.eq_nil_of_length_eq_zero (by omega)
    exact hk h g (Keep.refl _ _) f hs rfl rfl
end Go.Sw.Piece

set_option linter.unusedVariables false
set_option linter.unusedSimpArgs false
set_option maxRecDepth 100000
namespace Go.Sw.Piece
open Go.Sw.Any Go.Sw.Codec
open Go.Sw.Tree (iv s_putAll s_newP s_getP s_getT s_putP eqI_self Placed cell_own cell_upd1 wp_whileG minI_eq)
variable {P : Program} {S : Ids} {h : Heap} {Q : Nat → List Value → Heap → Prop}

/-- The blocks of a text that are written. -/
def wfoot (T : TX) (i : Nat) : Prop := i = T.p.block ∨ ∃ b, T.ad.base = some b ∧ b.block = i
theorem wfoot_Z {n : Nat} {T : TX} (t : TextR S n h T) {i : Nat} (hi : wfoot T i) : T.Z i := by
  rcases hi with rfl | ⟨b, hb, rfl⟩
  · exact t.zp
  · exact t.za b hb

/-- What holds between two atoms. -/
structure FrJ (S : Ids) (n : Nat) (T : TX) (h0 : Heap) (a1 a2 a5 a6 : Addr) (done : List Int) (h : Heap) (g : FG) : Prop where
  f : FrI S n T h0.size a1 a2 a5 a6 done h g
  c : Chg (wfoot T) h0 h
  zm : ∀ i, T.Z i → g.Z i
  adc : ∀ b, g.ad.base = some b → T.ad.base = some b ∨ h0.size ≤ b.block

theorem FrJ.ext {n : Nat} {T : TX} {h0 h' : Heap} {a1 a2 a5 a6 : Addr} {done : List Int} {g : FG} (j : FrJ S n T h0 a1 a2 a5 a6 done h g) (e : Ext h h') : FrJ S n T h0 a1 a2 a5 a6 done h' g := ⟨j.f.ext e, j.c.ext e, j.zm, j.adc⟩

/-- One atom more. -/
theorem c_more (M : Meth0 P S) {n : Nat} {T : TX} {h0 : Heap} {a1 a2 a5 a6 : Addr} {done : List Int} {g : FG} {a : Int} {K : Prog} (j : FrJ S n T h0 a1 a2 a5 a6 done h g) (hn : n ≤ h0.size) (hf : 0 < sizeF T.enc a) (hfi : fitsI .i64 a) (hA : g.A.length + 4 ≤ 1099511627780) (hseg : g.seg.length < 128)
    (hk : ∀ h' g', FrJ S n T h0 a1 a2 a5 a6 (done ++ [a]) h' g' → g'.seg = g.seg ++ [a] → g'.A.length ≤ g.A.length + 4 → wp P K h' Q) :
    wp P (.load (.one .ptr) (some a1) fun (p819 : Option Addr) => grd (someB p819) <| grd (someB p819) <| .load (.one (.int .i64)) (shiftTo p819 0) fun (n820 : Int) =>
      .alloc [i64v a] fun (a821 : Addr) => .call (F_codec_Encode S n820 ⟨some a821, 1, 1⟩) [.one .sl, .one (.int .i64), .one (.int .i64)] fun (r822 : Sl × Int × Int × Unit) =>
      .load (.one .ptr) (some a1) fun (p823 : Option Addr) => .load (.one .ptr) (some a1) fun (p824 : Option Addr) => grd (someB p824) <| grd (someB p824) <| .load (.one .sl) (shiftTo p824 3) fun (l825 : Sl) =>
      .append 1 1 [.int .u8 0] l825 r822.1 fun (l826 : Sl) => .check (some a1) [.pointer p823] <| grd (someB p823) <| grd (someB p823) <| .store (shiftTo p823 3) [slv l826] <|
      .load (.one (.int .i64)) (some a6) fun (n827 : Int) => .store (some a6) [i64v (addI .i64 n827 1)] K) h Q := by
  have f := j.f
  have he : known T.enc := f.t.enc
  have hlen := putF_len hf
  have h4 := sizeF_le T.enc a
  have lp : ∀ {h'} {K : Option Addr → Prog} {Q : Nat → List Value → Heap → Prop}, Ext h h' → wp P (K (some T.p)) h' Q → wp P (.load (.one .ptr) (some a1) K) h' Q := fun e hk => wp_load1 (b := .ptr) a1 (some T.p) rfl (by have := cells_iff.1 (f.o1.ext e).cells 0 _ rfl; rwa [add_zero'] at this) hk
  refine lp (Ext.refl h) (wp_grd rfl (wp_grd rfl (wp_load1 (b := .int .i64) (T.p.add 0) T.enc rfl f.t.c0 ?_)))
  refine s_allocL (k := .i64) [a] (by intro x hx; rw [List.mem_singleton.1 hx]; exact hfi) (by simp) fun h1 e1 o1 => ?_
  refine wp_call (c_Encode M o1.lst (by simp)) fun ⟨(y : Sl), (at_ : Int), (er : Int), _⟩ h2 e2 hy => ?_
  obtain ⟨oy, _, _⟩ := EncA.fits he (by intro b hb; rw [List.mem_singleton.1 hb]; exact hf) hy
  have oy : OwnL h1.size .u8 h2 y (putF T.enc a) := by simpa using oy
  dsimp only
  have e02 := e1.trans e2
  have f2 := f.ext e02
  refine lp e02 (lp e02 (wp_grd rfl (wp_grd rfl (wp_load1 (b := .sl) (T.p.add 3) g.ad rfl f2.t.c3 ?_))))
  have hn2 : n ≤ h2.size := Nat.le_trans hn (Nat.le_trans j.c.1 e02.size)
  refine s_appendE (show OwnL n .u8 h2 g.ad g.A from f2.t.ad) hn2 oy.lst (by omega) (by omega) fun r h3 k3 o3 u3 b3 c3 => ?_
  have lo := f2.t.lo
  have hz2 : ∀ c : Addr, ¬ g.Z c.block → ∀ b, g.ad.base = some b → b.block ≠ c.block := fun c hc b hb e => hc (e ▸ f2.t.za b hb)
  obtain ⟨z1, z2, z5, z6⟩ := f.zd
  obtain ⟨d1, d2, d4, d5, d6, d7⟩ := f.dj
  have cg3 : Chg (fun i => ∃ b, g.ad.base = some b ∧ b.block = i) h2 h3 := Chg.of_upd u3 fun x hx _ => ⟨x, hx, rfl⟩
  have k1 : ∀ {c : Addr} {vs : List Value}, Own h0.size 1 h2 ⟨some c, 1, 1⟩ vs → ¬ g.Z c.block → Own h0.size 1 h3 ⟨some c, 1, 1⟩ vs := fun o hne => cg3.own o fun x hx ⟨b, hb, e⟩ => by cases hx; exact hz2 _ hne b hb e
  have o13 := k1 f2.o1 z1
  have o23 := k1 f2.o2 z2
  have o53 := k1 f2.o5 z5
  have o63 := k1 f2.o6 z6
  have hp2 : T.p.block < h2.size := (lo _ f2.t.zp).2
  have op3 : Own n 1 h3 ⟨some T.p, 4, 4⟩ [i64v T.enc, i64v T.limit, .pointer T.cur.root, slv g.ad] := cg3.own (show Own n 1 h2 ⟨some T.p, 4, 4⟩ [i64v T.enc, i64v T.limit, .pointer T.cur.root, slv g.ad] from f2.t.ob) fun x hx ⟨b, hb, e⟩ => by cases hx; exact f2.t.adp b hb e
  refine s_check0 rfl (cells_iff.2 fun i v hi => by
    cases i with
    | zero => simp at hi; subst hi; exact cells_iff.1 o13.cells 0 _ rfl
    | succ i => simp at hi) (wp_grd rfl (wp_grd rfl (s_setC' (slv r) op3 (by simp) rfl fun h4 o4 u4 => ?_)))
  have o4 : Own n 1 h4 ⟨some T.p, 4, 4⟩ [i64v T.enc, i64v T.limit, .pointer T.cur.root, slv r] := o4
  obtain ⟨t4, pc4⟩ := text_add f2.t hn2 (by omega) o3 u3 b3 c3 o4 u4
  have zp : ∀ c : Addr, ¬ g.Z c.block → T.p.block ≠ c.block := fun c hc e => hc (e ▸ f.t.zp)
  have o14 := upd_own o13 u4 fun x hx => by cases hx; exact zp _ z1
  have o24 := upd_own o23 u4 fun x hx => by cases hx; exact zp _ z2
  have o54 := upd_own o53 u4 fun x hx => by cases hx; exact zp _ z5
  have o64 := upd_own o63 u4 fun x hx => by cases hx; exact zp _ z6
  have hfew := f.few
  refine wp_load1 (b := .int .i64) a6 _ rfl (by have := cells_iff.1 o64.cells 0 _ rfl; rwa [add_zero'] at this) ?_
  rw [add_ok (by omega) (by omega)]
  refine s_putAll [i64v ((g.seg.length : Int) + 1)] o64 rfl (by intro v hv; rw [List.mem_singleton.1 hv]; rfl) fun h5 o65 u5 => ?_
  have rz : ∀ b, r.base = some b → g.Z b.block ∨ h2.size ≤ b.block := fun b hb => (b3 b hb).imp (fun hx => f2.t.za b hx) id
  have old : ∀ c : Addr, c.block < h2.size → ¬ g.Z c.block → ¬ Zad g.Z r c.block := fun c hc hz hx => by
    rcases hx with hx | ⟨b, hb, e⟩
    · exact hz hx
    · rcases rz b hb with hy | hy
      · exact hz (e ▸ hy)
      · omega
  have q1 : a1.block < h2.size := (f2.o1.lt rfl).2
  have q2 : a2.block < h2.size := (f2.o2.lt rfl).2
  have q5 : a5.block < h2.size := (f2.o5.lt rfl).2
  have q6 : a6.block < h2.size := (f2.o6.lt rfl).2
  have z6' := old a6 q6 z6
  have cg5 : Chg (fun i => i = a6.block) h4 h5 := upd_chg u5
  let g' : FG := { ad := r, A := g.A ++ putF T.enc a, Z := Zad g.Z r, qs := g.qs, ps := g.ps, seg := g.seg ++ [a] }
  have t5 : TextR S n h5 (T.at_ g') := t4.chg cg5 fun i hi e => z6' (e ▸ hi)
  have hsl := f.seg_le
  have cg34 : Chg (fun i => i = T.p.block) h3 h4 := upd_chg u4
  refine hk h5 g' ⟨⟨t5, ?_, ?_, ?_, ?_, ?_, f.dj, fun b hb => ?_, ⟨old _ q1 z1, old _ q2 z2, old _ q5 z5, z6'⟩, fun i hi => ?_, fun q hq => ?_, ?_, ?_, ?_, ?_, ?_⟩, ?_, fun i hi => .inl (j.zm i hi), fun b hb => ?_⟩ rfl (by show (g.A ++ putF T.enc a).length ≤ _; rw [List.length_append]; omega)
  · exact upd_own o14 u5 fun x hx => by cases hx; exact d4.symm
  · exact upd_own o24 u5 fun x hx => by cases hx; exact d6.symm
  · have : ((g'.A.length - (g'.seg.flatMap (putF T.enc)).length : Nat)) = g.A.length - (g.seg.flatMap (putF T.enc)).length := by
      show (g.A ++ putF T.enc a).length - ((g.seg ++ [a]).flatMap (putF T.enc)).length = _
      rw [List.flatMap_append, List.length_append, List.length_append]; simp; omega
    rw [this]
    exact upd_own o54 u5 fun x hx => by cases hx; exact d7.symm
  · have : ((g'.seg.length : Nat) : Int) = (g.seg.length : Int) + 1 := by show (((g.seg ++ [a]).length : Nat) : Int) = _; rw [List.length_append]; simp
    rw [this]; exact o65
  · have p3 : OwnPs h0.size h3 g.ps (g.qs.map (·.1)) := cg3.own f2.op fun x hx ⟨b, hb, e⟩ => (f2.pd x hx).2.2.2.2 (e ▸ f2.t.za b hb)
    have p4 : OwnPs h0.size h4 g.ps (g.qs.map (·.1)) := cg34.own p3 fun x hx e => (f2.pd x hx).2.2.2.2 (e ▸ f2.t.zp)
    exact cg5.own p4 fun x hx e => (f2.pd x hx).2.2.2.1 e
  · obtain ⟨w1, w2, w3, w4, w5⟩ := f2.pd b hb
    have hb2 : b.block < h2.size := (f2.op.lt hb).2
    exact ⟨w1, w2, w3, w4, old b hb2 w5⟩
  · rcases hi with hi | ⟨b, hb, rfl⟩
    · exact f.zn i hi
    · rcases rz b hb with hy | hy
      · exact f.zn _ hy
      · have := j.c.1; have := e02.size; right; omega
  · have := pc4 q ((f.pcs q hq).1.chg (Chg.of_ext (F := fun _ => False) e02) fun _ _ x => x)
    exact ⟨PcR.chg this cg5 fun i hi e => z6' (e ▸ hi), (f.pcs q hq).2⟩
  · show g.A ++ putF T.enc a = _
    rw [f.all, List.flatMap_append, List.append_assoc]; simp
  · show bytesL g.qs ++ (g.seg ++ [a]).flatMap (putF T.enc) = _
    rw [List.flatMap_append, List.flatMap_append, ← f.put, List.append_assoc]
  · show toksL T.enc g.qs ++ (g.seg ++ [a]).map (tk T.enc) = _
    rw [List.map_append, List.map_append, ← f.tks, List.append_assoc]
  · intro b hb
    rcases List.mem_append.1 hb with hb | hb
    · exact f.fits b hb
    · rw [List.mem_singleton.1 hb]; exact hf
  · show (g.seg ++ [a]).length ≤ 128; rw [List.length_append]; simp; omega
  · have c25 : Chg (fun i => (∃ b, g.ad.base = some b ∧ b.block = i) ∨ i = T.p.block ∨ i = a6.block) h2 h5 := (cg3.mono fun i _ e => .inl e).trans ((cg34.mono fun i _ e => .inr (.inl e)).trans (cg5.mono fun i _ e => .inr (.inr e)) fun i _ x => x) fun i _ x => x
    refine (j.c.ext e02).trans c25 fun i hi hx => ?_
    rcases hx with ⟨b, hb, rfl⟩ | rfl | rfl
    · rcases j.adc b hb with hy | hy
      · exact .inr ⟨b, hy, rfl⟩
      · omega
    · exact .inl rfl
    · have : h0.size ≤ a6.block := (f.o6.lt rfl).1; omega
  · rcases b3 b hb with hy | hy
    · exact j.adc b hy
    · have := j.c.1; have := e02.size; right; omega

/-- What fresh answers. -/
structure FreshR (S : Ids) (n : Nat) (T : TX) (h0 : Heap) (l : List Int) (h : Heap) (g : FG) : Prop where
  t : TextR S n h (T.at_ g)
  op : OwnPs h0.size h g.ps (g.qs.map (·.1))
  pd : ∀ b, g.ps.base = some b → ¬ g.Z b.block
  zn : ∀ i, g.Z i → T.Z i ∨ h0.size ≤ i
  zm : ∀ i, T.Z i → g.Z i
  pcs : ∀ q, q ∈ g.qs → PcR h (T.at_ g) q ∧ q.1.2.1 = -1
  all : g.A = T.A ++ l.flatMap (putF T.enc)
  put : bytesL g.qs = l.flatMap (putF T.enc)
  tks : toksL T.enc g.qs = l.map (tk T.enc)
  adc : ∀ b, g.ad.base = some b → T.ad.base = some b ∨ h0.size ≤ b.block

theorem c_fresh (M : Meth0 P S) {n : Nat} {T : TX} {put : Sl} {l : List Int} (t : TextR S n h T) (hn : n ≤ h.size) (hp : Lst .i64 h put l) (hf : ∀ a, a ∈ l → 0 < sizeF T.enc a) (hA : T.A.length + 4 * l.length ≤ 1099511627776)
    (hz : l ≠ [] → ∀ a, put.base = some a → ¬ T.Z a.block) :
    wp P (F_Text_fresh S (some T.p) put) h fun tg vs h' => tg = 0 ∧ Chg (wfoot T) h h' ∧ ∃ g : FG, vs = [slv g.ps] ∧ FreshR S n T h l h' g := by
  unfold F_Text_fresh
  have hpl := hp.len
  refine fun el1 => ?_
  have e1 : Ext h (h.push (.cells [Value.pointer (some T.p)].toArray el1)) := Ext.push ..
  have o1 : Own h.size 1 (h.push (.cells [Value.pointer (some T.p)].toArray el1)) ⟨some ⟨h.size, 0, none⟩, 1, 1⟩ [.pointer (some T.p)] := own_alloc rfl (by decide) (by decide)
  have y1 : (h.push (.cells [Value.pointer (some T.p)].toArray el1)).size = h.size + 1 := by simp
  generalize h.push (.cells [Value.pointer (some T.p)].toArray el1) = h1 at e1 o1 y1 ⊢
  refine fun el2 => ?_
  have e2 : Ext h1 (h1.push (.cells [Value.slice none 0 0].toArray el2)) := Ext.push ..
  have o2 : Own h1.size 1 (h1.push (.cells [Value.slice none 0 0].toArray el2)) ⟨some ⟨h1.size, 0, none⟩, 1, 1⟩ [.slice none 0 0] := own_alloc rfl (by decide) (by decide)
  have y2 : (h1.push (.cells [Value.slice none 0 0].toArray el2)).size = h1.size + 1 := by simp
  generalize h1.push (.cells [Value.slice none 0 0].toArray el2) = h2 at e2 o2 y2 ⊢
  have t2 := t.ext (e1.trans e2)
  refine wp_load1 (b := .ptr) ⟨h.size, 0, none⟩ (some T.p) rfl (by have := cells_iff.1 (o1.ext e2).cells 0 _ rfl; rwa [add_zero'] at this) (wp_grd rfl (wp_grd rfl (wp_load1 (b := .sl) (T.p.add 3) T.ad rfl t2.c3 ?_)))
  have hal : T.ad.len = T.A.length := t.ad.len
  refine fun el3 => ?_
  have e3 : Ext h2 (h2.push (.cells [i64v 0].toArray el3)) := Ext.push ..
  have o3 : Own h2.size 1 (h2.push (.cells [i64v 0].toArray el3)) ⟨some ⟨h2.size, 0, none⟩, 1, 1⟩ [i64v 0] := own_alloc rfl (by decide) (by decide)
  have y3 : (h2.push (.cells [i64v 0].toArray el3)).size = h2.size + 1 := by simp
  generalize h2.push (.cells [i64v 0].toArray el3) = h3 at e3 o3 y3 ⊢
  refine s_putAll [i64v (natI T.ad.len)] o3 rfl (by intro v hv; rw [List.mem_singleton.1 hv]; rfl) fun h4 o4 u4 => ?_
  have e24 : Ext h2 h4 := Upd.extN e3 u4 (by intro x hx; cases hx; exact Nat.le_refl _)
  have y4 : h3.size ≤ h4.size := u4.1
  refine fun el5 => ?_
  have e5 : Ext h4 (h4.push (.cells [i64v 0].toArray el5)) := Ext.push ..
  have o5 : Own h4.size 1 (h4.push (.cells [i64v 0].toArray el5)) ⟨some ⟨h4.size, 0, none⟩, 1, 1⟩ [i64v 0] := own_alloc rfl (by decide) (by decide)
  generalize h4.push (.cells [i64v 0].toArray el5) = h5 at e5 o5 ⊢
  refine s_putAll [i64v 0] o5 rfl (by intro v hv; rw [List.mem_singleton.1 hv]; rfl) fun h6 o6 u6 => ?_
  have e46 : Ext h4 h6 := Upd.extN e5 u6 (by intro x hx; cases hx; exact Nat.le_refl _)
  have e06 : Ext h h6 := ((e1.trans e2).trans e24).trans e46
  have e26 : Ext h2 h6 := e24.trans e46
  have lo := t.lo
  have J0 : FrJ S n T h ⟨h.size, 0, none⟩ ⟨h1.size, 0, none⟩ ⟨h2.size, 0, none⟩ ⟨h4.size, 0, none⟩ [] h6 { ad := T.ad, A := T.A, Z := T.Z, qs := [], ps := ⟨none, 0, 0⟩, seg := [] } := by
    refine ⟨⟨t.ext e06, o1.ext (e2.trans e26), (o2.ext e26).mono (by omega), ?_, o6.mono (by omega), ⟨by simp [cP], by simp, (by decide : 0 < 2 ^ 63), rfl⟩, ⟨by dsimp only; omega, by dsimp only; omega, by dsimp only; omega, by dsimp only; omega, by dsimp only; omega, by dsimp only; omega⟩, fun b hb => (by cases hb), ⟨fun hz => by have : h.size < h.size := (lo _ hz).2; omega, fun hz => by have : h1.size < h.size := (lo _ hz).2; omega, fun hz => by have : h2.size < h.size := (lo _ hz).2; omega, fun hz => by have : h4.size < h.size := (lo _ hz).2; omega⟩, fun i hi => .inl hi, fun q hq => (by cases hq), by simp, by simp [bytesL], by simp [toksL], fun a ha => (by cases ha), by simp⟩, Chg.of_ext e06, fun i hi => hi, fun b hb => .inl hb⟩
    have : ((T.A.length - (([] : List Int).flatMap (putF T.enc)).length : Nat) : Int) = natI T.ad.len := by rw [natI_def, hal]; simp
    show Own h.size 1 h6 _ [i64v _]
    rw [this]
    exact (o4.mono (by omega)).ext e46
  have hb1 : (⟨h.size, 0, none⟩ : Addr).block = h.size := rfl
  generalize (⟨h.size, 0, none⟩ : Addr) = A1 at J0 ⊢
  generalize (⟨h1.size, 0, none⟩ : Addr) = A2 at J0 ⊢
  generalize (⟨h2.size, 0, none⟩ : Addr) = A5 at J0 ⊢
  generalize (⟨h4.size, 0, none⟩ : Addr) = A6 at J0 ⊢
  have hsg : ∀ {g : FG} {done : List Int} {h' : Heap}, FrI S n T h.size A1 A2 A5 A6 done h' g → (∀ a, a ∈ g.seg → scalarF a) → toks T.enc (g.seg.flatMap (putF T.enc)) = g.seg.map (tk T.enc) := fun f hs => toks_puts t.enc fun a ha => ⟨f.segfits a ha, hs a ha⟩
  have hAle : ∀ {g : FG} {j : Nat} {h' : Heap}, FrI S n T h.size A1 A2 A5 A6 (l.take j) h' g → g.A.length ≤ 1099511627776 := fun {g j h'} f => by
    have h1 := (put_le (enc := T.enc) (l := l.take j) fun a ha => hf a (List.mem_of_mem_take ha)).2
    rw [f.all, List.length_append]
    rw [List.length_take] at h1; omega
  have hput : ∀ {h' : Heap}, Chg (wfoot T) h h' → Lst .i64 h' put l := fun c => c.lst0 hp fun hne x hx hw => hz hne x hx (wfoot_Z t hw)
  refine wp_while (fun (s : Int × Unit) h' => ∃ (j : Nat) (g : FG), s.1 = j ∧ j ≤ l.length ∧ FrJ S n T h A1 A2 A5 A6 (l.take j) h' g ∧ ∀ a, a ∈ g.seg → scalarF a) (fun s _ => ((l.length : Int) - s.1).toNat)
    (fun tg vs h' => tg = 2 ∧ vs = [] ∧ ∃ g, FrJ S n T h A1 A2 A5 A6 l h' g ∧ ∀ a, a ∈ g.seg → scalarF a) ⟨0, _, rfl, Nat.zero_le _, J0, fun a ha => (by cases ha)⟩ ?_ ?_
  · rintro ⟨(i' : Int), u⟩ h7 ⟨j, g, hj, hjl, J, hs⟩
    dsimp only at hj ⊢
    subst hj
    refine wp_ifB (fun hc => ?_) fun hc => ?_
    · rw [ltI_iff, natI_def, hpl] at hc
      have hjlt : j < l.length := by omega
      have htk : l.take (j + 1) = l.take j ++ [l[j]] := by rw [List.take_add_one, List.getElem?_eq_getElem hjlt]; rfl
      have hfa := hf _ (List.getElem_mem hjlt)
      refine wp_bind (fun tg vs h' => tg = 0 ∧ vs = [] ∧ ∃ g, FrJ S n T h A1 A2 A5 A6 (l.take (j + 1)) h' g ∧ ∀ a, a ∈ g.seg → scalarF a) ?_ ?_
      · refine s_at (hput J.c) (by omega) (by omega) fun hfi => ?_
        rw [show ((j : Int)).toNat = j by omega] at hfi ⊢
        have hge : l.getD j 0 = l[j] := by rw [List.getD_eq_getElem?_getD, List.getElem?_eq_getElem hjlt]; rfl
        rw [hge] at hfi ⊢
        generalize l[j] = a at htk hfa hfi ⊢
        have hu := (fits_iff T.enc a).1 hfa
        have hpl : (0 ≤ a ∧ (a < 55296 ∨ 57343 < a)) ↔ scalarF a := by unfold scalarF; omega
        refine bind_bool (scalarF a) ?_ fun pl h8 e8 hb => ?_
        · refine wp_ifB (fun hx => wp_ifB (fun hy => s_ret ⟨rfl, Ext.refl _, true, rfl, ?_⟩) fun hy => s_ret ⟨rfl, Ext.refl _, _, rfl, ?_⟩) fun hx => s_ret ⟨rfl, Ext.refl _, false, rfl, ?_⟩
          · rw [geI_iff] at hx; rw [ltI_iff] at hy; rw [← hpl]; exact Iff.intro (fun _ => ⟨hx, .inl hy⟩) fun _ => rfl
          · rw [geI_iff] at hx; rw [ltI_not] at hy; rw [gtI_iff, ← hpl]; omega
          · rw [geI_not] at hx; rw [← hpl]; exact Iff.intro (fun h => by cases h) fun h => by omega
        dsimp only
        have J8 := J.ext e8
        have hA8 := hAle J8.f
        refine wp_bind (fun tg vs h' => tg = 0 ∧ vs = [] ∧ ∃ g, FrJ S n T h A1 A2 A5 A6 (l.take j) h' g ∧ (∀ a, a ∈ g.seg → scalarF a) ∧ g.seg.length < 128 ∧ (¬ scalarF a → g.seg = [])) ?_ ?_
        · refine bind_bool (¬ scalarF a ∨ g.seg.length = 128) ?_ fun bb h9 e9 hb9 => wp_ifB (fun hx => ?_) fun hx => s_ret ⟨rfl, rfl, g, J8.ext e9, hs, ?_, ?_⟩
          · refine wp_ifB (fun hx => s_ret ⟨rfl, Ext.refl _, true, rfl, ?_⟩) fun hx => wp_load1 (b := .int .i64) A6 _ rfl (by have := cells_iff.1 J8.f.o6.cells 0 _ rfl; rwa [add_zero'] at this) (s_ret ⟨rfl, Ext.refl _, _, rfl, ?_⟩)
            · rw [notB_iff] at hx
              exact Iff.intro (fun _ => .inl fun k => by rw [hb.2 k] at hx; cases hx) fun _ => rfl
            · rw [notB_not] at hx
              have := hb.1 hx
              rw [eqI_iff]
              exact ⟨fun h => .inr (by omega), fun h => by rcases h with h | h; exact absurd this h; omega⟩
          · have J9 := J8.ext e9
            refine c_shut M J9.f J9.c.1 (hsg J9.f hs) (by rw [List.length_take]; omega) hA8 fun h10 g' k10 f10 hs10 hz10 had => s_ret ⟨rfl, rfl, g', ⟨f10, ?_, ?_, ?_⟩, ?_, ?_, fun _ => hs10⟩
            · exact J9.c.trans (G := fun i => h.size ≤ i) ⟨k10.1, fun i hi hn => k10.2.1 i (by omega), k10.2.2⟩ fun i hi hg => by omega
            · rw [hz10]; exact J9.zm
            · rw [had]; exact J9.adc
            · rw [hs10]; intro a ha; cases ha
            · rw [hs10]; simp
          · have := J8.f.few
            have : ¬ g.seg.length = 128 := fun k => by rw [hb9.2 (.inr k)] at hx; cases hx
            omega
          · intro k; rw [hb9.2 (.inl k)] at hx; cases hx
        rintro tg vs h9 ⟨rfl, rfl, g9, J9, hs9, hl9, hn9⟩
        refine s_tag (s_cast0 ?_)
        have hA9 := hAle J9.f
        refine c_more M J9 hn hfa hfi (by omega) hl9 fun h10 g10 J10 hseg hA10 => ?_
        rw [← htk] at J10
        refine wp_ifB (fun hx => ?_) fun hx => s_ret ⟨rfl, rfl, g10, J10, ?_⟩
        · rw [notB_iff] at hx
          have hns : ¬ scalarF a := fun k => by rw [hb.2 k] at hx; cases hx
          have hsg10 : toks T.enc (g10.seg.flatMap (putF T.enc)) = g10.seg.map (tk T.enc) := by
            rw [hseg, hn9 hns]
            have := toks_one t.enc hfa hns
            simpa using this
          refine c_shut M J10.f J10.c.1 hsg10 (by rw [List.length_take]; omega) (hAle J10.f) fun h11 g' k11 f11 hs11 hz11 had => s_ret ⟨rfl, rfl, g', ⟨f11, ?_, ?_, ?_⟩, ?_⟩
          · exact J10.c.trans (G := fun i => h.size ≤ i) ⟨k11.1, fun i hi hn => k11.2.1 i (by omega), k11.2.2⟩ fun i hi hg => by omega
          · rw [hz11]; exact J10.zm
          · rw [had]; exact J10.adc
          · rw [hs11]; intro a ha; cases ha
        · rw [notB_not] at hx
          have hsc := hb.1 hx
          rw [hseg]
          intro b hb
          rcases List.mem_append.1 hb with hb | hb
          · exact hs9 b hb
          · rw [List.mem_singleton.1 hb]; exact hsc
      · rintro tg vs h8 ⟨rfl, rfl, g8, J8, hs8⟩
        refine s_tag (s_cast0 ?_)
        rw [add_ok (by omega) (by omega)]
        exact s_ret ⟨fun _ => ⟨((j : Int) + 1, ()), rfl, ⟨j + 1, g8, rfl, by omega, J8, hs8⟩, by dsimp only; omega⟩, fun h => absurd rfl h⟩
    · rw [ltI_not, natI_def, hpl] at hc
      rw [List.take_of_length_le (by omega)] at J
      exact s_ret ⟨fun h => absurd h (by decide), fun _ => ⟨rfl, rfl, g, J, hs⟩⟩
  · rintro tg vs h7 ⟨rfl, rfl, g, J, hs⟩
    have hAl : g.A.length ≤ 1099511627776 := hAle (j := l.length) (by rw [List.take_of_length_le (Nat.le_refl _)]; exact J.f)
    refine s_tag (s_cast0 (c_shut M J.f J.c.1 (hsg J.f hs) (by omega) hAl fun h8 g' k8 f8 hs8 hz8 had => ?_))
    refine wp_load1 (b := .sl) A2 g'.ps rfl (by have := cells_iff.1 f8.o2.cells 0 _ rfl; rwa [add_zero'] at this) (s_ret ⟨rfl, ?_, g', rfl, ⟨f8.t, f8.op, fun b hb => (f8.pd b hb).2.2.2.2, f8.zn, ?_, f8.pcs, f8.all, ?_, ?_, ?_⟩⟩)
    · exact J.c.trans (G := fun i => h.size ≤ i) ⟨k8.1, fun i hi hn => k8.2.1 i (by omega), k8.2.2⟩ fun i hi hg => by omega
    · rw [hz8]; exact J.zm
    · have := f8.put; rw [hs8] at this; simpa using this
    · have := f8.tks; rw [hs8] at this; simpa using this
    · rw [had]; exact J.adc
end Go.Sw.Piece

set_option linter.unusedVariables false
set_option linter.unusedSimpArgs false
set_option maxRecDepth 100000
namespace Go.Sw.Piece
open Go.Sw.Any Go.Sw.Codec
open Go.Sw.Tree (iv s_putAll s_newP s_getP s_getT s_putP eqI_self Placed cell_own cell_upd1 wp_whileG minI_eq)
variable {P : Program} {S : Ids} {h : Heap} {Q : Nat → List Value → Heap → Prop}

def headPc (enc : Int) (q : Pc) (n : Nat) : Pc := (headP enc q.1 q.2 n, q.2.take (offs ((toks enc q.2).take n)))
def tailPc (enc : Int) (q : Pc) (n : Nat) : Pc := (tailP enc q.1 q.2 n, q.2.drop (offs ((toks enc q.2).take n)))
theorem elsP_head {enc : Int} {q : Pc} (hb : isBytes q.2) {n : Nat} (hn : n ≤ (toks enc q.2).length) : elsP enc (headPc enc q n) = (elsP enc q).take n := by
  unfold elsP headPc
  dsimp only
  rw [toks_take hb n hn, elsF_take]; rfl
theorem elsP_tail {enc : Int} {q : Pc} (hb : isBytes q.2) {n : Nat} (hn : n ≤ (toks enc q.2).length) : elsP enc (tailPc enc q n) = (elsP enc q).drop n := by
  unfold elsP tailPc
  dsimp only
  rw [(toks_at hb n hn).2, elsF_drop]
  show elsF (tagF q.1.2.1 _) 0 _ = _
  rw [elsF_tag]
theorem offs_pos {ts : List (Int × Int)} (h : okT ts) (hl : 0 < ts.length) : 0 < offs ts := by
  cases ts with
  | nil => simp at hl
  | cons t ts => have := h t (List.mem_cons_self ..); rw [offs_cons]; omega
theorem PcR.base {T : TX} {q : Pc} (r : PcR h T q) : ∃ a, q.1.1.base = some a := by
  obtain ⟨a, e, _⟩ := r.lst.rd.at (i := 0) r.ne
  exact ⟨a, e⟩
theorem PcR.head {T : TX} {q : Pc} (r : PcR h T q) {n : Nat} (h0 : 0 < n) (hn : n ≤ (toks T.enc q.2).length) : PcR h T (headPc T.enc q n) := by
  have hb := r.bytes
  have okt := okT_toks (enc := T.enc) hb
  have hk := (toks_at (enc := T.enc) hb n hn).1.le hb
  have hpos := offs_pos (okt.take n) (by rw [List.length_take]; omega)
  have htt := toks_take (enc := T.enc) hb n hn
  have hlen := r.lst.len
  have hcap := r.lst.cap
  have hmax := r.lst.max
  have htag := r.tag
  have hl := r.len
  unfold headPc headP
  generalize hkk : offs ((toks T.enc q.2).take n) = k at *
  have hlt : (q.2.take k).length = k := by rw [List.length_take]; omega
  refine ⟨r.lst.take hk (Nat.le_refl _) (by omega), by dsimp only; omega, ?_, ?_, by dsimp only; omega, fun a ha => ?_⟩
  · dsimp only; rw [htt]; rfl
  · dsimp only; rw [hlt]
    show -1 ≤ q.1.2.1 ∧ q.1.2.1 + (k : Int) ≤ 65536
    omega
  · obtain ⟨b1, b2, b3⟩ := r.blk a ha
    refine ⟨b1, b2, fun b hb hab => ?_⟩
    obtain ⟨b4, b5⟩ := b3 b hb hab
    exact ⟨b4, by dsimp only; omega⟩
theorem PcR.tail {T : TX} {q : Pc} (r : PcR h T q) {n : Nat} (hn : n < (toks T.enc q.2).length) : PcR h T (tailPc T.enc q n) := by
  have hb := r.bytes
  have okt := okT_toks (enc := T.enc) hb
  have hk := (toks_at (enc := T.enc) hb n (by omega)).1.le hb
  have htd := (toks_at (enc := T.enc) hb n (by omega)).2
  have hoff := toks_offs (enc := T.enc) hb
  have hsp := offs_append ((toks T.enc q.2).take n) ((toks T.enc q.2).drop n)
  rw [List.take_append_drop] at hsp
  have hpos := offs_pos (okt.drop n) (by rw [List.length_drop]; omega)
  have hlen := r.lst.len
  have hcap := r.lst.cap
  have hmax := r.lst.max
  have htag := r.tag
  have hl := r.len
  unfold tailPc tailP
  generalize hkk : offs ((toks T.enc q.2).take n) = k at *
  have hlt : (q.2.drop k).length = q.2.length - k := List.length_drop
  obtain ⟨a0, ha0⟩ := r.base
  have hcut : cutBase q.1.1.base q.1.1.cap k 1 = some (a0.add k) := by unfold cutBase; rw [if_neg (by omega), ha0]; simp
  refine ⟨r.lst.tail (i := k) hk, by dsimp only; omega, ?_, ?_, by dsimp only; omega, fun a ha => ?_⟩
  · dsimp only; rw [htd]; rfl
  · dsimp only; rw [hlt]
    show -1 ≤ tagF q.1.2.1 k ∧ tagF q.1.2.1 k + ((q.2.length - k : Nat) : Int) ≤ 65536
    unfold tagF; split <;> omega
  · have ha : cutBase q.1.1.base q.1.1.cap k 1 = some a := ha
    rw [hcut] at ha
    cases ha
    obtain ⟨b1, b2, b3⟩ := r.blk a0 ha0
    rw [add_block]
    refine ⟨b1, b2, fun b hb hab => ?_⟩
    obtain ⟨b4, b5⟩ := b3 b hb hab
    refine ⟨add_spot b4 _, ?_⟩
    rw [add_off]
    show a0.off + k + (q.2.drop k).length ≤ _
    omega

theorem els_append (enc : Int) (a b : List Pc) : els enc (a ++ b) = els enc a ++ els enc b := by simp [els]
theorem els_one (enc : Int) (q : Pc) : els enc [q] = elsP enc q := by simp [els]
theorem els_split {enc : Int} {ps : List Pc} {i : Nat} {q : Pc} (hq : ps[i]? = some q) : els enc ps = els enc (ps.take i) ++ elsP enc q ++ els enc (ps.drop (i + 1)) := by
  have hlt := (List.getElem?_eq_some_iff.1 hq).1
  have he := (List.getElem?_eq_some_iff.1 hq).2
  have h2 : ps = ps.take i ++ [q] ++ ps.drop (i + 1) := by
    rw [← he, List.append_assoc]
    show ps = ps.take i ++ (ps[i] :: ps.drop (i + 1))
    rw [← List.drop_eq_getElem_cons hlt, List.take_append_drop]
  conv => lhs; rw [h2]
  rw [els_append, els_append, els_one]
theorem elsP_len (enc : Int) (q : Pc) : (elsP enc q).length = (toks enc q.2).length := elsF_len ..
/-- What is ahead of an offset, what is behind it. -/
theorem els_take {enc : Int} {ps : List Pc} {at_ : Int} {i n : Nat} (f : FindR enc ps at_ i n) (h0 : 0 ≤ at_) : (els enc ps).take at_.toNat = els enc (ps.take i) ++ (match ps[i]? with | some q => (elsP enc q).take n | none => []) ∧
    (els enc ps).drop at_.toNat = (match ps[i]? with | some q => (elsP enc q).drop n | none => []) ++ els enc (ps.drop (i + 1)) ∧ (∀ q, ps[i]? = some q → n ≤ (toks enc q.2).length) := by
  obtain ⟨f1, f2, f3, f4⟩ := f
  have hat : at_.toNat = (els enc (ps.take i)).length + n := by rw [els_len]; omega
  cases hq : ps[i]? with
  | none =>
    by_cases h : 0 < at_
    · obtain ⟨q, hq', _⟩ := f4 h; rw [hq] at hq'; cases hq'
    · obtain ⟨rfl, rfl⟩ := f3 (by omega)
      have : ps = [] := by
        cases ps with
        | nil => rfl
        | cons q ps => simp at hq
      subst this
      exact ⟨by simp [els], by simp [els], fun q hq => (by cases hq)⟩
  | some q =>
    have hn : n ≤ (elsP enc q).length := by
      rw [elsP_len]
      by_cases h : 0 < at_
      · obtain ⟨q', hq', _, h3⟩ := f4 h; rw [hq] at hq'; cases hq'; exact h3
      · obtain ⟨_, rfl⟩ := f3 (by omega); exact Nat.zero_le _
    have hs := els_split (enc := enc) hq
    refine ⟨?_, ?_, fun q' hq' => by cases hq'; rw [← elsP_len]; exact hn⟩
    · rw [hs, hat, List.append_assoc, List.take_append, List.take_of_length_le (by omega), Nat.add_sub_cancel_left, List.take_append_of_le_length hn]
    · rw [hs, hat, List.append_assoc, List.drop_append, List.drop_of_length_le (by omega), Nat.add_sub_cancel_left, List.drop_append_of_le_length hn, List.nil_append]
theorem find_mono {enc : Int} {ps : List Pc} {a b : Int} {i n j m : Nat} (f : FindR enc ps a i n) (g : FindR enc ps b j m) (h0 : 0 ≤ a) (hab : a ≤ b) : i ≤ j := by
  obtain ⟨f1, f2, f3, f4⟩ := f
  obtain ⟨g1, g2, g3, g4⟩ := g
  by_cases ha : 0 < a
  · obtain ⟨q, hq, n0, n1⟩ := f4 ha
    obtain ⟨r, hr, m0, m1⟩ := g4 (by omega)
    by_cases hij : i ≤ j
    · exact hij
    · have h1 := toksL_succ (enc := enc) hr
      have h2 : (toksL enc (ps.take (j + 1))).length ≤ (toksL enc (ps.take i)).length := by
        have : ps.take (j + 1) = (ps.take i).take (j + 1) := by rw [List.take_take, Nat.min_eq_left (by omega)]
        rw [this]; exact toksL_take_le _ _
      rw [h1, List.length_append] at h2
      omega
  · have := (f3 (by omega)).1; omega

/-- The atoms tell all. -/
theorem elsF_fst (tag : Int) : ∀ (ts : List (Int × Int)) (o : Nat), (elsF tag o ts).map (·.1) = ts.map (·.1)
  | [], _ => rfl
  | t :: ts, o => by simp only [elsF, List.map_cons, elsF_fst tag ts]
theorem els_fst (enc : Int) : ∀ (ps : List Pc), (els enc ps).map (·.1) = (toksL enc ps).map (·.1)
  | [] => rfl
  | q :: ps => by
    have := els_fst enc ps
    unfold els toksL at this ⊢
    rw [List.flatMap_cons, List.flatMap_cons, List.map_append, List.map_append, this]
    unfold elsP; rw [elsF_fst]
theorem toksL_els {enc : Int} (he : known enc) : ∀ {ps : List Pc}, (∀ q, q ∈ ps → isBytes q.2) → toksL enc ps = ((els enc ps).map (·.1)).map (tk enc) ∧ bytesL ps = ((els enc ps).map (·.1)).flatMap (putF enc) ∧ ∀ a, a ∈ (els enc ps).map (·.1) → 0 < sizeF enc a
  | [], _ => ⟨rfl, rfl, fun a ha => (by cases ha)⟩
  | q :: ps, hb => by
    have hq := toks_is he (hb q (List.mem_cons_self ..))
    obtain ⟨i1, i2, i3⟩ := toksL_els he (ps := ps) fun x hx => hb x (List.mem_cons_of_mem _ hx)
    have e : els enc (q :: ps) = elsP enc q ++ els enc ps := by simp [els]
    have e1 : (elsP enc q).map (·.1) = (toks enc q.2).map (·.1) := by unfold elsP; rw [elsF_fst]
    have e2 : toks enc q.2 = ((toks enc q.2).map (·.1)).map (tk enc) := by
      rw [List.map_map]
      conv => lhs; rw [← List.map_id (toks enc q.2)]
      refine List.map_congr_left fun t ht => ?_
      show t = (t.1, sizeF enc t.1)
      rw [← (hq.1 t ht).2]
    rw [e, List.map_append, List.map_append, List.flatMap_append, e1]
    refine ⟨?_, ?_, fun a ha => ?_⟩
    · rw [← e2, ← i1]; simp [toksL]
    · rw [← i2, List.flatMap_map, hq.2]; simp [bytesL]
    · rcases List.mem_append.1 ha with ha | ha
      · obtain ⟨t, ht, rfl⟩ := List.mem_map.1 ha
        exact (hq.1 t ht).1
      · exact i3 a ha
theorem elsP_new {enc : Int} {q : Pc} (h : q.1.2.1 = -1) : elsP enc q = (toks enc q.2).map fun t => (t.1, -1) := by
  unfold elsP
  rw [h]
  have : ∀ (ts : List (Int × Int)) (o : Nat), elsF (-1) o ts = ts.map fun t => (t.1, -1) := by
    intro ts
    induction ts with
    | nil => intro o; rfl
    | cons t ts ih => intro o; simp only [elsF, List.map_cons, ih]; rw [if_pos (by decide)]
  exact this _ _
theorem els_new {enc : Int} : ∀ {qs : List Pc}, (∀ q, q ∈ qs → q.1.2.1 = -1) → els enc qs = (toksL enc qs).map fun t => (t.1, -1)
  | [], _ => rfl
  | q :: qs, h => by
    have := els_new (enc := enc) (qs := qs) fun x hx => h x (List.mem_cons_of_mem _ hx)
    unfold els toksL at this ⊢
    rw [List.flatMap_cons, List.flatMap_cons, List.map_append, this, elsP_new (h q (List.mem_cons_self ..))]

/-- A text behind a change. -/
structure Nxt (T T' : TX) (m : Nat) : Prop where
  p : T'.p = T.p
  enc : T'.enc = T.enc
  limit : T'.limit = T.limit
  kept : T'.kept = T.kept
  zm : ∀ i, T.Z i → T'.Z i
  zn : ∀ i, T'.Z i → T.Z i ∨ m ≤ i
  adc : ∀ b, T'.ad.base = some b → T.ad.base = some b ∨ m ≤ b.block
theorem Nxt.refl (T : TX) (m : Nat) : Nxt T T m := ⟨rfl, rfl, rfl, rfl, fun _ h => h, fun _ h => .inl h, fun _ h => .inl h⟩
theorem Nxt.trans {T T' T'' : TX} {m m' : Nat} (a : Nxt T T' m) (b : Nxt T' T'' m') (hm : m ≤ m') : Nxt T T'' m :=
  ⟨b.p.trans a.p, b.enc.trans a.enc, b.limit.trans a.limit, b.kept.trans a.kept, fun i hi => b.zm i (a.zm i hi), fun i hi => (b.zn i hi).elim (a.zn i) fun h => .inr (Nat.le_trans hm h),
    fun x hx => (b.adc x hx).elim (a.adc x) fun h => .inr (Nat.le_trans hm h)⟩
theorem Nxt.foot {T T' : TX} {m i : Nat} (a : Nxt T T' m) (hi : wfoot T' i) : wfoot T i ∨ m ≤ i := by
  rcases hi with rfl | ⟨b, hb, rfl⟩
  · rw [a.p]; exact .inl (.inl rfl)
  · exact (a.adc b hb).imp (fun h => .inr ⟨b, h, rfl⟩) id
end Go.Sw.Piece

set_option linter.unusedVariables false
set_option linter.unusedSimpArgs false
set_option maxRecDepth 100000
namespace Go.Sw.Piece
open Go.Sw.Any Go.Sw.Codec
open Go.Sw.Tree (iv s_putAll s_newP s_getP s_getT s_putP eqI_self Placed cell_own cell_upd1 wp_whileG minI_eq)
variable {P : Program} {S : Ids} {h : Heap} {Q : Nat → List Value → Heap → Prop}

theorem wp_callW {m : Prog} {tys : List Ty} {K : Ts.den tys → Prog} {R : Nat → List Value → Heap → Prop} (g : wp P m h R) (hk : ∀ t vs h', R t vs h' → t = 0 ∧ ∃ x, vs = Ts.inj tys x ∧ wp P (K x) h' Q) : wp P (.call m tys K) h Q := wp_mono m hk g
theorem its_own {n : Nat} {Z : Nat → Prop} {s : Sl} {l : List Part} (o : OwnPs n h s l) (hw : ∀ x, x ∈ l → VS (wtP x) (sumP x)) : Its (part S Z) h s l := ⟨o.rd, o.2.1, o.2.2.1, hw⟩
/-- Few pieces: no more than bytes. -/
theorem pcs_le {T : TX} : ∀ {ps : List Pc}, (∀ q, q ∈ ps → PcR h T q) → ps.length ≤ (bytesL ps).length
  | [], _ => Nat.le_refl _
  | q :: ps, hq => by
    have h1 := pcs_le (ps := ps) fun x hx => hq x (List.mem_cons_of_mem _ hx)
    have h2 := (hq q (List.mem_cons_self ..)).ne
    unfold bytesL at h1 ⊢
    rw [List.flatMap_cons, List.length_append, List.length_cons]; omega
theorem bytesL_append (a b : List Pc) : bytesL (a ++ b) = bytesL a ++ bytesL b := by simp [bytesL]
theorem bytes_sub {ps qs : List Pc} (hs : qs.Sublist ps) : (bytesL qs).length ≤ (bytesL ps).length := by
  induction hs with
  | slnil => exact Nat.le_refl _
  | cons q hs ih => unfold bytesL at ih ⊢; rw [List.flatMap_cons, List.length_append]; omega
  | cons_cons q hs ih => unfold bytesL at ih ⊢; rw [List.flatMap_cons, List.flatMap_cons, List.length_append, List.length_append]; omega

/-- The state with another tree. -/
theorem set_state {n : Nat} {T : TX} {h2 : Heap} {m : Nat} {root : Option Addr} {t' : Bt Part} {ps' : List Pc} (t : TextR S n h T) (hm : ∀ i, T.Z i → i < m) (hmh : n ≤ m ∧ m ≤ h.size)
    (nd : Nd (part S fun i => T.Z i ∨ m ≤ i) h root t') (ls : t'.list = ps'.map (·.1)) (pcs : ∀ q, q ∈ ps' → PcR h T q) (small : (bytesL ps').length ≤ 1099511627776)
    (o2 : Own n 1 h2 ⟨some T.p, 4, 4⟩ [i64v T.enc, i64v T.limit, .pointer root, slv T.ad]) (u2 : Upd ⟨some T.p, 4, 4⟩ h h2) :
    TextR S n h2 { T with cur := ⟨root, t', ps'⟩, Z := fun i => (T.Z i ∨ m ≤ i) ∧ i < h2.size } := by
  have hp : T.p.block < h.size := (t.lo _ t.zp).2
  have hpe : (⟨T.p.block, 0, none⟩ : Addr) = T.p := by
    obtain ⟨_, _, _, o4⟩ := t.ob
    obtain ⟨e0, e1, _⟩ := o4
    show (⟨T.p.block, 0, none⟩ : Addr) = ⟨T.p.block, T.p.off, T.p.spot⟩
    rw [e0, e1]
  have ku : ∀ b, (⟨some T.p, 4, 4⟩ : Sl).base = some b → ∃ k x, Sw.cell h ⟨b.block, 0, none⟩ = some (.int k x) := fun b hb => by
    cases hb
    have c := t.c0
    rw [add_zero'] at c
    rw [hpe]; exact ⟨_, _, c⟩
  have hs2 := u2.1
  have pc : ∀ {q}, PcR h T q → PcR h2 { T with cur := ⟨root, t', ps'⟩, Z := fun i => (T.Z i ∨ m ≤ i) ∧ i < h2.size } q := fun {q} pq =>
    ⟨pq.lst.blocks fun a ha hl => u2.2.1 _ hl fun b hb => by cases hb; exact fun e => (pq.blk a ha).2.1 e.symm, pq.ne, pq.is, pq.tag, pq.len, fun a ha => ⟨⟨.inl (pq.blk a ha).1, by have := (t.lo _ (pq.blk a ha).1).2; omega⟩, (pq.blk a ha).2⟩⟩
  have st : ∀ {s}, StR S h T s → StR S h2 { T with cur := ⟨root, t', ps'⟩, Z := fun i => (T.Z i ∨ m ≤ i) ∧ i < h2.size } s := fun {s} hs => ⟨part_mono (hs.nd.updK u2 ku) fun i hi hz => ⟨.inl hz, hi⟩, hs.ls, fun q hq => pc (hs.pcs q hq), hs.small⟩
  refine ⟨t.enc, t.lim, o2, t.ad.upd u2 fun a b ha hb => by cases hb; exact fun e => t.adp a ha e.symm, t.adp, t.adk, ⟨part_mono (nd.updK u2 ku) fun i hi hz => ⟨hz, hi⟩, ls, fun q hq => pc (pcs q hq), small⟩, fun s hs => st (t.kept s hs), ⟨.inl t.zp, show T.p.block < h2.size by omega⟩, fun b hb => ⟨.inl (t.za b hb), by have := (t.lo _ (t.za b hb)).2; omega⟩, fun i hi => ?_⟩
  obtain ⟨hi | hi, hlt⟩ := hi
  · exact ⟨(t.lo i hi).1, hlt⟩
  · exact ⟨by omega, hlt⟩

/-- The pieces ahead of an offset that are cut, and behind it. -/
def leftL (enc : Int) (ps : List Pc) (i n : Nat) : List Pc := match ps[i]? with | some q => if 0 < n then [headPc enc q n] else [] | none => []
def rightL (enc : Int) (ps : List Pc) (j m : Nat) : List Pc := match ps[j]? with | some q => if m < (toks enc q.2).length then [tailPc enc q m] else [] | none => []

theorem c_replace (M : Meth0 P S) {n : Nat} {T : TX} {from_ to : Int} {put : Sl} {l : List Int} (t : TextR S n h T) (hn : n ≤ h.size) (hp : Lst .i64 h put l) (hf : ∀ a, a ∈ l → 0 < sizeF T.enc a) (hA : T.A.length + 4 * l.length ≤ 1099511627776)
    (hz : l ≠ [] → ∀ a, put.base = some a → ¬ T.Z a.block) (h0 : 0 ≤ from_) (h1 : from_ ≤ to) (h2 : to ≤ (els T.enc T.cur.ps).length) (hroom : (bytesL T.cur.ps).length + 4 * l.length ≤ 500000000000) :
    wp P (F_Text_replace S (some T.p) from_ to put) h fun tg vs h' => tg = 0 ∧ vs = [] ∧ Chg (wfoot T) h h' ∧ ∃ T', TextR S n h' T' ∧ Nxt T T' h.size ∧ T'.A = T.A ++ l.flatMap (putF T.enc) ∧
      els T.enc T'.cur.ps = (els T.enc T.cur.ps).take from_.toNat ++ l.map (fun a => (a, -1)) ++ (els T.enc T.cur.ps).drop to.toNat := by
  unfold F_Text_replace
  have htl : (toksL T.enc T.cur.ps).length = (els T.enc T.cur.ps).length := (els_len ..).symm
  have hpsl := pcs_le t.cur.pcs
  have hput := put_le hf
  refine wp_call (c_find t h0 (by omega)) fun ⟨(i' : Int), (n' : Int), _⟩ ha ea ⟨i, ni, hi, hni, fi⟩ => wp_call (c_find (t.ext ea) (by omega) (by omega)) fun ⟨(j' : Int), (m' : Int), _⟩ hb eb ⟨j, mj, hj, hmj, fj⟩ => ?_
  have hi : i' = i := hi
  have hni : n' = ni := hni
  have hj : j' = j := hj
  have hmj : m' = mj := hmj
  subst hi; subst hni; subst hj; subst hmj
  dsimp only
  have hij := find_mono fi fj h0 h1
  obtain ⟨eT, _, hniq⟩ := els_take fi h0
  obtain ⟨_, eD, hmjq⟩ := els_take fj (by omega : 0 ≤ to)
  have e0b := ea.trans eb
  have tb := t.ext e0b
  have O : ∀ Z, (part S Z).Ok P := fun Z => part_ok S Z
  have hil := fi.1
  have hjl := fj.1
  have hbT := t.cur.bytes
  have hleft : ∀ q, q ∈ leftL T.enc T.cur.ps i ni → PcR h T q := fun q hq => by
    unfold leftL at hq
    cases hqi : T.cur.ps[i]? with
    | none => rw [hqi] at hq; cases hq
    | some x =>
      rw [hqi] at hq
      dsimp only at hq
      split at hq
      · rw [List.mem_singleton.1 hq]; exact (t.cur.pcs x (List.mem_of_getElem? hqi)).head (by omega) (hniq x hqi)
      · cases hq
  -- the piece ahead
  refine wp_bind (fun tg vs h' => tg = 0 ∧ Ext hb h' ∧ ∃ s, vs = [slv s] ∧ OwnPs hb.size h' s ((leftL T.enc T.cur.ps i ni).map (·.1))) ?_ ?_
  · cases hq : T.cur.ps[i]? with
    | none =>
      have hll : leftL T.enc T.cur.ps i ni = [] := by unfold leftL; rw [hq]
      refine s_root tb (wp_call (R := fun (y : Part × Bool × Unit) _ => y.1 = zP ∧ y.2.1 = false) (c_AtNo (O T.Z) tb.cur.nd (Nat.le_of_lt (tb.cur.room tb.lim.2)) (by omega) (.inr ?_)) fun ⟨(y : Part), (ok : Bool), _⟩ h5 e5 ⟨hy, hok⟩ => ?_)
      · have h1 : T.cur.t.list.length ≤ i := by rw [t.cur.ls, List.length_map]; exact List.getElem?_eq_none_iff.1 hq
        show ((List.length T.cur.t.list : Nat) : Int) ≤ _
        omega
      · have hok : ok = false := hok
        subst hok
        dsimp only
        refine s_newO (bs := PB) zP (by decide) fun h6 e6 o6 => s_stoO (bs := PB) y o6 (flatP _) fun h7 o7 u7 => ?_
        have e57 : Ext hb h7 := Upd.extN (e5.trans e6) u7 (by intro x hx; cases hx; exact e5.size)
        refine bind_bool False (s_ifF (s_ret ⟨rfl, Ext.refl _, false, rfl, Iff.intro (fun h => by cases h) False.elim⟩)) fun bb h8 e8 hb8 => wp_ifB (fun hx => (hb8.1 hx).elim) fun _ => s_ret ⟨rfl, e57.trans e8, ⟨none, 0, 0⟩, rfl, ?_⟩
        rw [hll]; exact Own.nil _ _ _
    | some q =>
      have hx : T.cur.t.list[((i : Int)).toNat]? = some q.1 := by rw [Int.toNat_natCast, t.cur.ls, List.getElem?_map, hq]; rfl
      refine s_root tb (wp_call (R := fun (y : Part × Bool × Unit) _ => y.1 = q.1 ∧ y.2.1 = true) (c_At (O T.Z) tb.cur.nd tb.cur.wf (Nat.le_of_lt (tb.cur.room tb.lim.2)) (by omega) hx) fun ⟨(y : Part), (ok : Bool), _⟩ h5 e5 ⟨hy, hok⟩ => ?_)
      have hok : ok = true := hok
      have hy : y = q.1 := hy
      subst hok; subst hy
      dsimp only
      refine s_newO (bs := PB) zP (by decide) fun h6 e6 o6 => s_stoO (bs := PB) q.1 o6 (flatP _) fun h7 o7 u7 => ?_
      have e57 : Ext hb h7 := Upd.extN (e5.trans e6) u7 (by intro x hx; cases hx; exact e5.size)
      have t7 := tb.ext e57
      have hqm := List.mem_of_getElem? hq
      refine bind_bool (0 < ni) (s_ifT (s_ret ⟨rfl, Ext.refl _, _, rfl, by rw [gtI_iff]; omega⟩)) fun bb h8 e8 hb8 => wp_ifB (fun hx => ?_) fun hx => ?_
      · have hpos := hb8.1 hx
        have hll : leftL T.enc T.cur.ps i ni = [headPc T.enc q ni] := by unfold leftL; rw [hq]; dsimp only; rw [if_pos hpos]
        have t8 := t7.ext e8
        have pc := t8.cur.pcs q hqm
        refine wp_bind (fun tg vs h' => tg = 0 ∧ Ext h8 h' ∧ ∃ A : Addr, vs = [.pointer (some A)] ∧ OwnP h8.size h' A (headP T.enc q.1 q.2 ni)) ?_ ?_
        · refine c_cutB M (fin := fun A B => .ret 0 [.pointer (some A)]) t8 (x := q.1) (bs := q.2) pc (o7.ext e8) (by omega) (by have := hniq q hq; omega) fun h9 A B e9 oA oB => s_ret ⟨rfl, e9, A, rfl, ?_⟩
          rw [Int.toNat_natCast] at oA; exact oA
        · rintro tg vs h9 ⟨rfl, e9, A, rfl, oA⟩
          refine s_tag (wp_cast (tys := [.one .ptr]) (some A, ()) rfl ?_)
          dsimp only
          refine s_getO (bs := PB) oA ?_
          have e09 := (e57.trans e8).trans e9
          refine wp_push (n := hb.size) (old := []) (new := Bs.inj PB (headP T.enc q.1 q.2 ni)) (Own.nil _ _ _) e09.size rfl (flatP _) rfl (by decide) (by decide) fun r h10 a10 b10 u10 d10 => s_ret ⟨rfl, ?_, r, rfl, ?_⟩
          · exact Upd.extN e09 u10 (by intro x hx; cases hx)
          · rw [hll]
            show Own hb.size 7 h10 r (cP [headP T.enc q.1 q.2 ni])
            rw [cP_one]; simpa using a10
      · have hll : leftL T.enc T.cur.ps i ni = [] := by unfold leftL; rw [hq]; dsimp only; rw [if_neg fun k => by rw [hb8.2 k] at hx; cases hx]
        refine s_ret ⟨rfl, e57.trans e8, ⟨none, 0, 0⟩, rfl, ?_⟩
        rw [hll]; exact Own.nil _ _ _
  rintro tg vs hc ⟨rfl, ec, s, rfl, os⟩
  refine s_tag (wp_cast (tys := [.one .sl]) (s, ()) rfl ?_)
  dsimp only
  have e0c := e0b.trans ec
  have tc := t.ext e0c
  have hnc : n ≤ hc.size := Nat.le_trans hn e0c.size
  -- what is put
  refine wp_callW (c_fresh M tc hnc (hp.ext e0c) hf hA hz) fun tg vs h' hx => ?_
  obtain ⟨rfl, cd, g, rfl, F⟩ := hx
  refine ⟨rfl, (g.ps, ()), rfl, ?_⟩
  dsimp only
  have td := F.t
  have cT : Chg (wfoot T) h h' := Chg.pre e0c cd
  have hs0 : ∀ {x : Addr}, hb.size ≤ x.block → ¬ wfoot T x.block := fun {x} hx hw => by have := (tb.lo _ (wfoot_Z tb hw)).2; omega
  have osd : OwnPs hb.size h' s ((leftL T.enc T.cur.ps i ni).map (·.1)) := cd.own os fun x hx hw => hs0 (os.lt hx).1 hw
  have hll1 : (leftL T.enc T.cur.ps i ni).length ≤ 1 := by unfold leftL; split; split <;> simp; simp
  have hsl := OwnPs.len os
  rw [List.length_map] at hsl
  have hgl := OwnPs.len F.op
  rw [List.length_map] at hgl
  have hqn : g.qs.length ≤ 4 * l.length := by
    have h1 := pcs_le fun q hq => (F.pcs q hq).1
    rw [F.put] at h1; omega
  refine wp_append osd (Nat.le_trans ec.size cd.1) F.op.rd (cP_flat _) rfl (by show (s.len + g.ps.len) * 64 ≤ _; omega) (by omega) fun r1 he a1 b1 u1 d1 => ?_
  rw [← cP_append, ← List.map_append] at a1
  have ce : Chg (fun i => ∃ b, s.base = some b ∧ b.block = i) h' he := Chg.of_upd u1 fun x hx _ => ⟨x, hx, rfl⟩
  have snz : ∀ b, s.base = some b → ¬ g.Z b.block := fun b hb hz => by
    have h1 := (os.lt hb)
    rcases F.zn _ hz with hx | hx
    · have := (tb.lo _ hx).2; omega
    · omega
  have te : TextR S n he (T.at_ g) := td.chg ce fun i hi ⟨b, hb, e⟩ => snz b hb (e ▸ hi)
  have pcsE : ∀ q, q ∈ g.qs → PcR he (T.at_ g) q := fun q hq => (F.pcs q hq).1.chg ce fun i hi ⟨b, hb, e⟩ => snz b hb (e ▸ hi)
  have r1nz : ∀ b, r1.base = some b → ¬ g.Z b.block ∧ hb.size ≤ b.block := fun b hb => by
    refine ⟨fun hz => ?_, (a1.lt hb).1⟩
    rcases d1 b hb with hx | hx
    · exact snz b hx hz
    · have := (td.lo _ hz).2; omega
  -- the piece behind
  refine wp_bind (fun tg vs h' => tg = 0 ∧ Chg (fun i => ∃ b, r1.base = some b ∧ b.block = i) he h' ∧ ∃ r2, vs = [slv r2] ∧ OwnPs hb.size h' r2 ((leftL T.enc T.cur.ps i ni ++ g.qs ++ rightL T.enc T.cur.ps j mj).map (·.1)) ∧ ∀ b, r2.base = some b → ¬ g.Z b.block) ?_ ?_
  · cases hq : T.cur.ps[j]? with
    | none =>
      have hrr : rightL T.enc T.cur.ps j mj = [] := by unfold rightL; rw [hq]
      refine s_root (T := T.at_ g) te (wp_call (R := fun (y : Part × Bool × Unit) _ => y.1 = zP ∧ y.2.1 = false) (c_AtNo (O g.Z) te.cur.nd (Nat.le_of_lt (te.cur.room te.lim.2)) (by omega) (.inr ?_)) fun ⟨(y : Part), (ok : Bool), _⟩ h5 e5 ⟨hy, hok⟩ => ?_)
      · have h1 : T.cur.t.list.length ≤ j := by rw [t.cur.ls, List.length_map]; exact List.getElem?_eq_none_iff.1 hq
        show ((List.length T.cur.t.list : Nat) : Int) ≤ _
        omega
      · have hok : ok = false := hok
        subst hok
        dsimp only
        refine s_newO (bs := PB) zP (by decide) fun h6 e6 o6 => s_stoO (bs := PB) y o6 (flatP _) fun h7 o7 u7 => ?_
        have e57 : Ext he h7 := Upd.extN (e5.trans e6) u7 (by intro x hx; cases hx; exact e5.size)
        refine s_ifF (s_ret ⟨rfl, Chg.of_ext e57, r1, rfl, ?_, fun b hb => (r1nz b hb).1⟩)
        rw [hrr, List.append_nil]; exact a1.ext e57
    | some q =>
      have hx : T.cur.t.list[((j : Int)).toNat]? = some q.1 := by rw [Int.toNat_natCast, t.cur.ls, List.getElem?_map, hq]; rfl
      refine s_root (T := T.at_ g) te (wp_call (R := fun (y : Part × Bool × Unit) _ => y.1 = q.1 ∧ y.2.1 = true) (c_At (O g.Z) te.cur.nd te.cur.wf (Nat.le_of_lt (te.cur.room te.lim.2)) (by omega) hx) fun ⟨(y : Part), (ok : Bool), _⟩ h5 e5 ⟨hy, hok⟩ => ?_)
      have hok : ok = true := hok
      have hy : y = q.1 := hy
      subst hok; subst hy
      dsimp only
      refine s_newO (bs := PB) zP (by decide) fun h6 e6 o6 => s_stoO (bs := PB) q.1 o6 (flatP _) fun h7 o7 u7 => s_ifT ?_
      have e57 : Ext he h7 := Upd.extN (e5.trans e6) u7 (by intro x hx; cases hx; exact e5.size)
      have t7 := te.ext e57
      have hqm := List.mem_of_getElem? hq
      have pc := t7.cur.pcs q hqm
      have hmq := hmjq q hq
      refine wp_bind (fun tg vs h' => tg = 0 ∧ Ext h7 h' ∧ ∃ B : Addr, vs = [.pointer (some B)] ∧ OwnP h7.size h' B (tailP T.enc q.1 q.2 mj)) ?_ ?_
      · refine c_cutB M (T := T.at_ g) (fin := fun A B => .ret 0 [.pointer (some B)]) t7 (x := q.1) (bs := q.2) pc o7 (by omega) (show ((mj : Nat) : Int) ≤ ((toks T.enc q.2).length : Nat) by omega) fun h9 A B e9 oA oB => s_ret ⟨rfl, e9, B, rfl, ?_⟩
        rw [Int.toNat_natCast] at oB; exact oB
      · rintro tg vs h9 ⟨rfl, e9, B, rfl, oB⟩
        refine s_tag (wp_cast (tys := [.one .ptr]) (some B, ()) rfl ?_)
        dsimp only
        have e09 := e57.trans e9
        have okt := okT_toks (enc := T.enc) (hbT q hqm)
        have hcell : Sw.cell h9 ((B.add 2).add 0) = some (i64v ((toks T.enc q.2).drop mj).length) := by
          rw [add_zero']
          have := cells_iff.1 oB.cells 2 _ rfl
          rw [this]
          show some (Value.int .i64 (sumT ((toks T.enc q.2).drop mj)).1) = _
          rw [(sumT_is (okt.drop mj)).1]
        refine wp_grd rfl (wp_grd rfl (wp_load1 (b := .int .i64) ((B.add 2).add 0) _ rfl hcell (wp_ifB (fun hx => ?_) fun hx => ?_)))
        · rw [gtI_iff, List.length_drop] at hx
          have hrr : rightL T.enc T.cur.ps j mj = [tailPc T.enc q mj] := by unfold rightL; rw [hq]; dsimp only; rw [if_pos (by omega)]
          refine s_getO (bs := PB) oB ?_
          have hr1 := OwnPs.len a1
          rw [List.length_map, List.length_append] at hr1
          refine wp_push (n := hb.size) (new := Bs.inj PB (tailP T.enc q.1 q.2 mj)) (a1.ext e09) (Nat.le_trans (Nat.le_trans ec.size cd.1) (Nat.le_trans ce.1 e09.size)) rfl (flatP _) rfl (by show (r1.len + 1) * 64 ≤ _; omega) (by omega) fun r2 h10 a10 b10 u10 d10 => s_ret ⟨rfl, ?_, r2, rfl, ?_, fun b hb => ?_⟩
          · exact (Chg.of_ext e09).trans (Chg.of_upd u10 fun x hx _ => ⟨x, hx, rfl⟩) fun i _ x => x
          · rw [hrr, List.map_append]
            show Own hb.size 7 h10 r2 (cP (_ ++ [tailP T.enc q.1 q.2 mj]))
            rw [cP_append, cP_one]; exact a10
          · rcases d10 b hb with hx | hx
            · exact (r1nz b hx).1
            · intro hz; have := (te.lo _ hz).2; have := e09.size; omega
        · rw [gtI_not, List.length_drop] at hx
          have hrr : rightL T.enc T.cur.ps j mj = [] := by unfold rightL; rw [hq]; dsimp only; rw [if_neg (by omega)]
          refine s_ret ⟨rfl, Chg.of_ext e09, r1, rfl, ?_, fun b hb => (r1nz b hb).1⟩
          rw [hrr, List.append_nil]; exact a1.ext e09
  rintro tg vs hf ⟨rfl, cf, r2, rfl, a2, z2⟩
  refine s_tag (wp_cast (tys := [.one .sl]) (r2, ()) rfl ?_)
  dsimp only
  have tf : TextR S n hf (T.at_ g) := te.chg cf fun i hi ⟨b, hb, e⟩ => (r1nz b hb).1 (e ▸ hi)
  have pcsF : ∀ q, q ∈ g.qs → PcR hf (T.at_ g) q := fun q hq => (pcsE q hq).chg cf fun i hi ⟨b, hb, e⟩ => (r1nz b hb).1 (e ▸ hi)
  have hright : ∀ q, q ∈ rightL T.enc T.cur.ps j mj → PcR hf (T.at_ g) q := fun q hq => by
    unfold rightL at hq
    cases hqi : T.cur.ps[j]? with
    | none => rw [hqi] at hq; cases hq
    | some x =>
      rw [hqi] at hq
      dsimp only at hq
      split at hq
      · rename_i hlt
        rw [List.mem_singleton.1 hq]
        exact PcR.tail (T := T.at_ g) (tf.cur.pcs x (List.mem_of_getElem? hqi)) hlt
      · cases hq
  have hleftF : ∀ q, q ∈ leftL T.enc T.cur.ps i ni → PcR hf (T.at_ g) q := fun q hq => by
    unfold leftL at hq
    cases hqi : T.cur.ps[i]? with
    | none => rw [hqi] at hq; cases hq
    | some x =>
      rw [hqi] at hq
      dsimp only at hq
      split at hq
      · rename_i hlt
        rw [List.mem_singleton.1 hq]
        exact PcR.head (T := T.at_ g) (tf.cur.pcs x (List.mem_of_getElem? hqi)) hlt (hniq x hqi)
      · cases hq
  have hmid : ∀ q, q ∈ leftL T.enc T.cur.ps i ni ++ g.qs ++ rightL T.enc T.cur.ps j mj → PcR hf (T.at_ g) q := fun q hq => by
    rcases List.mem_append.1 hq with hq | hq
    · rcases List.mem_append.1 hq with hq | hq
      · exact hleftF q hq
      · exact pcsF q hq
    · exact hright q hq
  have hsize : T.cur.t.list.length = T.cur.ps.length := by rw [t.cur.ls, List.length_map]
  refine s_root (T := T.at_ g) tf (s_root (T := T.at_ g) tf (wp_call (R := fun (x : Int × Unit) _ => x.1 = ((T.cur.t.list.length : Nat) : Int)) (Any.c_Size (I := part S g.Z) tf.cur.nd) fun ⟨(sz : Int), _⟩ hg eg hsz => ?_))
  have hsz : sz = _ := hsz
  rw [hsize] at hsz
  subst hsz
  dsimp only
  have tg := tf.ext eg
  refine s_ckC tg.c2 ?_
  rw [add_ok (by omega) (by omega), minI_eq]
  have hJ : min ((j : Int) + 1) (T.cur.ps.length : Int) = ((min (j + 1) T.cur.ps.length : Nat) : Int) := by omega
  rw [hJ]
  -- the tree
  let Z2 : Nat → Prop := fun i => g.Z i ∨ hg.size ≤ i
  have hfr : Fresh (part S Z2) hg := fun i hi => .inr hi
  have nd2 : Nd (part S Z2) hg T.cur.root T.cur.t := part_mono tg.cur.nd fun i _ hi => .inl hi
  have hwM : ∀ x, x ∈ (leftL T.enc T.cur.ps i ni ++ g.qs ++ rightL T.enc T.cur.ps j mj).map (·.1) → VS (wtP x) (sumP x) := fun x hx => by
    obtain ⟨q, hq, rfl⟩ := List.mem_map.1 hx
    exact (hmid q hq).wt.2
  have its : Its (part S Z2) hg r2 ((leftL T.enc T.cur.ps i ni ++ g.qs ++ rightL T.enc T.cur.ps j mj).map (·.1)) := its_own (a2.ext eg) hwM
  have hWm := W_ps hmid
  have hmb : (bytesL (leftL T.enc T.cur.ps i ni ++ g.qs ++ rightL T.enc T.cur.ps j mj)).length ≤ 131072 + 4 * l.length := by
    have h1 : (bytesL (leftL T.enc T.cur.ps i ni)).length ≤ 65536 := by
      unfold leftL
      split
      · rename_i q hq
        split
        · have := (t.cur.pcs q (List.mem_of_getElem? hq)).len
          show (bytesL [headPc T.enc q ni]).length ≤ _
          unfold bytesL headPc; simp only [List.flatMap_cons, List.flatMap_nil, List.append_nil, List.length_take]; omega
        · simp [bytesL]
      · simp [bytesL]
    have h2 : (bytesL (rightL T.enc T.cur.ps j mj)).length ≤ 65536 := by
      unfold rightL
      split
      · rename_i q hq
        split
        · have := (t.cur.pcs q (List.mem_of_getElem? hq)).len
          show (bytesL [tailPc T.enc q mj]).length ≤ _
          unfold bytesL tailPc; simp only [List.flatMap_cons, List.flatMap_nil, List.append_nil, List.length_drop]; omega
        · simp [bytesL]
      · simp [bytesL]
    rw [bytesL_append, bytesL_append, List.length_append, List.length_append, F.put]; omega
  have hmt := (toksL_le (enc := T.enc) fun q hq => (hmid q hq).bytes).1
  have hfew := (t.cur.few t.lim.2).2
  have hWr : (part S Z2).W T.cur.t.list + (part S Z2).W ((leftL T.enc T.cur.ps i ni ++ g.qs ++ rightL T.enc T.cur.ps j mj).map (·.1)) ≤ 4398046511104 := by
    have h1 : (part S Z2).W T.cur.t.list ≤ 1099511627776 := hfew
    have h2 : (part S Z2).W ((leftL T.enc T.cur.ps i ni ++ g.qs ++ rightL T.enc T.cur.ps j mj).map (·.1)) = (toksL T.enc (leftL T.enc T.cur.ps i ni ++ g.qs ++ rightL T.enc T.cur.ps j mj)).length := hWm
    rw [h2]
    refine Nat.le_trans (Nat.add_le_add h1 (Nat.le_trans hmt hmb)) ?_
    omega
  have hrep := c_Replace (O Z2) (i := (i : Int)) (j := ((min (j + 1) T.cur.ps.length : Nat) : Int)) nd2 its tg.cur.wf (by omega) (by omega) (by show _ ≤ ((T.cur.t.list.length : Nat) : Int); omega) hWr hfr
  rw [← g_Replace S Z2] at hrep
  refine wp_call (R := fun (y : TR × Int × Unit) h' => y.2.1 = 0 ∧ ∃ t' : Bt Part, Nd (part S Z2) h' y.1.1 t' ∧ t'.list = T.cur.t.list.take ((i : Int)).toNat ++ (leftL T.enc T.cur.ps i ni ++ g.qs ++ rightL T.enc T.cur.ps j mj).map (·.1) ++ T.cur.t.list.drop (((min (j + 1) T.cur.ps.length : Nat) : Int)).toNat) (Gives.mono hrep fun y h' e ⟨h1, t', h2, h3, _⟩ => ⟨h1, t', h2, h3⟩) fun ⟨⟨(root' : Option Addr), _⟩, (er : Int), _⟩ hh eh ⟨_, t', nd', hl'⟩ => ?_
  have nd' : Nd (part S Z2) hh root' t' := nd'
  dsimp only
  have th := tg.ext eh
  refine wp_grd rfl (wp_grd rfl (s_setC' (.pointer root') (show Own n 1 hh ⟨some T.p, 4, 4⟩ [i64v T.enc, i64v T.limit, .pointer T.cur.root, slv g.ad] from th.ob) (by simp) rfl fun hk ok uk => s_ret ⟨rfl, rfl, ?_, ?_⟩))
  · have c1 : Chg (wfoot T) h hf := (cT.trans ce fun i hi ⟨b, hb, e⟩ => by have := (os.lt hb).1; have := e0b.size; omega).trans cf fun i hi ⟨b, hb, e⟩ => by have := (r1nz b hb).2; have := e0b.size; omega
    exact (c1.ext (eg.trans eh)).trans (upd_chg uk) fun i _ e => .inl e
  · have ok : Own n 1 hk ⟨some T.p, 4, 4⟩ [i64v T.enc, i64v T.limit, .pointer root', slv g.ad] := ok
    have hdJ : T.cur.ps.drop (min (j + 1) T.cur.ps.length) = T.cur.ps.drop (j + 1) := by
      by_cases hx : j + 1 ≤ T.cur.ps.length
      · rw [Nat.min_eq_left hx]
      · rw [Nat.min_eq_right (by omega), List.drop_length, List.drop_of_length_le (by omega)]
    have hls : t'.list = (T.cur.ps.take i ++ (leftL T.enc T.cur.ps i ni ++ g.qs ++ rightL T.enc T.cur.ps j mj) ++ T.cur.ps.drop (j + 1)).map (·.1) := by
      rw [hl', t.cur.ls, Int.toNat_natCast, Int.toNat_natCast, ← List.map_take, ← List.map_drop, hdJ]
      simp only [List.map_append]
    have hb1 := bytes_sub (List.take_sublist i T.cur.ps)
    have hb2 := bytes_sub (List.drop_sublist (j + 1) T.cur.ps)
    have hs := set_state (T := T.at_ g) (ps' := T.cur.ps.take i ++ (leftL T.enc T.cur.ps i ni ++ g.qs ++ rightL T.enc T.cur.ps j mj) ++ T.cur.ps.drop (j + 1)) th (m := hg.size) (fun i hi => (tg.lo i hi).2) ⟨by have := e0c.size; have := cd.1; have := ce.1; have := cf.1; have := eg.size; omega, eh.size⟩ nd' hls
      (fun q hq => by
        rcases List.mem_append.1 hq with hq | hq
        · rcases List.mem_append.1 hq with hq | hq
          · exact th.cur.pcs q (List.mem_of_mem_take hq)
          · exact (hmid q hq).chg (Chg.of_ext (F := fun _ => False) (eg.trans eh)) fun _ _ x => x
        · exact th.cur.pcs q (List.mem_of_mem_drop hq))
      (by rw [bytesL_append, bytesL_append, List.length_append, List.length_append]; omega) ok uk
    refine ⟨_, hs, ⟨rfl, rfl, rfl, rfl, fun i hi => ⟨.inl (F.zm i hi), ?_⟩, fun i hi => ?_, fun b hb => ?_⟩, F.all, ?_⟩
    · have h1 := (t.lo i hi).2; have := e0c.size; have := cd.1; have := ce.1; have := cf.1; have := eg.size; have := eh.size; have := uk.1; omega
    · rcases hi.1 with hx | hx
      · exact (F.zn i hx).imp id fun h => by have := e0c.size; omega
      · right; have := e0c.size; have := cd.1; have := ce.1; have := cf.1; have := eg.size; omega
    · exact (F.adc b hb).imp id fun h => by have := e0c.size; omega
    · show els T.enc (T.cur.ps.take i ++ (leftL T.enc T.cur.ps i ni ++ g.qs ++ rightL T.enc T.cur.ps j mj) ++ T.cur.ps.drop (j + 1)) = _
      have hq1 : els T.enc g.qs = l.map fun a => (a, -1) := by
        rw [els_new fun q hq => (F.pcs q hq).2, F.tks, List.map_map]; rfl
      have hl1 : els T.enc (leftL T.enc T.cur.ps i ni) = (match T.cur.ps[i]? with | some q => (elsP T.enc q).take ni | none => []) := by
        unfold leftL
        cases hq : T.cur.ps[i]? with
        | none => rfl
        | some q =>
          dsimp only
          by_cases hx : 0 < ni
          · rw [if_pos hx, els_one, elsP_head (hbT q (List.mem_of_getElem? hq)) (hniq q hq)]
          · rw [if_neg hx, show ni = 0 by omega]; simp [els]
      have hr1 : els T.enc (rightL T.enc T.cur.ps j mj) = (match T.cur.ps[j]? with | some q => (elsP T.enc q).drop mj | none => []) := by
        unfold rightL
        cases hq : T.cur.ps[j]? with
        | none => rfl
        | some q =>
          dsimp only
          by_cases hx : mj < (toks T.enc q.2).length
          · rw [if_pos hx, els_one, elsP_tail (hbT q (List.mem_of_getElem? hq)) (hmjq q hq)]
          · rw [if_neg hx, List.drop_of_length_le (by rw [elsP_len]; omega)]; simp [els]
      rw [els_append, els_append, els_append, els_append, hq1, hl1, hr1, eT, eD]
      simp only [List.append_assoc]
      all_goals rfl
end Go.Sw.Piece

set_option linter.unusedVariables false
set_option linter.unusedSimpArgs false
set_option maxRecDepth 100000
namespace Go.Sw.Piece
open Go.Sw.Any Go.Sw.Codec
open Go.Sw.Tree (iv s_putAll s_newP s_getP s_getT s_putP eqI_self Placed cell_own cell_upd1 wp_whileG minI_eq)
variable {P : Program} {S : Ids} {h : Heap} {Q : Nat → List Value → Heap → Prop}

abbrev El := Int × Int
/-- One edit done, all done (from the last to the first). -/
def one1 (E : List El) (e : EdD) : List El := E.take e.1.toNat ++ e.2.2.1.2.map (fun a => (a, -1)) ++ E.drop e.2.1.toNat
def allE (E : List El) (es : List EdD) : List El := es.foldr (fun e E => one1 E e) E
theorem allE_cons (E : List El) (e : EdD) (es : List EdD) : allE E (e :: es) = one1 (allE E es) e := rfl

/-- How many bytes atoms have. -/
def blen (enc : Int) (E : List El) : Nat := ((E.map (·.1)).flatMap (putF enc)).length
theorem blen_append (enc : Int) (a b : List El) : blen enc (a ++ b) = blen enc a + blen enc b := by simp [blen]
theorem blen_state {T : TX} {s : St} (r : StR S h T s) (he : known T.enc) : blen T.enc (els T.enc s.ps) = (bytesL s.ps).length := by
  unfold blen; rw [← (toksL_els he r.bytes).2.1]
theorem blen_one {enc : Int} {E : List El} {e : EdD} (hf : fitsE enc e.2.2.1.2) (h0 : 0 ≤ e.1) (h1 : e.1 ≤ e.2.1) : blen enc (one1 E e) ≤ blen enc E + 4 * e.2.2.1.2.length := by
  unfold one1
  have h2 := blen_append enc (E.take e.1.toNat) (E.drop e.1.toNat)
  rw [List.take_append_drop] at h2
  have h3 := blen_append enc ((E.drop e.1.toNat).take (e.2.1.toNat - e.1.toNat)) ((E.drop e.1.toNat).drop (e.2.1.toNat - e.1.toNat))
  rw [List.take_append_drop, List.drop_drop, show e.1.toNat + (e.2.1.toNat - e.1.toNat) = e.2.1.toNat by omega] at h3
  have h4 : blen enc (e.2.2.1.2.map fun a => ((a, -1) : El)) ≤ 4 * e.2.2.1.2.length := by
    have := (put_le hf).2
    unfold blen
    rw [List.map_map]
    have e2 : (List.map ((fun x : El => x.1) ∘ fun a => ((a, -1) : El)) e.2.2.1.2) = e.2.2.1.2 := by
      conv => rhs; rw [← List.map_id e.2.2.1.2]
      rfl
    rw [e2]; exact this
  rw [blen_append, blen_append]; omega
theorem puts_split {es : List EdD} {i : Nat} {e : EdD} (hi : es[i]? = some e) : (putsOf (es.drop i)).length = e.2.2.1.2.length + (putsOf (es.drop (i + 1))).length := by
  have hlt := (List.getElem?_eq_some_iff.1 hi).1
  have he := (List.getElem?_eq_some_iff.1 hi).2
  rw [List.drop_eq_getElem_cons hlt, he]; simp [putsOf]
theorem puts_drop_le (es : List EdD) (i : Nat) : (putsOf (es.drop i)).length ≤ (putsOf es).length := by
  have : putsOf es = putsOf (es.take i) ++ putsOf (es.drop i) := by unfold putsOf; rw [← List.flatMap_append, List.take_append_drop]
  rw [this, List.length_append]; omega

/-- What Change answers. -/
structure ChangeR (S : Ids) (n : Nat) (T : TX) (h0 h : Heap) (es : List EdD) (r : Int) (T' : TX) : Prop where
  ref : RefR T.enc T.limit (toksL T.enc T.cur.ps) es r
  t : TextR S n h T'
  nx : Nxt T T' h0.size
  els : els T.enc T'.cur.ps = if r = 0 then allE (els T.enc T.cur.ps) es else els T.enc T.cur.ps
  len : T'.A.length ≤ T.A.length + 4 * (putsOf es).length

theorem c_Change (M : Meth0 P S) {n : Nat} {T : TX} {x : Eds} (t : TextR S n h T) (hn : n ≤ h.size) (hok : ∀ h', Chg (wfoot T) h h' → (Sh.list EdSh).ok h' x) (hz : ∀ e, e ∈ x.2 → e.2.2.1.2 ≠ [] → ∀ a, e.2.2.1.1.base = some a → ¬ T.Z a.block)
    (hA : T.A.length + 4 * (putsOf x.2).length ≤ 400000000000) (hsm : (bytesL T.cur.ps).length ≤ T.limit) :
    wp P (F_Text_Change S (some T.p) x.1) h fun tg vs h' => tg = 0 ∧ Chg (wfoot T) h h' ∧ ∃ r T', vs = [i64v r] ∧ ChangeR S n T h h' x.2 r T' := by
  unfold F_Text_Change
  have ho := hok h (Chg.refl _ _)
  have hxl := ho.len
  have hcap := ho.2.1
  have hmax := ho.2.2.1
  refine wp_call (c_refuse M t ho (by omega) hsm) fun ⟨(r : Int), _⟩ h1 e1 hr => ?_
  have hr : RefR T.enc T.limit (toksL T.enc T.cur.ps) x.2 r := hr
  dsimp only
  refine wp_ifB (fun hc => ?_) fun hc => ?_
  · rw [neI_iff] at hc
    exact s_ret ⟨rfl, Chg.of_ext e1, r, T, rfl, hr, t.ext e1, Nxt.refl _ _, by rw [if_neg hc], by omega⟩
  rw [neI_not] at hc
  subst hc
  obtain ⟨hmany, hpl, hfit, _⟩ : x.2.length ≤ 70000 ∧ Plc (toksL T.enc T.cur.ps).length 0 x.2 ∧ fitsE T.enc (putsOf x.2) ∧ True := by
    cases hr with
    | ok a b c d => exact ⟨a, b, c, trivial⟩
  have hlen : (toksL T.enc T.cur.ps).length = (els T.enc T.cur.ps).length := (els_len ..).symm
  have hbl := blen_state t.cur t.enc
  have hlim := t.lim
  have hlenI : subI .i64 (natI x.1.len) 1 = (x.2.length : Int) - 1 := by rw [natI_def, hxl, sub_ok (by omega) (by omega)]
  rw [hlenI]
  refine wp_whileG (G := Nat × TX) (fun g (s : Int × Unit) h' => s.1 = (g.1 : Int) - 1 ∧ g.1 ≤ x.2.length ∧ Chg (wfoot T) h h' ∧ TextR S n h' g.2 ∧ Nxt T g.2 h.size ∧ els T.enc g.2.cur.ps = allE (els T.enc T.cur.ps) (x.2.drop g.1) ∧
      lastTo 0 (x.2.take g.1) ≤ (els T.enc g.2.cur.ps).length ∧ (bytesL g.2.cur.ps).length ≤ (bytesL T.cur.ps).length + 4 * (putsOf (x.2.drop g.1)).length ∧ g.2.A.length ≤ T.A.length + 4 * (putsOf (x.2.drop g.1)).length) (fun g => g.1)
    (fun tg vs h' => tg = 2 ∧ vs = [] ∧ Chg (wfoot T) h h' ∧ ∃ T', TextR S n h' T' ∧ Nxt T T' h.size ∧ els T.enc T'.cur.ps = allE (els T.enc T.cur.ps) x.2 ∧ T'.A.length ≤ T.A.length + 4 * (putsOf x.2).length)
    (x.2.length, T) ⟨rfl, Nat.le_refl _, Chg.of_ext e1, t.ext e1, Nxt.refl _ _, by rw [List.drop_length]; rfl, ?_, Nat.le_add_right _ _, Nat.le_add_right _ _⟩ ?_ ?_
  · rw [List.take_length, ← hlen]
    have : ∀ (es : List EdD) (a L : Int), a ≤ L → Plc L a es → lastTo a es ≤ L := by
      intro es
      induction es with
      | nil => intro a L h _; exact h
      | cons e es ih => intro a L h ⟨_, _, h3, h4⟩; exact ih _ _ h3 h4
    exact this _ _ _ (by omega) hpl
  · rintro ⟨k, T1⟩ ⟨(s : Int), u⟩ h2 ⟨hs, hk, c2, t2, nx, hE, hlo, hby, hA1⟩
    dsimp only at hs hk t2 nx hE hlo hby hA1 ⊢
    subst hs
    refine wp_ifB (fun hc => ?_) fun hc => ?_
    · rw [geI_iff] at hc
      obtain ⟨i, rfl⟩ : ∃ i, k = i + 1 := ⟨k - 1, by omega⟩
      have hi : ((i + 1 : Nat) : Int) - 1 = (i : Int) := by omega
      rw [hi]
      obtain ⟨e, hie⟩ : ∃ e, x.2[i]? = some e := ⟨x.2[i]'(by omega), List.getElem?_eq_getElem (by omega)⟩
      have hem := List.mem_of_getElem? hie
      have hpe := hpl.at hie
      have hlo0 := lastTo_lo (hpl.take i)
      have htk : x.2.take (i + 1) = x.2.take i ++ [e] := by rw [List.take_add_one, hie]; rfl
      rw [htk, lastTo_snoc] at hlo
      have hdr : x.2.drop i = e :: x.2.drop (i + 1) := by
        have hlt := (List.getElem?_eq_some_iff.1 hie).1
        have he := (List.getElem?_eq_some_iff.1 hie).2
        rw [List.drop_eq_getElem_cons hlt, he]
      have hps := puts_split hie
      have hpd := puts_drop_le x.2 i
      have hfe : fitsE T.enc e.2.2.1.2 := fun a ha => hfit a (by unfold putsOf; exact List.mem_flatMap.2 ⟨e, hem, ha⟩)
      have hsucc : allE (els T.enc T.cur.ps) (x.2.drop i) = one1 (els T.enc T1.cur.ps) e := by rw [hdr, allE_cons, ← hE]
      have hlo' : lastTo 0 (x.2.take i) ≤ (one1 (els T.enc T1.cur.ps) e).length := by
        unfold one1; rw [List.length_append, List.length_append, List.length_take]; omega
      refine wp_bind (fun tg vs h' => tg = 0 ∧ vs = [] ∧ Chg (wfoot T) h h' ∧ ∃ T2, TextR S n h' T2 ∧ Nxt T T2 h.size ∧ els T.enc T2.cur.ps = allE (els T.enc T.cur.ps) (x.2.drop i) ∧ (bytesL T2.cur.ps).length ≤ (bytesL T.cur.ps).length + 4 * (putsOf (x.2.drop i)).length ∧ T2.A.length ≤ T.A.length + 4 * (putsOf (x.2.drop i)).length) ?_ ?_
      · refine s_edit (hok h2 c2) hie fun a h3 e3 _ o3 => ?_
        have l0 : ∀ {K : Int → Prog} {Q : Nat → List Value → Heap → Prop} {h'}, Ext h3 h' → wp P (K e.1) h' Q → wp P (.load (.one (.int .i64)) (shiftTo (some a) 0) K) h' Q := fun q hk => wp_load1 (b := .int .i64) _ e.1 rfl (cells_iff.1 (o3.ext q).cells 0 _ rfl) hk
        have l1 : ∀ {K : Int → Prog} {Q : Nat → List Value → Heap → Prop} {h'}, Ext h3 h' → wp P (K e.2.1) h' Q → wp P (.load (.one (.int .i64)) (shiftTo (some a) 1) K) h' Q := fun q hk => wp_load1 (b := .int .i64) _ e.2.1 rfl (cells_iff.1 (o3.ext q).cells 1 _ rfl) hk
        have l2 : ∀ {K : Sl → Prog} {Q : Nat → List Value → Heap → Prop} {h'}, Ext h3 h' → wp P (K e.2.2.1.1) h' Q → wp P (.load (.one .sl) (shiftTo (some a) 2) K) h' Q := fun q hk => wp_load1 (b := .sl) _ e.2.2.1.1 rfl (cells_iff.1 (o3.ext q).cells 2 _ rfl) hk
        have hlst : ∀ {h'}, Chg (wfoot T) h h' → Lst .i64 h' e.2.2.1.1 e.2.2.1.2 := fun c => Sh.lst ((hok _ c).el hie).2.2.1
        have hll := (hlst c2).len
        have c3 := c2.ext e3
        have E3 := Ext.refl h3
        refine bind_bool (e.1 < e.2.1 ∨ 0 < e.2.2.1.2.length) ?_ fun bb h4 e4 hb => wp_ifB (fun hx => ?_) fun hx => ?_
        · refine l0 E3 (l1 E3 (wp_ifB (fun hx => s_ret ⟨rfl, Ext.refl _, true, rfl, ?_⟩) fun hx => l2 E3 (s_ret ⟨rfl, Ext.refl _, _, rfl, ?_⟩)))
          · rw [ltI_iff] at hx; exact Iff.intro (fun _ => .inl hx) fun _ => rfl
          · rw [ltI_not] at hx; rw [gtI_iff, natI_def]; omega
        · have c4 := c3.ext e4
          have t4 := (t2.ext e3).ext e4
          have hp1 : T1.p = T.p := nx.p
          have he1 : T1.enc = T.enc := nx.enc
          refine l0 e4 (l1 e4 (l2 e4 ?_))
          rw [← hp1]
          refine wp_callW (c_replace M (T := T1) t4 (Nat.le_trans hn c4.1) (hlst c4) (by rw [he1]; exact hfe) (by omega) (fun hne b hb hzb => ?_) (by omega) hpe.2.1 (by rw [he1]; omega) (by omega)) fun tg vs h5 hx5 => ?_
          · have h0 : b.block < h.size := by
              have hl0 := hlst (Chg.refl _ _)
              obtain ⟨y, l', hyl⟩ : ∃ y l', e.2.2.1.2 = y :: l' := by
                cases hh : e.2.2.1.2 with
                | nil => exact absurd hh hne
                | cons y l' => exact ⟨y, l', rfl⟩
              obtain ⟨b', eb, cb⟩ := hl0.rd.at (i := 0) (by rw [hyl]; simp)
              rw [hb] at eb; cases eb
              have := cell_lt cb
              rw [add_block] at this; exact this
            rcases nx.zn _ hzb with hy | hy
            · exact hz e hem hne b hb hy
            · omega
          · obtain ⟨rfl, rfl, c5, T2, t5, nx5, hA5, hE5⟩ := hx5
            refine ⟨rfl, (), rfl, s_ret ⟨rfl, rfl, ?_, T2, t5, nx.trans nx5 c4.1, ?_, ?_, ?_⟩⟩
            · exact c4.trans c5 fun i hi hw => (nx.foot hw).elim id fun h => by omega
            · rw [hsucc]; rw [he1] at hE5; exact hE5
            · have h6 := blen_state t5.cur t5.enc
              have h7 := blen_state t2.cur t2.enc
              rw [nx5.enc, he1] at h6
              rw [he1] at h7 hE5
              rw [← h6, hE5]
              have h8 := blen_one (E := els T.enc T1.cur.ps) hfe (by omega) hpe.2.1
              unfold one1 at h8
              rw [h7] at h8
              omega
            · rw [hA5, List.length_append]
              have := (put_le hfe).2
              rw [he1]; omega
        · have hno : ¬ (e.1 < e.2.1 ∨ 0 < e.2.2.1.2.length) := fun k => by rw [hb.2 k] at hx; cases hx
          have hnil : e.2.2.1.2 = [] := List.eq_nil_of_length_eq_zero (by omega)
          refine s_ret ⟨rfl, rfl, c3.ext e4, T1, (t2.ext e3).ext e4, nx, ?_, by omega, by omega⟩
          rw [hsucc]
          unfold one1
          rw [hnil, show e.2.1 = e.1 by omega]
          simp
      · rintro tg vs h3 ⟨rfl, rfl, c3, T2, t3, nx3, hE3, hb3, hA3⟩
        refine s_tag (s_cast0 ?_)
        rw [sub_ok (by omega) (by omega)]
        exact s_ret ⟨fun _ => ⟨(i, T2), ((i : Int) - 1, ()), rfl, ⟨rfl, by dsimp only; omega, c3, t3, nx3, hE3, by dsimp only; rw [hE3, hsucc]; exact hlo', hb3, hA3⟩, by dsimp only; omega⟩, fun h => absurd rfl h⟩
    · rw [geI_not] at hc
      have : k = 0 := by omega
      subst this
      exact s_ret ⟨fun h => absurd h (by decide), fun _ => ⟨rfl, rfl, c2, T1, t2, nx, hE, hA1⟩⟩
  · rintro tg vs h2 ⟨rfl, rfl, c2, T1, t2, nx, hE, hA1⟩
    exact s_tag (s_cast0 (s_ret ⟨rfl, c2, 0, T1, rfl, hr, t2, nx, by rw [if_pos rfl]; exact hE, hA1⟩))
end Go.Sw.Piece
