/-
  Codec: streams side by side; the crowd.
-/
import Derived.Test.YtfgknhffpccamaaSwC26
set_option linter.unusedVariables false
set_option linter.unusedSimpArgs false
set_option maxRecDepth 100000
namespace Go.Sw
variable {P : Program} {h : Heap} {Q : Nat → List Value → Heap → Prop}
/-- A new object. -/
theorem s_newV {vs : List Value} {K : Addr → Prog} (hl : vs.length < 2 ^ 63) (hk : ∀ (w : Addr) h', w.block = h.size → Ext h h' → Own h.size 1 h' ⟨some w, vs.length, vs.length⟩ vs → wp P (K w) h' Q) : wp P (.alloc vs K) h Q :=
  fun elem => hk ⟨h.size, 0, none⟩ _ rfl (Ext.push ..) (own_alloc (by simp) (by decide) hl)
/-- l[j], of a list of pointers. -/
theorem s_ptr {n : Nat} {a : Sl} {vs : List Value} {p : Option Addr} {j : Nat} {K : Option Addr → Prog} (ho : Own n 1 h a vs) (hj : vs[j]? = some (.pointer p)) (hk : wp P (K p) h Q) :
    wp P (grd (andB (someB a.base) (inB (j : Int) a.len)) (.load (.one .ptr) (shiftTo a.base (mulN (toN (j : Int)) 1)) K)) h Q := by
  have hl := ho.1
  have hlt := (List.getElem?_eq_some_iff.1 hj).1
  obtain ⟨b, e, c⟩ := ho.rd.2 j _ hj
  rw [e]
  refine s_grd (andB_iff.2 ⟨rfl, inB_ok (by omega) (by omega)⟩) (wp_load1 (b := .ptr) (b.add j) p ?_ c hk)
  simp [shiftTo, mulN, toN]
theorem s_ckptr {n : Nat} {a : Sl} {vs : List Value} {p : Option Addr} {j : Nat} {K : Prog} (ho : Own n 1 h a vs) (hj : vs[j]? = some (.pointer p)) (hk : wp P K h Q) :
    wp P (.check (shiftTo a.base (mulN (toN (j : Int)) 1)) [.pointer p] K) h Q := by
  obtain ⟨b, e, c⟩ := ho.rd.2 j _ hj
  rw [e]
  have : shiftTo (some b) (mulN (toN (j : Int)) 1) = shiftTo (some b) j := by simp [shiftTo, mulN, toN]
  rw [this]
  exact s_ckC c hk
end Go.Sw

namespace Go.Sw.Codec
variable {P : Program} {S : Ids} {h : Heap} {Q : Nat → List Value → Heap → Prop} {n : Nat}

theorem duo_new {p q : Addr} {enc : Int} (he : known enc) (st : Strm S h p enc ⟨none, 0, 0⟩ []) (rt : RStr n h q enc ⟨none, 0, 0⟩ [] 0) (hp : n ≤ p.block) (hne : p.block ≠ q.block) :
    Duo S n h ⟨p, q, enc, ⟨none, 0, 0⟩, ⟨none, 0, 0⟩, [], 0⟩ := by
  have h0 : ((dec enc (([] : List Int).take 0)).length : Int) = 0 := by rw [List.take_nil, dec_nil (by simp)]; rfl
  refine ⟨he, st, by dsimp only; rw [h0]; exact rt, Waits.zero _, ?_, hne, (fun a ha => by cases ha), (fun a ha => by cases ha), (fun a b ha => by cases ha)⟩
  rintro i (rfl | ⟨a, ha, rfl⟩ | rfl | ⟨a, ha, rfl⟩)
  · exact ⟨hp, st.lt⟩
  · cases ha
  · exact rt.lt
  · cases ha

abbrev Pl := Nat → Option DS
def upd (G : Pl) (i : Nat) (d : DS) : Pl := fun j => if j = i then some d else G j
theorem upd_same (G : Pl) (i : Nat) (d : DS) : upd G i d i = some d := by simp [upd]
theorem upd_other (G : Pl) {i j : Nat} (d : DS) (h : j ≠ i) : upd G i d j = G j := by simp [upd, h]

structure Pool (S : Ids) (n : Nat) (h : Heap) (G : Pl) : Prop where
  duo : ∀ i d, G i = some d → Duo S n h d
  apart : ∀ i j d e, i ≠ j → G i = some d → G j = some e → ∀ x, d.foot x → ¬ e.foot x

theorem Pool.chg {G : Pl} {F : Nat → Prop} {h' : Heap} (p : Pool S n h G) (c : Chg F h h') (hF : ∀ i d x, G i = some d → d.foot x → ¬ F x) : Pool S n h' G :=
  ⟨fun i d hi => (p.duo i d hi).chg c fun x hx => hF i d x hi hx, p.apart⟩
theorem Pool.ext {G : Pl} {h' : Heap} (p : Pool S n h G) (e : Ext h h') : Pool S n h' G := p.chg (Chg.of_ext (F := fun _ => False) e) fun _ _ _ _ _ h => h
theorem Pool.lt {G : Pl} (p : Pool S n h G) {i : Nat} {d : DS} (hi : G i = some d) {x : Nat} (hx : d.foot x) : n ≤ x ∧ x < h.size := (p.duo i d hi).lo x hx
theorem Pool.step {G : Pl} {h' : Heap} {i : Nat} {d d' : DS} (p : Pool S n h G) (hi : G i = some d) (c : Chg d.foot h h') (u : Duo S n h' d') (nx : Next d d' h.size) : Pool S n h' (upd G i d') := by
  have key : ∀ j e, j ≠ i → G j = some e → Duo S n h' e ∧ ∀ x, d'.foot x → ¬ e.foot x := fun j e hj he =>
    ⟨(p.duo j e he).chg c fun x hx hy => p.apart i j d e (Ne.symm hj) hi he x hy hx, fun x hx hy => by
      rcases nx.foot x hx with hh | hh
      · exact p.apart i j d e (Ne.symm hj) hi he x hh hy
      · have := (p.lt he hy).2; omega⟩
  refine ⟨fun j e hj => ?_, fun j k e f hjk hj hk x hx hy => ?_⟩
  · by_cases hji : j = i
    · subst hji; rw [upd_same] at hj; cases hj; exact u
    · rw [upd_other _ _ hji] at hj; exact (key j e hji hj).1
  · by_cases hji : j = i
    · subst hji
      rw [upd_same] at hj; cases hj
      rw [upd_other _ _ (Ne.symm hjk)] at hk
      exact (key k f (Ne.symm hjk) hk).2 x hx hy
    · rw [upd_other _ _ hji] at hj
      by_cases hki : k = i
      · subst hki
        rw [upd_same] at hk; cases hk
        exact (key j e hji hj).2 x hy hx
      · rw [upd_other _ _ hki] at hk
        exact p.apart j k e f hjk hj hk x hx hy
theorem Pool.add {G : Pl} {i m : Nat} {d : DS} (p : Pool S n h G) (u : Duo S n h d) (hn : ∀ x, d.foot x → m ≤ x) (ho : ∀ j e x, G j = some e → e.foot x → x < m) : Pool S n h (upd G i d) := by
  refine ⟨fun j e hj => ?_, fun j k e f hjk hj hk x hx hy => ?_⟩
  · by_cases hji : j = i
    · subst hji; rw [upd_same] at hj; cases hj; exact u
    · rw [upd_other _ _ hji] at hj; exact p.duo j e hj
  · by_cases hji : j = i
    · subst hji
      rw [upd_same] at hj; cases hj
      rw [upd_other _ _ (Ne.symm hjk)] at hk
      have := hn x hx; have := ho k f x hk hy; omega
    · rw [upd_other _ _ hji] at hj
      by_cases hki : k = i
      · subst hki
        rw [upd_same] at hk; cases hk
        have := hn x hy; have := ho j e x hj hx; omega
      · rw [upd_other _ _ hki] at hk
        exact p.apart j k e f hjk hj hk x hx hy

def psOf (G : Pl) (m : Nat) : List Value := (List.range m).map fun i => .pointer ((G (2 + i)).map DS.p)
def qsOf (G : Pl) (m : Nat) : List Value := (List.range m).map fun i => .pointer ((G (2 + i)).map DS.q)
theorem psOf_upd {G : Pl} {m i : Nat} {d d' : DS} (hi : G i = some d) (hp : d'.p = d.p) : psOf (upd G i d') m = psOf G m := by
  unfold psOf
  refine List.map_congr_left fun j _ => ?_
  by_cases hj : 2 + j = i
  · rw [hj, upd_same, hi]; simp [hp]
  · rw [upd_other _ _ hj]
theorem qsOf_upd {G : Pl} {m i : Nat} {d d' : DS} (hi : G i = some d) (hp : d'.q = d.q) : qsOf (upd G i d') m = qsOf G m := by
  unfold qsOf
  refine List.map_congr_left fun j _ => ?_
  by_cases hj : 2 + j = i
  · rw [hj, upd_same, hi]; simp [hp]
  · rw [upd_other _ _ hj]
theorem psOf_at {G : Pl} {m j : Nat} {d : DS} (hj : j < m) (hd : G (2 + j) = some d) : (psOf G m)[j]? = some (.pointer (some d.p)) := by
  unfold psOf; rw [List.getElem?_map, List.getElem?_range hj]; simp [hd]
theorem qsOf_at {G : Pl} {m j : Nat} {d : DS} (hj : j < m) (hd : G (2 + j) = some d) : (qsOf G m)[j]? = some (.pointer (some d.q)) := by
  unfold qsOf; rw [List.getElem?_map, List.getElem?_range hj]; simp [hd]
theorem psOf_new {G : Pl} {m : Nat} (d : DS) : psOf (upd G (2 + m) d) (m + 1) = psOf G m ++ [.pointer (some d.p)] := by
  unfold psOf
  rw [List.range_succ, List.map_append]
  congr 1
  · refine List.map_congr_left fun j hj => ?_
    have := List.mem_range.1 hj
    rw [upd_other _ _ (by omega)]
  · simp [upd_same]
theorem qsOf_new {G : Pl} {m : Nat} (d : DS) : qsOf (upd G (2 + m) d) (m + 1) = qsOf G m ++ [.pointer (some d.q)] := by
  unfold qsOf
  rw [List.range_succ, List.map_append]
  congr 1
  · refine List.map_congr_left fun j hj => ?_
    have := List.mem_range.1 hj
    rw [upd_other _ _ (by omega)]
  · simp [upd_same]

/-- The crowd: m streams, from the third on. -/
structure Crowd (S : Ids) (n : Nat) (h : Heap) (G : Pl) (w : Addr) (a b : Sl) (m : Nat) : Prop where
  pool : Pool S n h G
  ow : Own n 1 h ⟨some w, 2, 2⟩ [slv a, slv b]
  oa : Own n 1 h a (psOf G m)
  ob : Own n 1 h b (qsOf G m)
  there : ∀ i, i < m → ∃ d, G (2 + i) = some d
  aw : ∀ q, a.base = some q → q.block ≠ w.block
  bw : ∀ q, b.base = some q → q.block ≠ w.block
  ab : ∀ q r, a.base = some q → b.base = some r → q.block ≠ r.block
  fw : ∀ i d, G i = some d → ¬ d.foot w.block
  fa : ∀ i d q, G i = some d → a.base = some q → ¬ d.foot q.block
  fb : ∀ i d q, G i = some d → b.base = some q → ¬ d.foot q.block
variable {G : Pl} {w : Addr} {a b : Sl} {m : Nat}

theorem Crowd.len (c : Crowd S n h G w a b m) : a.len = m ∧ b.len = m := by
  have h1 := c.oa.1
  have h2 := c.ob.1
  simp [psOf] at h1
  simp [qsOf] at h2
  omega
theorem Crowd.chg {F : Nat → Prop} {h' : Heap} (c : Crowd S n h G w a b m) (x : Chg F h h') (hG : ∀ i d x, G i = some d → d.foot x → ¬ F x) (hw : ¬ F w.block) (ha : ∀ q, a.base = some q → ¬ F q.block) (hb : ∀ q, b.base = some q → ¬ F q.block) : Crowd S n h' G w a b m where
  pool := c.pool.chg x hG
  ow := x.own c.ow fun q hq => by cases hq; exact hw
  oa := x.own c.oa ha
  ob := x.own c.ob hb
  there := c.there
  aw := c.aw
  bw := c.bw
  ab := c.ab
  fw := c.fw
  fa := c.fa
  fb := c.fb
theorem Crowd.ext {h' : Heap} (c : Crowd S n h G w a b m) (e : Ext h h') : Crowd S n h' G w a b m := c.chg (Chg.of_ext (F := fun _ => False) e) (fun _ _ _ _ _ h => h) (fun h => h) (fun _ _ h => h) fun _ _ h => h
theorem Crowd.step {h' : Heap} {i : Nat} {d d' : DS} (c : Crowd S n h G w a b m) (hi : G i = some d) (x : Chg d.foot h h') (u : Duo S n h' d') (nx : Next d d' h.size) : Crowd S n h' (upd G i d') w a b m where
  pool := c.pool.step hi x u nx
  ow := x.own c.ow fun q hq => by cases hq; exact c.fw i d hi
  oa := by rw [psOf_upd hi nx.p]; exact x.own c.oa fun q hq => c.fa i d q hi hq
  ob := by rw [qsOf_upd hi nx.q]; exact x.own c.ob fun q hq => c.fb i d q hi hq
  there := fun j hj => by
    by_cases hji : 2 + j = i
    · exact ⟨d', by rw [hji, upd_same]⟩
    · rw [upd_other _ _ hji]; exact c.there j hj
  aw := c.aw
  bw := c.bw
  ab := c.ab
  fw := fun j e hj hx => by
    by_cases hji : j = i
    · subst hji; rw [upd_same] at hj; cases hj
      rcases nx.foot _ hx with hh | hh
      · exact c.fw j d hi hh
      · have := (c.ow.lt rfl).2; omega
    · rw [upd_other _ _ hji] at hj; exact c.fw j e hj hx
  fa := fun j e q hj hq hx => by
    by_cases hji : j = i
    · subst hji; rw [upd_same] at hj; cases hj
      rcases nx.foot _ hx with hh | hh
      · exact c.fa j d q hi hq hh
      · have := (c.oa.lt hq).2; omega
    · rw [upd_other _ _ hji] at hj; exact c.fa j e q hj hq hx
  fb := fun j e q hj hq hx => by
    by_cases hji : j = i
    · subst hji; rw [upd_same] at hj; cases hj
      rcases nx.foot _ hx with hh | hh
      · exact c.fb j d q hi hq hh
      · have := (c.ob.lt hq).2; omega
    · rw [upd_other _ _ hji] at hj; exact c.fb j e q hj hq hx
theorem Crowd.c0 (c : Crowd S n h G w a b m) : Sw.cell h (w.add 0) = some (slv a) := cells_iff.1 c.ow.cells' 0 _ rfl
theorem Crowd.c1 (c : Crowd S n h G w a b m) : Sw.cell h (w.add 1) = some (slv b) := cells_iff.1 c.ow.cells' 1 _ rfl

/-- All bytes that were fed, of all of them. -/
def Small (G : Pl) (B : Nat) : Prop := ∀ i d, G i = some d → d.all.length ≤ B
theorem Small.upd {B : Nat} {i : Nat} {d : DS} (s : Small G B) (hd : d.all.length ≤ B) : Small (upd G i d) B := fun j e hj => by
  by_cases hji : j = i
  · subst hji; rw [upd_same] at hj; cases hj; exact hd
  · rw [upd_other _ _ hji] at hj; exact s j e hj
theorem Small.mono {B B' : Nat} (s : Small G B) (h : B ≤ B') : Small G B' := fun i d hi => Nat.le_trans (s i d hi) h

theorem bytes_two {x y : Int} : ∀ v, v ∈ [wrapI .u8 x, wrapI .u8 y] → fitsI .u8 v := by
  intro v hv
  simp only [List.mem_cons, List.not_mem_nil, or_false] at hv
  rcases hv with rfl | rfl <;> exact range_u8 _

/-- The program's stream is fed, the document's is not yet. -/
def Mid (S : Ids) (n : Nat) (d : DS) (x : List Int) (h h1 : Heap) (y : Sl × Unit) : Prop :=
  Chg (fun i => i = d.p.block) h h1 ∧ ∃ (ws' : Sl) (v : Int), HeldR d.enc (d.w ++ x) v ∧ Half S n h1 d ws' ((d.w ++ x).drop ((d.w ++ x).length - v.toNat)) ∧
      (∀ a, ws'.base = some a → h.size ≤ a.block) ∧ OwnL h.size .i64 h1 y.1 (dec d.enc ((d.w ++ x).take ((d.w ++ x).length - v.toNat)))
theorem s_feed1 (M : Meth P S) {d : DS} {b : Sl} {x : List Int} {K : Sl × Unit → Prog} (u : Duo S n h d) (hn : n ≤ h.size) (hb : Lst .u8 h b x) (hl : d.all.length + x.length ≤ 1099511627776)
    (hk : ∀ y h1, Mid S n d x h h1 y → wp P (K y) h1 Q) : wp P (.call (F_Stream_Feed S (some d.p) b) [.one .sl] K) h Q :=
  wp_callF (c_feed1 M u hn hb hl) fun y h1 c1 hx => hk y h1 ⟨c1, hx⟩
theorem s_feed2 {d : DS} {b : Sl} {x : List Int} {h1 : Heap} {y1 : Sl × Unit} {K : Sl × Unit → Prog} (hm : Mid S n d x h h1 y1) (u : Duo S n h d) (hn : n ≤ h.size) (hb : Lst .u8 h b x) (hf : x ≠ [] → ∀ a, b.base = some a → ¬ d.foot a.block) (hl : d.all.length + x.length ≤ 1099511627776)
    (hk : ∀ y2 h' d' z, Chg d.foot h h' → Duo S n h' d' → Next d d' h.size → d'.all.length = d.all.length + x.length → Lst .i64 h' y1.1 z → Lst .i64 h' y2.1 z → (∀ a, y1.1.base = some a → h.size ≤ a.block) → (∀ a, y2.1.base = some a → h.size ≤ a.block) → wp P (K y2) h' Q) :
    wp P (.call (F_ref_Stream_Feed S (some d.q) b) [.one .sl] K) h1 Q := by
  obtain ⟨c1, ws', v, hv, hu, hws, ho⟩ := hm
  have hn1 : n ≤ h1.size := Nat.le_trans hn c1.1
  have hb1 := c1.lst0 hb fun hx a ha e => hf hx a ha (.inl e)
  refine wp_callF (c_feed2 hv hu hn1 hb1 (fun hx a ha hr => hf hx a ha (rfoot_foot hr)) hl) fun y2 h2 c2 ⟨d', g1, g2, g3, g4, g5, g6, g7, g8, g9⟩ => ?_
  have c12 : Chg d.foot h h2 := (c1.mono fun i _ hi => .inl hi).trans c2 fun i _ hi => rfoot_foot hi
  refine hk y2 h2 d' _ c12 g1 ⟨g2, g3, g4, fun i hi => ?_⟩ (by rw [g5, List.length_append]) (c2.lst ho.lst fun a ha hr => ?_) g8 (fun a ha => (ho.own.lt ha).1) (fun a ha => by have := g9 a ha; have := c1.1; omega)
  · rcases hi with hi | ⟨a, ha, hi⟩ | hi | ⟨a, ha, hi⟩
    · left; left; rw [← g2]; exact hi
    · right; rw [g6] at ha; have := hws a ha; omega
    · left; right; right; left; rw [← g3]; exact hi
    · rcases g7 a ha with hh | hh
      · left; right; right; right; exact ⟨a, hh, hi⟩
      · right; have := c1.1; omega
  · have h3 := (ho.own.lt ha).1
    have h4 := (u.lo _ (.inr (.inr hr))).2
    omega
theorem s_close2 {d : DS} {h1 : Heap} {y1 : Sl × Unit} {K : Sl × Unit → Prog} (c1 : Chg (fun i => i = d.p.block) h h1) (u1 : Half S n h1 d ⟨none, 0, 0⟩ []) (ho : OwnL h.size .i64 h1 y1.1 (dec d.enc d.w)) (u : Duo S n h d) (hn : n ≤ h.size) (hl : d.all.length ≤ 1099511627776)
    (hk : ∀ y2 h' d' z, Chg d.foot h h' → Duo S n h' d' → Next d d' h.size → d'.all = [] → Lst .i64 h' y1.1 z → Lst .i64 h' y2.1 z → wp P (K y2) h' Q) :
    wp P (.call (F_ref_Stream_Close S (some d.q)) [.one .sl] K) h1 Q := by
  refine wp_callF (c_close2 u1 (Nat.le_trans hn c1.1) hl) fun y2 h3 c3 ⟨d', g1, g2, g3, g4, g5, g6, g7, g8, g9⟩ => ?_
  have c13 : Chg d.foot h h3 := (c1.mono fun i _ hi => .inl hi).trans c3 fun i _ hi => rfoot_foot (.inl hi)
  refine hk y2 h3 d' _ c13 g1 ⟨g2, g3, g4, fun i hi => ?_⟩ g5 (c3.lst ho.lst fun a ha hr => by
      have h3 := (ho.own.lt ha).1
      have h4 := (u.lo _ (rfoot_foot (.inl hr))).2
      omega) g8
  left
  rcases hi with hi | ⟨a, ha, hi⟩ | hi | ⟨a, ha, hi⟩
  · left; rw [← g2]; exact hi
  · rw [g6] at ha; cases ha
  · right; right; left; rw [← g3]; exact hi
  · rw [g7] at ha; cases ha
theorem sameB {z : List Int} {w : Bool × Unit} (hw : w.1 = decide (z = z)) : notB w.1 = false := by rw [hw]; simp [notB]

theorem Mid.crowd {d : DS} {x : List Int} {h1 : Heap} {y : Sl × Unit} {i : Nat} (hm : Mid S n d x h h1 y) (c : Crowd S n h G w a b m) (hi : G i = some d) :
    Own n 1 h1 ⟨some w, 2, 2⟩ [slv a, slv b] ∧ Own n 1 h1 a (psOf G m) ∧ Own n 1 h1 b (qsOf G m) :=
  ⟨hm.1.own c.ow fun q hq e => by cases hq; exact c.fw i d hi (.inl e), hm.1.own c.oa fun q hq e => c.fa i d q hi hq (.inl e), hm.1.own c.ob fun q hq e => c.fb i d q hi hq (.inl e)⟩

/-- ends. -/
theorem c_ends (M : Meth P S) {B : Nat} (c : Crowd S n h G w a b m) (hn : n ≤ h.size) (hB : Small G B) (hb : B ≤ 1099511627000) (hm5 : m ≤ 100) :
    GivesN n P (F_crowd_ends S (some w)) [.one .bool] h fun (y : Bool × Unit) _ => y.1 = true := by
  unfold F_crowd_ends GivesN
  refine wp_while (fun (s : Int × Unit) h' => Keep n h h' ∧ ∃ (i : Nat) (G' : Pl), s.1 = i ∧ i ≤ m ∧ Crowd S n h' G' w a b m ∧ Small G' B) (fun s _ => ((m : Int) - s.1).toNat)
    (fun t vs h' => t = 2 ∧ vs = [] ∧ Keep n h h') ⟨Keep.refl _ _, 0, G, rfl, Nat.zero_le _, c, hB⟩ ?_ ?_
  · rintro ⟨i', u⟩ h1 ⟨k1, i, G', hi, him, c1, s1⟩
    dsimp only at hi ⊢
    subst hi
    obtain ⟨l1, l2⟩ := c1.len
    have hn1 : n ≤ h1.size := Nat.le_trans hn k1.1
    refine s_getF (b := .sl) (x := a) c1.c0 (wp_ifB (fun hc => ?_) fun hc => ?_)
    · rw [ltI_iff, natI_def, l1] at hc
      obtain ⟨d, hd⟩ := c1.there i (by omega)
      have hp := psOf_at (m := m) (by omega) hd
      have hq := qsOf_at (m := m) (by omega) hd
      have u1 := c1.pool.duo _ d hd
      have hsm := s1 _ d hd
      refine s_getF (b := .sl) (x := a) c1.c0 (s_ptr c1.oa hp (s_getF (b := .sl) (x := b) c1.c1 (s_ptr c1.ob hq (wp_call (c_held1 u1) fun y h2 e2 hy => ?_))))
      have c2 := c1.ext e2
      refine s_ckptr c2.ob hq (s_ckC c2.c1 (wp_call (c_held2 (u1.ext e2) (by omega)) fun z h3 e3 hz => ?_))
      have hy : y.1 = d.w.length := hy
      have hz : z.1 = d.w.length := hz
      refine s_neF (by rw [hy, hz]) ?_
      have c3 := c2.ext e3
      refine s_allocL (k := .u8) [wrapI .u8 (addI .i64 130 i), wrapI .u8 195] bytes_two (by simp) fun h4 e4 o4 => ?_
      have c4 := c3.ext e4
      have u4 := ((u1.ext e2).ext e3).ext e4
      refine s_getF (b := .sl) (x := a) c4.c0 (s_ptr c4.oa hp (wp_call (c_copyBytes o4.lst (by simp)) fun v h5 e5 hv => ?_))
      have hv : OwnL h4.size .u8 h5 v.1 _ := hv
      have c5 := c4.ext e5
      have u5 := u4.ext e5
      have e15 := ((e2.trans e3).trans e4).trans e5
      have hn5 : n ≤ h5.size := Nat.le_trans hn1 e15.1
      refine s_ckptr c5.oa hp (s_ckC c5.c0 (s_feed1 M u5 hn5 hv.lst (by simp; omega) fun y1 h6 hm => ?_))
      obtain ⟨w6, a6, b6⟩ := hm.crowd c5 hd
      have cell1 : Sw.cell h6 (w.add 1) = some (slv b) := cells_iff.1 w6.cells' 1 _ rfl
      refine wp_bind (fun t vs h' => t = 0 ∧ vs = [.bool false] ∧ ∃ d', Chg d.foot h5 h' ∧ Crowd S n h' (upd G' (2 + i) d') w a b m ∧ d'.p = d.p ∧ d'.q = d.q ∧ d'.all.length ≤ B + 2) ?_ ?_
      · refine s_getF (b := .sl) (x := b) cell1 (s_ptr b6 hq (s_feed2 hm u5 hn5 (o4.ext e5).lst (fun _ q hq hx => ?_) (by simp; omega) fun y2 h7 d' zz c7 u7 nx hl7 hy1 hy2 _ _ => ?_))
        · cases hq
          have := (c3.pool.lt hd hx).2
          dsimp only at this; omega
        have k7 := c5.step hd c7 u7 nx
        have hd7 : upd G' (2 + i) d' (2 + i) = some d' := upd_same ..
        have hp7 := psOf_at (m := m) (by omega) hd7
        have hq7 := qsOf_at (m := m) (by omega) hd7
        rw [nx.p] at hp7
        rw [nx.q] at hq7
        have hl7' : d'.all.length = d.all.length + 2 := hl7
        refine wp_call (c_sameInts hy1 hy2) fun r h8 e8 hr => ?_
        rw [sameB hr]
        have k8 := k7.ext e8
        have u8 := u7.ext e8
        refine s_ifF (s_getF (b := .sl) (x := a) k8.c0 (s_ptr k8.oa hp7 (s_getF (b := .sl) (x := b) k8.c1 (s_ptr k8.ob hq7 ?_))))
        rw [← nx.p, ← nx.q]
        refine wp_call (c_held1 u8) fun y h9 e9 hy => ?_
        have k9 := k8.ext e9
        rw [← nx.q] at hq7
        refine s_ckptr k9.ob hq7 (s_ckC k9.c1 (wp_call (c_held2 (u8.ext e9) (by omega)) fun z h10 e10 hz => s_ret ⟨rfl, ?_, d', (c7.ext e8).ext (e9.trans e10), k9.ext e10, rfl, rfl, by omega⟩))
        have hy : y.1 = d'.w.length := hy
        have hz : z.1 = d'.w.length := hz
        rw [hy, hz]; simp [neI]
      rintro t vs h7 ⟨rfl, rfl, d', c7, k7, ep, eq, hl7⟩
      have hd7 : upd G' (2 + i) d' (2 + i) = some d' := upd_same ..
      have hp7 := psOf_at (m := m) (by omega) hd7
      have hq7 := qsOf_at (m := m) (by omega) hd7
      have u7 := k7.pool.duo _ d' hd7
      have hn7 : n ≤ h7.size := Nat.le_trans hn5 c7.1
      refine s_tag (s_castB (s_ifF (s_getF (b := .sl) (x := a) k7.c0 (s_ptr k7.oa hp7 (wp_callF (c_close1 M u7 hn7 (by omega)) fun y h8 c8 ⟨u8, ho⟩ => ?_)))))
      have w8 : Own n 1 h8 ⟨some w, 2, 2⟩ [slv a, slv b] := c8.own k7.ow fun q hq e => by cases hq; exact k7.fw _ d' hd7 (.inl e)
      have b8 : Own n 1 h8 b (qsOf (upd G' (2 + i) d') m) := c8.own k7.ob fun q hq e => k7.fb _ d' q hd7 hq (.inl e)
      have cell1 : Sw.cell h8 (w.add 1) = some (slv b) := cells_iff.1 w8.cells' 1 _ rfl
      refine s_getF (b := .sl) (x := b) cell1 (s_ptr b8 hq7 (s_close2 c8 u8 ho u7 hn7 (by omega) fun y2 h9 d2 zz c9 u9 nx9 hall hy1 hy2 => ?_))
      refine wp_call (c_sameInts hy1 hy2) fun r h10 e10 hr => ?_
      rw [sameB hr]
      refine s_ifF ?_
      rw [add_ok (by omega) (by omega)]
      have k10 := (k7.step hd7 c9 u9 nx9).ext e10
      have kk : Keep n h h10 := Keep.trans k1 (Keep.trans (e15.keep hn1) (Keep.trans (c7.keep hn5 fun x hx hy => by have := (c5.pool.lt hd hy).1; omega) (Keep.trans (c9.keep hn7 fun x hx hy => by have := (k7.pool.lt hd7 hy).1; omega) (e10.keep (Nat.le_trans hn7 c9.1)))))
      refine s_ret ⟨fun _ => ⟨((i : Int) + 1, ()), rfl, ⟨kk, i + 1, _, rfl, by omega, k10, fun j e hj => ?_⟩, by dsimp only; omega⟩, fun h => absurd rfl h⟩
      by_cases hji : j = 2 + i
      · subst hji; rw [upd_same] at hj; cases hj; rw [hall]; simp
      · rw [upd_other _ _ hji, upd_other _ _ hji] at hj; exact s1 j e hj
    · rw [ltI_not, natI_def, l1] at hc
      exact s_ret ⟨fun h => absurd h (by decide), fun _ => ⟨rfl, rfl, k1⟩⟩
  · rintro t vs h1 ⟨rfl, rfl, k1⟩
    exact s_tag (s_cast0 (s_ret ⟨rfl, k1, (true, ()), rfl, rfl⟩))

theorem Upd.chgF {F : Nat → Prop} {s : Sl} {a b : Heap} (u : Upd s a b) (hs : ∀ x, s.base = some x → F x.block) : Chg F a b := Chg.of_upd u fun x hx _ => hs x hx

/-- crowded. -/
theorem c_crowded (M : Meth P S) {enc : Int} {B : Nat} (p0 : Pool S n h G) (hno : ∀ i, G (2 + i) = none) (hn : n ≤ h.size) (hB : Small G B) :
    Gives P (F_law1_crowded S enc) [.one .ptr, .one .bool] h fun (y : Option Addr × Bool × Unit) h' => y.2.1 = true ∧ ∃ (G' : Pl) (w : Addr) (a b : Sl) (m : Nat), y.1 = some w ∧ Crowd S n h' G' w a b m ∧ m ≤ 5 ∧ G' 0 = G 0 ∧ G' 1 = G 1 ∧ Small G' (B + 5) := by
  unfold F_law1_crowded Gives
  refine s_newV (by decide) fun w h1 hw0 e1 ow1 => ?_
  have ow1 : Own h.size 1 h1 ⟨some w, 2, 2⟩ [slv ⟨none, 0, 0⟩, slv ⟨none, 0, 0⟩] := ow1
  have c1 : Crowd S n h1 G w ⟨none, 0, 0⟩ ⟨none, 0, 0⟩ 0 := {
    pool := p0.ext e1
    ow := ow1.mono hn
    oa := Own.nil ..
    ob := Own.nil ..
    there := fun i hi => by omega
    aw := fun q hq => by cases hq
    bw := fun q hq => by cases hq
    ab := fun q r hq => by cases hq
    fw := fun i d hi hx => by have := (p0.lt hi hx).2; omega
    fa := fun i d q hi hq => by cases hq
    fb := fun i d q hi hq => by cases hq }
  refine wp_while (fun (s : Int × Unit) h' => Ext h h' ∧ ∃ (i m : Nat) (G' : Pl) (a b : Sl), s.1 = i ∧ i ≤ 5 ∧ m ≤ i ∧ Crowd S n h' G' w a b m ∧ Small G' (B + 5) ∧ (∀ j, m ≤ j → G' (2 + j) = none) ∧ G' 0 = G 0 ∧ G' 1 = G 1 ∧ (∀ q, a.base = some q → h.size ≤ q.block) ∧ (∀ q, b.base = some q → h.size ≤ q.block)) (fun s _ => (5 - s.1).toNat)
    (fun t vs h' => t = 2 ∧ vs = [] ∧ Ext h h' ∧ ∃ (m : Nat) (G' : Pl) (a b : Sl), m ≤ 5 ∧ Crowd S n h' G' w a b m ∧ Small G' (B + 5) ∧ G' 0 = G 0 ∧ G' 1 = G 1) ⟨e1, 0, 0, G, _, _, rfl, by omega, by omega, c1, hB.mono (by omega), fun j _ => hno j, rfl, rfl, fun q hq => (by cases hq), fun q hq => (by cases hq)⟩ ?_ ?_
  · rintro ⟨i', u⟩ h2 ⟨e2, i, m, G', a, b, hi, hi5, hmi, c2, s2, none2, g0, g1, ha, hb⟩
    dsimp only at hi ⊢
    subst hi
    refine wp_ifB (fun hc => ?_) fun hc => ?_
    · rw [ltI_iff] at hc
      have hn2 : n ≤ h2.size := Nat.le_trans hn e2.1
      refine wp_bind (fun t vs h' => t = 0 ∧ vs = [] ∧ Ext h h' ∧ ∃ (m : Nat) (G' : Pl) (a b : Sl), m ≤ i + 1 ∧ Crowd S n h' G' w a b m ∧ Small G' (B + 5) ∧ (∀ j, m ≤ j → G' (2 + j) = none) ∧ G' 0 = G 0 ∧ G' 1 = G 1 ∧ (∀ q, a.base = some q → h.size ≤ q.block) ∧ (∀ q, b.base = some q → h.size ≤ q.block)) ?_ ?_
      · refine bind_val (tys := [.one (.int .i64)]) (fun (y : Int × Unit) _ => True) ?_ fun ⟨(k : Int), _⟩ h3 e3 _ => ?_
        · refine wp_ifB (fun _ => s_ret ⟨rfl, Ext.refl _, (_, ()), rfl, trivial⟩) fun _ => s_ret ⟨rfl, Ext.refl _, (_, ()), rfl, trivial⟩
        dsimp only
        have c3 := c2.ext e3
        refine wp_call c_NewStream fun ⟨sp, (se : Int), _⟩ h4 e4 hs => wp_call (c_ref_New (Nat.le_trans hn2 (e3.trans e4).1)) fun ⟨rp, (re : Int), _⟩ h5 e5 hr => ?_
        dsimp only at hs hr ⊢
        have c5 := (c3.ext e4).ext e5
        have e05 := ((e2.trans e3).trans e4).trans e5
        have hee : se = re ∧ noneB sp = noneB rp ∧ (noneB sp = true ∨ known k) := by
          rcases hs with ⟨hk, h1, h2⟩ | ⟨hk, h2, p, h1, _⟩ <;> rcases hr with ⟨hk', h1', h2'⟩ | ⟨hk', h2', q, h1', _⟩
          · exact ⟨by rw [h2, h2'], by rw [h1, h1'], .inl (by rw [h1]; rfl)⟩
          · exact absurd hk' hk
          · exact absurd hk hk'
          · exact ⟨by rw [h2, h2'], by rw [h1, h1']; rfl, .inr hk⟩
        refine bind_bool False ?_ fun c' h6 e6 hc' => wp_ifB (fun h => (hc'.1 h).elim) fun _ => ?_
        · refine wp_call (c_law1_num _) fun v h6 e6 hv => s_neF ((show v.1 = se from hv).trans hee.1) (s_ret ⟨rfl, e6, _, rfl, ?_⟩)
          rw [hee.2.1]
          have : eqB (noneB rp) (noneB rp) = true := by cases noneB rp <;> rfl
          rw [this]
          exact Iff.intro (fun h => by cases h) False.elim
        have c6 := c5.ext e6
        have e06 := e05.trans e6
        rcases hs with ⟨hk, h1', h2'⟩ | ⟨hk, h2', p, h1', hpb, st⟩
        · rw [h1'] at hee ⊢
          refine bind_bool True (s_ifT (s_ret ⟨rfl, Ext.refl _, true, rfl, Iff.intro (fun _ => trivial) fun _ => rfl⟩)) fun c' h7 e7 hc' => s_boolT (hc'.2 trivial) (s_ret ⟨rfl, rfl, e06.trans e7, m, G', a, b, by omega, c6.ext e7, s2, none2, g0, g1, ha, hb⟩)
        rcases hr with ⟨hk', _⟩ | ⟨_, hre, q, hq, hqb, hqs, rt⟩
        · exact absurd hk hk'
        subst h1'
        subst hq
        refine bind_bool False (s_ifF (s_ret ⟨rfl, Ext.refl _, false, rfl, Iff.intro (fun h => by cases h) False.elim⟩)) fun c' h7 e7 hc' => wp_ifB (fun h => (hc'.1 h).elim) fun _ => ?_
        have e67 := e6.trans e7
        have c7 := c6.ext e7
        have pq : p.block ≠ q.block := by have := st.lt; omega
        have d0 := duo_new hk ((st.ext e5).ext e67) (rt.ext e67) (by have := e3.1; omega) pq
        have hfoot : ∀ x, (DS.mk p q k ⟨none, 0, 0⟩ ⟨none, 0, 0⟩ [] 0).foot x → h3.size ≤ x := by
          rintro x (rfl | ⟨z, hz, rfl⟩ | rfl | ⟨z, hz, rfl⟩)
          · exact hpb
          · cases hz
          · have := e4.1; dsimp only; omega
          · cases hz
        generalize hdd : (DS.mk p q k ⟨none, 0, 0⟩ ⟨none, 0, 0⟩ [] 0) = d at d0 hfoot
        have hdp : d.p = p := by rw [← hdd]
        have hdq : d.q = q := by rw [← hdd]
        have hda : d.all = [] := by rw [← hdd]
        rw [← hdp, ← hdq]
        refine s_allocL (k := .u8) [65, wrapI .u8 (subI .i64 226 i), wrapI .u8 (addI .i64 129 i)] (fun v hv => by
          simp only [List.mem_cons, List.not_mem_nil, or_false] at hv
          rcases hv with rfl | rfl | rfl
          · exact fits_u8.2 (by omega)
          · exact range_u8 _
          · exact range_u8 _) (by simp) fun h8 e8 o8 => wp_call (c_copyBytes o8.lst (by simp)) fun v h9 e9 hv => ?_
        have hv : OwnL h8.size .u8 h9 v.1 _ := hv
        have c9 := (c7.ext e8).ext e9
        have d9 := (d0.ext e8).ext e9
        have e39 : Ext h3 h9 := (((e4.trans e5).trans e67).trans e8).trans e9
        have e09 : Ext h h9 := (e2.trans e3).trans e39
        have hn9 : n ≤ h9.size := Nat.le_trans hn e09.1
        refine s_feed1 M d9 hn9 hv.lst (by rw [hda]; simp) fun y1 h10 hm10 => s_feed2 hm10 d9 hn9 (o8.ext e9).lst (fun _ z hz hx => ?_) (by rw [hda]; simp) fun y2 h11 d' zz c11 u11 nx hl11 hy1 hy2 _ _ => ?_
        · cases hz
          have := (d0.lo _ hx).2
          dsimp only at this; omega
        rw [hda] at hl11
        have hl11' : d'.all.length = 3 := by simpa using hl11
        have f11 : ∀ x, d'.foot x → h3.size ≤ x := fun x hx => by
          rcases nx.foot x hx with hh | hh
          · exact hfoot x hh
          · have := e39.1; omega
        have e03 := e2.trans e3
        have k11 : Crowd S n h11 G' w a b m := c9.chg c11 (fun j e x hj hx hy => by have := (c3.pool.lt hj hx).2; have := hfoot x hy; omega) (fun hy => by have := (c3.ow.lt rfl).2; have := hfoot _ hy; omega)
          (fun z hz hy => by have := (c3.oa.lt hz).2; have := hfoot _ hy; omega) (fun z hz hy => by have := (c3.ob.lt hz).2; have := hfoot _ hy; omega)
        refine wp_call (c_sameInts hy1 hy2) fun r h12 e12 hr => ?_
        rw [sameB hr]
        have k12 := k11.ext e12
        have u12 := u11.ext e12
        have hn12 : n ≤ h12.size := Nat.le_trans hn9 (Nat.le_trans c11.1 e12.1)
        obtain ⟨l1, l2⟩ := k12.len
        have e0c : Ext h h12 := by
          have : Chg d.foot h9 h12 := c11.ext e12
          exact Keep.trans e09 (this.keep e09.1 fun x hx hy => by have := hfoot x hy; have := e03.1; omega)
        refine s_ifF (wp_load1 (b := .sl) _ a rfl k12.c0 (wp_push k12.oa hn12 (new := [.pointer (some d.p)]) rfl (by intro v hv; rw [List.mem_singleton.1 hv]; rfl) rfl (by omega) (by omega) fun ra h13 oa13 la13 ua13 ba13 => ?_))
        have aw := k12.aw
        have ow13 := k12.ow.keep (h' := h13) fun z hz => by cases hz; exact ua13.2.1 _ (k12.ow.lt rfl).2 fun z hz e => aw z hz e
        refine s_setC' (slv ra) ow13 (by simp) rfl fun h14 ow14 u14 => ?_
        have ra_ne : ∀ z, ra.base = some z → z.block ≠ w.block := fun z hz => by
          rcases ba13 z hz with hh | hh
          · exact aw z hh
          · have := (k12.ow.lt rfl).2; omega
        have oa14 : Own n 1 h14 ra (psOf G' m ++ [.pointer (some d.p)]) := oa13.keep fun z hz => u14.2.1 _ (oa13.lt hz).2 fun y hy e => by cases hy; exact ra_ne z hz e.symm
        have ob13 : Own n 1 h13 b (qsOf G' m) := k12.ob.keep fun z hz => ua13.2.1 _ (k12.ob.lt hz).2 fun y hy e => k12.ab y z hy hz e
        have ob14 : Own n 1 h14 b (qsOf G' m) := ob13.keep fun z hz => u14.2.1 _ (ob13.lt hz).2 fun y hy e => by cases hy; exact k12.bw z hz e.symm
        have s12 : h12.size ≤ h13.size := ua13.1
        have s13 : h13.size ≤ h14.size := u14.1
        refine wp_load1 (b := .sl) _ b rfl (cells_iff.1 ow14.cells' 1 _ rfl) (wp_push ob14 (by omega) (new := [.pointer (some d.q)]) rfl (by intro v hv; rw [List.mem_singleton.1 hv]; rfl) rfl (by omega) (by omega) fun rb h15 ob15 lb15 ub15 bb15 => ?_)
        have ow15 := ow14.keep (h' := h15) fun z hz => by cases hz; exact ub15.2.1 _ (ow14.lt rfl).2 fun z hz e => k12.bw z hz e
        refine s_setC' (slv rb) ow15 (by simp) rfl fun h16 ow16 u16 => ?_
        have rb_ne : ∀ z, rb.base = some z → z.block ≠ w.block := fun z hz => by
          rcases bb15 z hz with hh | hh
          · exact k12.bw z hh
          · have := (ow14.lt rfl).2; omega
        have rab : ∀ x y, ra.base = some x → b.base = some y → x.block ≠ y.block := fun x y hx hy e => by
          rcases ba13 x hx with hh | hh
          · exact k12.ab x y hh hy e
          · have := (k12.ob.lt hy).2; omega
        have oa15 : Own n 1 h15 ra (psOf G' m ++ [.pointer (some d.p)]) := oa14.keep fun z hz => ub15.2.1 _ (oa14.lt hz).2 fun y hy e => rab z y hz hy e.symm
        have oa16 : Own n 1 h16 ra (psOf G' m ++ [.pointer (some d.p)]) := oa15.keep fun z hz => u16.2.1 _ (oa15.lt hz).2 fun y hy e => by cases hy; exact ra_ne z hz e.symm
        have ob16 : Own n 1 h16 rb (qsOf G' m ++ [.pointer (some d.q)]) := ob15.keep fun z hz => u16.2.1 _ (ob15.lt hz).2 fun y hy e => by cases hy; exact rb_ne z hz e.symm
        have s15 : h14.size ≤ h15.size := ub15.1
        have s16 : h15.size ≤ h16.size := u16.1
        -- what has changed since h12
        let F : Nat → Prop := fun x => x = w.block ∨ (∃ z, a.base = some z ∧ z.block = x) ∨ (∃ z, b.base = some z ∧ z.block = x)
        have cF : Chg F h12 h16 := (((Chg.of_upd ua13 fun z hz _ => .inr (.inl ⟨z, hz, rfl⟩)).upd u14 fun z hz _ => by cases hz; exact .inl rfl).upd ub15 fun z hz _ => .inr (.inr ⟨z, hz, rfl⟩)).upd u16 fun z hz _ => by cases hz; exact .inl rfl
        have hFG : ∀ j e x, G' j = some e → e.foot x → ¬ F x := fun j e x hj hx => by
          rintro (rfl | ⟨z, hz, rfl⟩ | ⟨z, hz, rfl⟩)
          · exact k12.fw j e hj hx
          · exact k12.fa j e z hj hz hx
          · exact k12.fb j e z hj hz hx
        have hFd : ∀ x, d'.foot x → ¬ F x := fun x hx => by
          have hx3 := f11 x hx
          rintro (rfl | ⟨z, hz, rfl⟩ | ⟨z, hz, rfl⟩)
          · have := (c3.ow.lt rfl).2; omega
          · have := (c3.oa.lt hz).2; omega
          · have := (c3.ob.lt hz).2; omega
        have u16' : Duo S n h16 d' := u12.chg cF hFd
        have p16 : Pool S n h16 G' := k12.pool.chg cF hFG
        have hnew : G' (2 + m) = none := none2 m (Nat.le_refl _)
        have padd : Pool S n h16 (upd G' (2 + m) d') := p16.add (m := h3.size) u16' f11 fun j e x hj hx => (c3.pool.lt hj hx).2
        have aF : ∀ z, ra.base = some z → (a.base = some z ∨ h12.size ≤ z.block) := ba13
        refine s_ret ⟨rfl, rfl, ?_, m + 1, upd G' (2 + m) d', ra, rb, by omega, ?_, s2.upd (by rw [hl11']; omega), fun j hj => by rw [upd_other _ _ (by omega)]; exact none2 j (by omega), by rw [upd_other _ _ (by omega)]; exact g0, by rw [upd_other _ _ (by omega)]; exact g1, ?_, ?_⟩
        · refine Keep.trans e0c (cF.keep e0c.1 fun x hx => ?_)
          rintro (rfl | ⟨z, hz, rfl⟩ | ⟨z, hz, rfl⟩)
          · omega
          · have := ha z hz; omega
          · have := hb z hz; omega
        · exact {
            pool := padd
            ow := ow16
            oa := by rw [psOf_new, nx.p]; exact oa16
            ob := by rw [qsOf_new, nx.q]; exact ob16
            there := fun j hj => by
              by_cases hjm : j = m
              · subst hjm; exact ⟨d', upd_same ..⟩
              · rw [upd_other _ _ (by omega)]; exact k12.there j (by omega)
            aw := ra_ne
            bw := rb_ne
            ab := fun x y hx hy e => by
              rcases bb15 y hy with hh | hh
              · exact rab x y hx hh e
              · have := (oa14.lt hx).2; omega
            fw := fun j e hj hx => by
              by_cases hji : j = 2 + m
              · subst hji; rw [upd_same] at hj; cases hj; exact hFd _ hx (.inl rfl)
              · rw [upd_other _ _ hji] at hj; exact k12.fw j e hj hx
            fa := fun j e z hj hz hx => by
              by_cases hji : j = 2 + m
              · subst hji; rw [upd_same] at hj; cases hj
                rcases ba13 z hz with hh | hh
                · exact hFd _ hx (.inr (.inl ⟨z, hh, rfl⟩))
                · have := (u12.lo _ hx).2; omega
              · rw [upd_other _ _ hji] at hj
                rcases ba13 z hz with hh | hh
                · exact k12.fa j e z hj hh hx
                · have := (k12.pool.lt hj hx).2; omega
            fb := fun j e z hj hz hx => by
              by_cases hji : j = 2 + m
              · subst hji; rw [upd_same] at hj; cases hj
                rcases bb15 z hz with hh | hh
                · exact hFd _ hx (.inr (.inr ⟨z, hh, rfl⟩))
                · have := (u12.lo _ hx).2; omega
              · rw [upd_other _ _ hji] at hj
                rcases bb15 z hz with hh | hh
                · exact k12.fb j e z hj hh hx
                · have := (k12.pool.lt hj hx).2; omega }
        · intro z hz
          rcases ba13 z hz with hh | hh
          · exact ha z hh
          · have := e0c.1; omega
        · intro z hz
          rcases bb15 z hz with hh | hh
          · exact hb z hh
          · have := e0c.1; omega
      · rintro t vs h3 ⟨rfl, rfl, e3, m', G2, a', b', hm', c3, s3, n3, g0', g1', ha', hb'⟩
        refine s_skip (by decide) (s_tag (s_cast0 ?_))
        rw [add_ok (by omega) (by omega)]
        exact s_ret ⟨fun _ => ⟨((i : Int) + 1, ()), rfl, ⟨e3, i + 1, m', G2, a', b', rfl, by omega, hm', c3, s3, n3, g0', g1', ha', hb'⟩, by dsimp only; omega⟩, fun h => absurd rfl h⟩
    · exact s_ret ⟨fun h => absurd h (by decide), fun _ => ⟨rfl, rfl, e2, m, G', a, b, by omega, c2, s2, g0, g1⟩⟩
  · rintro t vs h2 ⟨rfl, rfl, e2, m, G', a, b, hm, c2, s2, g0, g1⟩
    exact s_tag (s_cast0 (s_ret ⟨rfl, e2, (some w, true, ()), rfl, rfl, G', w, a, b, m, rfl, c2, hm, g0, g1, s2⟩))
end Go.Sw.Codec
