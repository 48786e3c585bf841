/-
  Plain laws of edits (those of chapter 5 that the laws of chapter 7 need).
-/
import Derived.Test.YtncolficnfcdcaaSwG1
set_option linter.unusedVariables false
set_option linter.unusedSimpArgs false
set_option maxRecDepth 100000
namespace Go.Sw.Piece
open Go.Sw.Any Go.Sw.Codec
variable {P : Program} {S : Ids} {h : Heap} {Q : Nat → List Value → Heap → Prop}
abbrev putLen (e : EdD) : Nat := e.2.2.1.2.length
def strip (e : EdD) : EdD := (e.1, e.2.1, (⟨none, 0, 0⟩, e.2.2.1.2), ())
theorem strip_put (es : List EdD) : putsOf (es.map strip) = putsOf es := by simp [putsOf, List.flatMap_map, strip]
theorem strip_plc {len : Int} : ∀ {es : List EdD} {a : Int}, Plc len a (es.map strip) ↔ Plc len a es
 | [], _ => Iff.rfl
 | e :: es, a => by simp only [List.map_cons, Plc, strip_plc (es := es)]; exact Iff.rfl
theorem strip_all (E : List El) : ∀ es : List EdD, allE E (es.map strip) = allE E es
 | [] => rfl
 | e :: es => by rw [List.map_cons, allE_cons, allE_cons, strip_all E es]; rfl
theorem ints_wt {k : IntKind} (x : Sl × List Int) : (Sh.list (.int k)).wt x = x.2.length + 1 := by
 have : ∀ l : List Int, (l.map (Sh.int k).wt).sum = l.length := by
  intro l
  induction l with
  | nil => rfl
  | cons y l ih => rw [List.map_cons, List.sum_cons, ih, List.length_cons, Nat.add_comm]; rfl
 simp only [Sh.wt]
 have h2 := this x.2
 exact congrArg (· + 1) h2
theorem ed_wt (e : EdD) : putLen e + 1 ≤ EdSh.wt e := by
 have h1 := ints_wt (k := .i64) e.2.2.1
 have h2 : putLen e = e.2.2.1.2.length := rfl
 simp only [Sh.wt] at h1 ⊢
 omega
theorem eds_wt (x : Eds) : x.2.length ≤ (Sh.list EdSh).wt x ∧ (putsOf x.2).length ≤ (Sh.list EdSh).wt x ∧ ∀ e, e ∈ x.2 → putLen e ≤ (Sh.list EdSh).wt x := by
 have : ∀ l : List EdD, l.length ≤ (l.map EdSh.wt).sum ∧ (putsOf l).length ≤ (l.map EdSh.wt).sum ∧ ∀ e, e ∈ l → putLen e ≤ (l.map EdSh.wt).sum := by
  intro l
  induction l with
  | nil => exact ⟨Nat.le_refl _, Nat.le_refl _, fun e he => by cases he⟩
  | cons y l ih =>
   have h1 := ed_wt y
   have h2 : (putsOf (y :: l)).length = putLen y + (putsOf l).length := by simp [putsOf]
   rw [List.map_cons, List.sum_cons, List.length_cons, h2]
   refine ⟨by omega, by omega, fun e he => ?_⟩
   rcases List.mem_cons.1 he with rfl | he
   ·omega
   ·have := ih.2.2 e he; omega
 have h1 := this x.2
 have e : (Sh.list EdSh).wt x = (x.2.map EdSh.wt).sum + 1 := rfl
 rw [e]
 exact ⟨by omega, by omega, fun e he => by have := h1.2.2 e he; omega⟩
theorem sum_mem_le {α : Type} (f : α → Nat) {l : List α} {y : α} (hy : y ∈ l) : f y ≤ (l.map f).sum := by
 induction l with
 | nil => cases hy
 | cons z l ih =>
  rw [List.map_cons, List.sum_cons]
  rcases List.mem_cons.1 hy with rfl | hy
  ·omega
  ·have := ih hy; omega
theorem sum_le_sum {α : Type} (f g : α → Nat) : ∀ l : List α, (∀ y, y ∈ l → f y ≤ g y) → (l.map f).sum ≤ (l.map g).sum
 | [], _ => Nat.le_refl _
 | y :: l, h => by
  rw [List.map_cons, List.sum_cons, List.map_cons, List.sum_cons]
  have := h y (List.mem_cons_self ..); have := sum_le_sum f g l fun z hz => h z (List.mem_cons_of_mem _ hz); omega
theorem all_take {E : List El} : ∀ {es : List EdD} {a : Int} {k : Nat}, Plc E.length a es → (k : Int) ≤ a → (allE E es).take k = E.take k
 | [], _, _, _, _ => rfl
 | e :: es, a, k, ⟨h1, h2, h3, h4⟩, hk => by
  have h5 := all_take (E := E) (es := es) (k := e.1.toNat) h4 (by omega)
  rw [allE_cons]
  unfold one1
  rw [h5, List.append_assoc, List.take_append_of_le_length (by rw [List.length_take]; omega), List.take_take, show min k e.1.toNat = k by omega]
theorem size_put {enc : Int} {l : List Int} (hf : fitsE enc l) : (sizeL enc l : Int) = (l.flatMap (putF enc)).length := by
 induction l with
 | nil => rfl
 | cons a l ih =>
  have h1 := putF_len (hf a (List.mem_cons_self ..))
  have h2 := ih fun b hb => hf b (List.mem_cons_of_mem _ hb)
  have h3 : sizeL enc (a :: l) = sizeF enc a + sizeL enc l := by simp [sizeL]
  rw [h3, List.flatMap_cons, List.length_append, h2]; omega
theorem map_new (l : List Int) : (l.map fun a => ((a, -1) : El)).map (fun x : El => x.1) = l := by
 rw [List.map_map]
 conv => rhs; rw [← List.map_id l]
 rfl
theorem blen_new {enc : Int} {l : List Int} : blen enc (l.map fun a => ((a, -1) : El)) = (l.flatMap (putF enc)).length := by
 unfold blen; rw [map_new]
theorem blen_take_drop (enc : Int) (E : List El) (k : Nat) : blen enc E = blen enc (E.take k) + blen enc (E.drop k) := by rw [← blen_append, List.take_append_drop]
def goneB (enc : Int) (E : List El) (es : List EdD) : Int := (es.map fun e => (blen enc (E.take e.2.1.toNat) : Int) - blen enc (E.take e.1.toNat)).sum
theorem blen_all {enc : Int} {E : List El} : ∀ {es : List EdD} {a : Int}, 0 ≤ a → Plc E.length a es → fitsE enc (putsOf es) → (blen enc (allE E es) : Int) = blen enc E + sizeL enc (putsOf es) - goneB enc E es
 | [], _, _, _, _ => by simp [allE, putsOf, goneB, sizeL]
 | e :: es, a, h0, ⟨h1, h2, h3, h4⟩, hf => by
  have hp : putsOf (e :: es) = e.2.2.1.2 ++ putsOf es := by simp [putsOf]
  rw [hp] at hf ⊢
  have hf1 : fitsE enc e.2.2.1.2 := fun x hx => hf x (List.mem_append_left _ hx)
  have hf2 : fitsE enc (putsOf es) := fun x hx => hf x (List.mem_append_right _ hx)
  have ih := blen_all (E := E) (es := es) (by omega) h4 hf2
  have s1 : sizeL enc (e.2.2.1.2 ++ putsOf es) = sizeL enc e.2.2.1.2 + sizeL enc (putsOf es) := by simp [sizeL]
  have g1 : goneB enc E (e :: es) = ((blen enc (E.take e.2.1.toNat) : Int) - blen enc (E.take e.1.toNat)) + goneB enc E es := by simp [goneB]
  have s2 := size_put hf1
  rw [allE_cons, s1, g1]
  unfold one1
  rw [all_take h4 (by omega), blen_append, blen_append, blen_new]
  have h5 := blen_take_drop enc (allE E es) e.2.1.toNat
  rw [all_take h4 (by omega)] at h5
  omega
theorem offs_tk {enc : Int} : ∀ {l : List Int}, fitsE enc l → offs (l.map (tk enc)) = (l.flatMap (putF enc)).length
 | [], _ => rfl
 | a :: l, hf => by
  have h1 := putF_len (hf a (List.mem_cons_self ..))
  rw [List.map_cons, offs_cons, offs_tk fun b hb => hf b (List.mem_cons_of_mem _ hb), List.flatMap_cons, List.length_append]
  show (sizeF enc a).toNat + _ = _; omega
theorem offs_els {enc : Int} (he : known enc) {ps : List Pc} (hb : ∀ q, q ∈ ps → isBytes q.2) (k : Nat) : offs ((toksL enc ps).take k) = blen enc ((els enc ps).take k) := by
 obtain ⟨h1, _, h3⟩ := toksL_els he hb
 rw [h1, ← List.map_take, ← List.map_take, offs_tk fun a ha => h3 a (by obtain ⟨x, hx, rfl⟩ := List.mem_map.1 ha; exact List.mem_map.2 ⟨x, List.mem_of_mem_take hx, rfl⟩)]
 rfl
theorem gone_els {enc : Int} (he : known enc) {ps : List Pc} (hb : ∀ q, q ∈ ps → isBytes q.2) (es : List EdD) : goneE (toksL enc ps) es = goneB enc (els enc ps) es := by
 unfold goneE goneB
 congr 1
 refine List.map_congr_left fun e _ => ?_
 rw [offs_els he hb, offs_els he hb]
def Okay (enc limit : Int) (E : List El) (es : List EdD) : Prop := Plc E.length 0 es ∧ fitsE enc (putsOf es) ∧ (blen enc (allE E es) : Int) ≤ limit
theorem ref_okay {enc limit r : Int} (he : known enc) {ps : List Pc} (hb : ∀ q, q ∈ ps → isBytes q.2) {es : List EdD} (h : RefR enc limit (toksL enc ps) es r) : (r = 0 ↔ es.length ≤ 70000 ∧ Okay enc limit (els enc ps) es) := by
 have hl : (toksL enc ps).length = (els enc ps).length := (els_len ..).symm
 have h0 : (offs (toksL enc ps) : Int) = blen enc (els enc ps) := by
  have := offs_els he hb (toksL enc ps).length
  rw [List.take_length, hl, List.take_length] at this; exact congrArg _ this
 have key : Plc (els enc ps).length 0 es → fitsE enc (putsOf es) → (blen enc (allE (els enc ps) es) : Int) = offs (toksL enc ps) + sizeL enc (putsOf es) - goneE (toksL enc ps) es := fun a b => by
  rw [blen_all (Int.le_refl 0) a b, gone_els he hb, h0]
 cases h with
 | many h => exact ⟨fun h => (by cases h), fun h2 => by omega⟩
 | place a b => exact ⟨fun h => (by cases h), fun h2 => absurd (hl ▸ h2.2.1) b⟩
 | fit a b c => exact ⟨fun h => (by cases h), fun h2 => absurd h2.2.2.1 c⟩
 | full a b c d => rw [hl] at b; exact ⟨fun h => (by cases h), fun h2 => by have := key b c; have := h2.2.2.2; omega⟩
 | ok a b c d => rw [hl] at b; exact ⟨fun _ => ⟨a, b, c, by rw [key b c]; exact d⟩, fun _ => rfl⟩
def tg (x : El) : Bool := decide (x.2 ≠ -1)
theorem one_sub {E : List El} {e : EdD} (h : e.1 ≤ e.2.1) : ((one1 E e).filter tg).Sublist (E.filter tg) := by
 unfold one1
 rw [List.filter_append, List.filter_append]
 have h1 : (e.2.2.1.2.map fun a => ((a, -1) : El)).filter tg = [] := by
  rw [List.filter_eq_nil_iff]
  intro x hx
  obtain ⟨a, _, rfl⟩ := List.mem_map.1 hx
  simp [tg]
 rw [h1, List.append_nil, ← List.filter_append]
 have h2 : (E.take e.1.toNat ++ E.drop e.2.1.toNat).Sublist E := by
  conv => rhs; rw [← List.take_append_drop e.1.toNat E]
  refine List.Sublist.append (List.Sublist.refl _) ?_
  have : E.drop e.2.1.toNat = (E.drop e.1.toNat).drop (e.2.1.toNat - e.1.toNat) := by rw [List.drop_drop]; congr 1; omega
  rw [this]; exact List.drop_sublist ..
 exact h2.filter _
theorem all_sub {E : List El} : ∀ {es : List EdD}, (∀ e, e ∈ es → e.1 ≤ e.2.1) → ((allE E es).filter tg).Sublist (E.filter tg)
 | [], _ => List.Sublist.refl _
 | e :: es, h => by rw [allE_cons]; exact (one_sub (h e (List.mem_cons_self ..))).trans (all_sub fun x hx => h x (List.mem_cons_of_mem _ hx))
theorem Plc.le {L : Int} : ∀ {es : List EdD} {a : Int}, Plc L a es → ∀ e, e ∈ es → e.1 ≤ e.2.1
 | e :: es, a, ⟨h1, h2, h3, h4⟩, x, hx => by
  rcases List.mem_cons.1 hx with rfl | hx
  ·exact h2
  ·exact Plc.le h4 x hx
def GoodT (enc : Int) (l : List Int) (x : El) : Prop := 0 ≤ x.2 ∧ x.2 + (putF enc x.1).length ≤ l.length ∧ (l.drop x.2.toNat).take (putF enc x.1).length = putF enc x.1
theorem loaded_good {enc : Int} {l : List Int} : ∀ (ts : List (Int × Int)) (o : Nat), (∀ t, t ∈ ts → t.2 = sizeF enc t.1 ∧ 0 < sizeF enc t.1) → l.drop o = ts.flatMap (fun t => putF enc t.1) → o ≤ l.length →
  (∀ x, x ∈ elsF 0 o ts → GoodT enc l x ∧ (o : Int) ≤ x.2) ∧ (elsF 0 o ts).Pairwise fun x y => x.2 < y.2
 | [], o, _, _, _ => ⟨fun x hx => (by cases hx), List.Pairwise.nil⟩
 | t :: ts, o, ht, hl, ho => by
  obtain ⟨h1, h2⟩ := ht t (List.mem_cons_self ..)
  have h3 := putF_len h2
  have hlen := congrArg List.length hl
  rw [List.flatMap_cons, List.length_append, List.length_drop] at hlen
  have h4 : l.drop (o + t.2.toNat) = ts.flatMap fun t => putF enc t.1 := by
   rw [← List.drop_drop, hl, List.flatMap_cons, List.drop_left' (by omega)]
  obtain ⟨i1, i2⟩ := loaded_good ts (o + t.2.toNat) (fun x hx => ht x (List.mem_cons_of_mem _ hx)) h4 (by omega)
  unfold elsF
  have e0 : ((if (0 : Int) < 0 then -1 else 0 + (o : Int)) : Int) = o := by simp
  rw [e0]
  refine ⟨fun x hx => ?_, List.Pairwise.cons (fun y hy => ?_) i2⟩
  ·rcases List.mem_cons.1 hx with rfl | hx
   ·refine ⟨⟨by dsimp only; omega, by dsimp only; omega, ?_⟩, Int.le_refl _⟩
    dsimp only
    rw [Int.toNat_natCast, hl, List.flatMap_cons, List.take_left' rfl]
   ·have := i1 x hx; exact ⟨this.1, by have := this.2; omega⟩
  ·have := (i1 y hy).2; dsimp only; omega
theorem loaded_tags {enc : Int} (he : known enc) {l : List Int} (hb : isBytes l) : (∀ x, x ∈ elsF 0 0 (toks enc l) → GoodT enc l x) ∧ (elsF 0 0 (toks enc l)).Pairwise fun x y => x.2 < y.2 := by
 have h1 := toks_is he hb
 have := loaded_good (enc := enc) (l := l) (toks enc l) 0 (fun t ht => ⟨(h1.1 t ht).2, (h1.1 t ht).1⟩) (by rw [List.drop_zero]; exact h1.2.symm) (Nat.zero_le _)
 exact ⟨fun x hx => (this.1 x hx).1, this.2⟩
end Go.Sw.Piece

set_option linter.unusedVariables false
set_option linter.unusedSimpArgs false
set_option maxRecDepth 100000
namespace Go.Sw.Hist
open Go.Sw.Any Go.Sw.Codec Go.Sw.Piece
def OkE (enc limit : Int) (E : List El) : Prop := (∀ a, a ∈ E.map (·.1) → 0 < sizeF enc a) ∧ (blen enc E : Int) ≤ limit
theorem blen_ge {enc : Int} : ∀ {E : List El}, (∀ a, a ∈ E.map (·.1) → 0 < sizeF enc a) → E.length ≤ blen enc E
 | [], _ => Nat.zero_le _
 | x :: E, h => by
  have ih := blen_ge (E := E) fun a ha => h a (List.mem_cons_of_mem _ ha)
  have h1 := putF_len (h x.1 (List.mem_cons_self ..))
  have h2 := h x.1 (List.mem_cons_self ..)
  have e : blen enc (x :: E) = (putF enc x.1).length + blen enc E := by unfold blen; rw [List.map_cons, List.flatMap_cons, List.length_append]
  rw [e, List.length_cons]; omega
theorem OkE.len {enc limit : Int} {E : List El} (h : OkE enc limit E) : (E.length : Int) ≤ limit := by have := blen_ge h.1; have := h.2; omega
theorem mem_one {E : List El} {e : EdD} {x : El} (h : x ∈ one1 E e) : x ∈ E ∨ x.1 ∈ e.2.2.1.2 := by
 unfold one1 at h
 rcases List.mem_append.1 h with h | h
 ·rcases List.mem_append.1 h with h | h
  ·exact .inl (List.mem_of_mem_take h)
  ·obtain ⟨a, ha, rfl⟩ := List.mem_map.1 h
   exact .inr ha
 ·exact .inl (List.mem_of_mem_drop h)
theorem mem_all {E : List El} : ∀ {c : List EdD} {x : El}, x ∈ allE E c → x ∈ E ∨ x.1 ∈ putsOf c
 | [], x, h => .inl h
 | e :: c, x, h => by
  rw [allE_cons] at h
  have hp : putsOf (e :: c) = e.2.2.1.2 ++ putsOf c := by simp [putsOf]
  rw [hp]
  rcases mem_one h with h | h
  ·rcases mem_all h with h | h
   ·exact .inl h
   ·exact .inr (List.mem_append_right _ h)
  ·exact .inr (List.mem_append_left _ h)
theorem OkE.all {enc limit : Int} {E : List El} {c : List EdD} (h : OkE enc limit E) (o : Okay enc limit E c) : OkE enc limit (allE E c) := by
 refine ⟨fun a ha => ?_, o.2.2⟩
 obtain ⟨x, hx, rfl⟩ := List.mem_map.1 ha
 rcases mem_all hx with hx | hx
 ·exact h.1 _ (List.mem_map.2 ⟨x, hx, rfl⟩)
 ·exact o.2.1 _ hx
def playC (E : List El) (cs : List (List EdD)) : List El := cs.foldl allE E
def OkC (enc limit : Int) : List El → List (List EdD) → Prop
 | _, [] => True
 | E, c :: cs => c.length ≤ 70000 ∧ Okay enc limit E c ∧ OkC enc limit (allE E c) cs
theorem playC_snoc (E : List El) (cs : List (List EdD)) (c : List EdD) : playC E (cs ++ [c]) = allE (playC E cs) c := by simp [playC]
theorem OkC.snoc {enc limit : Int} {c : List EdD} (hl : c.length ≤ 70000) : ∀ {cs : List (List EdD)} {E : List El}, OkC enc limit E cs → Okay enc limit (playC E cs) c → OkC enc limit E (cs ++ [c])
 | [], _, _, o => ⟨hl, o, trivial⟩
 | d :: cs, E, ⟨h1, h2, h3⟩, o => ⟨h1, h2, OkC.snoc hl h3 o⟩
theorem OkC.ok {enc limit : Int} : ∀ {cs : List (List EdD)} {E : List El}, OkE enc limit E → OkC enc limit E cs → OkE enc limit (playC E cs)
 | [], _, h, _ => h
 | c :: cs, E, h, ⟨_, h2, h3⟩ => show OkE enc limit (playC (allE E c) cs) from OkC.ok (h.all h2) h3
abbrev mvC' (c : List EdD) : List MvD := c.map mvOf
theorem eff_no {E : List El} {e : EdD} (he : e.1 ≤ e.2.1) (h : effE e = false) : one1 E e = E := by
 unfold effE at h
 rw [Bool.or_eq_false_iff, decide_eq_false_iff_not, decide_eq_false_iff_not] at h
 have hn : e.2.2.1.2 = [] := List.eq_nil_of_length_eq_zero (by omega)
 unfold one1
 rw [hn, show e.2.1 = e.1 by omega]; simp
theorem eff_all {E : List El} : ∀ {c : List EdD}, (∀ e ∈ c, e.1 ≤ e.2.1) → c.any effE = false → allE E c = E
 | [], _, _ => rfl
 | e :: c, hp, h => by
  rw [List.any_cons, Bool.or_eq_false_iff] at h
  rw [allE_cons, eff_all (fun x hx => hp x (List.mem_cons_of_mem _ hx)) h.2, eff_no (hp e (List.mem_cons_self ..)) h.1]
def effC (cs : List (List EdD)) : Bool := cs.any fun c => c.any effE
theorem eff_play {enc limit : Int} : ∀ {cs : List (List EdD)} {E : List El}, OkC enc limit E cs → effC cs = false → playC E cs = E
 | [], _, _, _ => rfl
 | c :: cs, E, ⟨_, h2, h3⟩, h => by
  unfold effC at h
  rw [List.any_cons, Bool.or_eq_false_iff] at h
  have h4 := eff_all (E := E) h2.1.le h.1
  rw [h4] at h3
  have := eff_play h3 h.2
  show playC (allE E c) cs = E
  rw [h4]; exact this
theorem strip_mv (c : List EdD) : mvC' (c.map strip) = mvC' c := by unfold mvC'; rw [List.map_map]; rfl
theorem strip_eff (c : List EdD) : (c.map strip).any effE = c.any effE := by rw [List.any_map]; rfl
theorem strip_okay {enc limit : Int} {E : List El} {c : List EdD} : Okay enc limit E (c.map strip) ↔ Okay enc limit E c := by
 unfold Okay; rw [strip_plc, strip_put, strip_all]
structure GM where
 chs : List (List EdD)
 bg : Int
 en : Int
 st : Int
def playG (E : List El) (l : List GM) : List El := l.foldl (fun E g => playC E g.chs) E
def OkG (enc limit : Int) : List El → List GM → Prop
 | _, [] => True
 | E, g :: l => OkC enc limit E g.chs ∧ OkG enc limit (playC E g.chs) l
def stG (s : Int) (l : List GM) : Int := l.foldl (fun _ g => g.st) s
theorem playG_snoc (E : List El) (l : List GM) (g : GM) : playG E (l ++ [g]) = playC (playG E l) g.chs := by simp [playG]
theorem playG_append (E : List El) (l m : List GM) : playG E (l ++ m) = playG (playG E l) m := by simp [playG]
theorem stG_snoc (s : Int) (l : List GM) (g : GM) : stG s (l ++ [g]) = g.st := by simp [stG]
theorem stG_append (s : Int) (l m : List GM) : stG s (l ++ m) = stG (stG s l) m := by simp [stG]
theorem OkG.append {enc limit : Int} : ∀ {l m : List GM} {E : List El}, OkG enc limit E (l ++ m) ↔ OkG enc limit E l ∧ OkG enc limit (playG E l) m
 | [], m, E => by simp [OkG, playG]
 | g :: l, m, E => by
  have := OkG.append (l := l) (m := m) (E := playC E g.chs) (enc := enc) (limit := limit)
  simp only [List.cons_append, OkG, this, and_assoc]
  exact Iff.rfl
theorem OkG.ok {enc limit : Int} : ∀ {l : List GM} {E : List El}, OkE enc limit E → OkG enc limit E l → OkE enc limit (playG E l)
 | [], _, h, _ => h
 | g :: l, E, h, ⟨h1, h2⟩ => show OkE enc limit (playG (playC E g.chs) l) from OkG.ok (OkC.ok h h1) h2
structure GrpM (enc : Int) (E : List El) (s : Int) (g : Grp) (m : GM) : Prop where
 eb : els enc g.sb.ps = E
 ee : els enc g.sh.ps = playC E m.chs
 mv : mvs g = m.chs.map mvC'
 bg : g.bg = m.bg
 en : g.en = m.en
 old : g.old = s
 fr : g.fresh = m.st
inductive Chain (enc : Int) : List El → Int → List Grp → List GM → Prop where
 | nil (E : List El) (s : Int) : Chain enc E s [] []
 | cons {E : List El} {s : Int} {g : Grp} {m : GM} {gs : List Grp} {ms : List GM} : GrpM enc E s g m → Chain enc (playC E m.chs) m.st gs ms → Chain enc E s (g :: gs) (m :: ms)
theorem Chain.len {enc : Int} {E : List El} {s : Int} {gs : List Grp} {ms : List GM} (c : Chain enc E s gs ms) : gs.length = ms.length := by
 induction c with
 | nil => rfl
 | cons _ _ ih => simp [ih]
theorem Chain.snoc {enc : Int} {E : List El} {s : Int} {gs : List Grp} {ms : List GM} {g : Grp} {m : GM} (c : Chain enc E s gs ms) (h : GrpM enc (playG E ms) (stG s ms) g m) : Chain enc E s (gs ++ [g]) (ms ++ [m]) := by
 induction c with
 | nil E s => exact .cons h (.nil _ _)
 | cons h1 _ ih => exact .cons h1 (ih h)
end Go.Sw.Hist

set_option linter.unusedVariables false
set_option linter.unusedSimpArgs false
set_option maxRecDepth 100000
namespace Go.Sw.Hist
open Go.Sw.Any Go.Sw.Codec Go.Sw.Piece
abbrev MkL := List (Int × Int)
structure NowM where
 chs : List (List EdD)
 bg : Int
 om : MkL
 ow : List Int
structure Mo where
 E0 : List El
 depth : Int
 lost : List GM
 done : List GM
 next : List GM
 now : Option NowM
 marks : MkL
 watched : List Int
 saved : Int
 last : Int
def Mo.C (M : Mo) : List El := playG M.E0 (M.lost ++ M.done)
def Mo.st (M : Mo) : Int := stG 0 (M.lost ++ M.done)
def Mo.ch (M : Mo) : List (List EdD) := (M.now.map (·.chs)).getD []
def Mo.E (M : Mo) : List El := playC M.C M.ch
def Mo.all (M : Mo) : List GM := M.lost ++ M.done ++ M.next
def Mo.sz (M : Mo) : Nat := M.last.toNat + (M.all.map (·.chs.length)).sum + M.ch.length
def Mo.ins (M : Mo) (a : Int) : Prop := 0 ≤ a ∧ a ≤ M.E.length
def folP (x : List MvD) (l : MkL) : MkL := l.map fun e => (e.1, (goL e.2 x).1)
def redoP (l : List (List MvD)) (ms : MkL) : MkL := l.foldl (fun s m => folP m s) ms
def putP (name a : Int) : MkL → MkL
 | [] => [(name, a)]
 | e :: l => if e.1 < name then e :: putP name a l else if e.1 = name then (name, a) :: l else (name, a) :: e :: l
def Mo.chg (M : Mo) (q : NowM) (es : List EdD) : Mo := { M with now := some { q with chs := q.chs ++ [es.map strip] }, marks := folP (mvC' es) M.marks, watched := folW (mvC' es) M.watched }
def Mo.keep (M : Mo) (q : NowM) (a : Int) : Mo :=
 let l := M.done ++ [⟨q.chs, q.bg, a, M.last + 1⟩]
 { M with now := none, next := [], last := M.last + 1, lost := if M.depth < (M.done.length : Int) + 1 then M.lost ++ l.take 1 else M.lost, done := if M.depth < (M.done.length : Int) + 1 then l.drop 1 else l }
structure MoOk (enc limit : Int) (M : Mo) (N : Nat) : Prop where
 en : known enc
 li : 0 ≤ limit ∧ limit ≤ 65536
 dp : 1 ≤ M.depth ∧ M.depth ≤ 200
 e0 : OkE enc limit M.E0
 ok : OkG enc limit M.E0 M.all
 okn : OkC enc limit M.C M.ch
 la : 0 ≤ M.last
 nums : ∀ g ∈ M.all, 0 < g.st ∧ g.st ≤ M.last
 mono : M.all.Pairwise fun a b => a.st < b.st
 mi : ∀ e ∈ M.marks, 0 ≤ e.2 ∧ e.2 ≤ M.E.length
 so : M.marks.Pairwise fun a b => a.1 < b.1
 mb : M.marks.length ≤ N
 wk : ∀ v ∈ M.watched, v ≤ M.E.length
 wl : M.watched.length ≤ N
 nw : ∀ q, M.now = some q → (∀ e ∈ q.om, 0 ≤ e.2 ∧ e.2 ≤ M.C.length) ∧ (q.om.Pairwise fun a b => a.1 < b.1) ∧ q.om.length ≤ N ∧ (∀ v ∈ q.ow, v ≤ M.C.length) ∧ q.ow.length ≤ N
 sz : M.sz ≤ N
variable {enc limit : Int} {M : Mo} {N : Nat}
theorem MoOk.mono' {N' : Nat} (o : MoOk enc limit M N) (hN : N ≤ N') : MoOk enc limit M N' :=
 ⟨o.en, o.li, o.dp, o.e0, o.ok, o.okn, o.la, o.nums, o.mono, o.mi, o.so, Nat.le_trans o.mb hN, o.wk, Nat.le_trans o.wl hN, fun q hq => let ⟨a, b, c, d, e⟩ := o.nw q hq; ⟨a, b, Nat.le_trans c hN, d, Nat.le_trans e hN⟩, Nat.le_trans o.sz hN⟩
theorem MoOk.okC (o : MoOk enc limit M N) : OkE enc limit M.C := OkG.ok o.e0 (OkG.append.1 o.ok).1
theorem MoOk.okE (o : MoOk enc limit M N) : OkE enc limit M.E := OkC.ok o.okC o.okn
theorem Mo.E_shut (hn : M.now = none) : M.E = M.C := by unfold Mo.E Mo.ch; rw [hn]; rfl
theorem MoOk.len (o : MoOk enc limit M N) : (M.E.length : Int) ≤ 65536 := by have := o.okE.len; have := o.li; omega
def emb (l : MkL) : Ents := l.map fun e => (e.1, e.2, 0)
theorem emb_fol (x : List MvD) (l : MkL) : folM x (emb l) = emb (folP x l) := by simp [folM, emb, folP]
theorem emb_in {L : Int} {ms : MkL} {ws : List Int} : MsIn L (emb ms) ws ↔ (∀ e ∈ ms, 0 ≤ e.2 ∧ e.2 ≤ L) ∧ ∀ v ∈ ws, v ≤ L := by
 unfold MsIn emb
 refine and_congr ⟨fun h e he => h _ (List.mem_map.2 ⟨e, he, rfl⟩), fun h e he => ?_⟩ Iff.rfl
 obtain ⟨x, hx, rfl⟩ := List.mem_map.1 he
 exact h x hx
theorem MoOk.ms (o : MoOk enc limit M N) : MsIn M.E.length (emb M.marks) M.watched := emb_in.2 ⟨o.mi, o.wk⟩
theorem fol_key (x : List MvD) (l : MkL) : (folP x l).map (·.1) = l.map (·.1) := by simp [folP]
theorem so_key {a b : MkL} (h : b.map (·.1) = a.map (·.1)) (ha : a.Pairwise fun x y => x.1 < y.1) : b.Pairwise fun x y => x.1 < y.1 := by
 have h1 : (a.map (·.1)).Pairwise fun x y => x < y := List.pairwise_map.2 ha
 rw [← h] at h1
 exact List.pairwise_map.1 h1
theorem len_key {a b : MkL} (h : b.map (·.1) = a.map (·.1)) : b.length = a.length := by have := congrArg List.length h; simpa using this
theorem MoOk.begin (o : MoOk enc limit M N) (hn : M.now = none) (a : Int) : MoOk enc limit { M with now := some ⟨[], a, M.marks, M.watched⟩ } N := by
 have he := Mo.E_shut hn
 refine ⟨o.en, o.li, o.dp, o.e0, o.ok, trivial, o.la, o.nums, o.mono, ?_, o.so, o.mb, ?_, o.wl, fun q hq => ?_, ?_⟩
 ·have := o.mi; rw [he] at this; exact this
 ·have := o.wk; rw [he] at this; exact this
 ·cases hq
  have h1 := o.mi; have h2 := o.wk
  rw [he] at h1 h2
  exact ⟨h1, o.so, o.mb, h2, o.wl⟩
 ·have := o.sz; unfold Mo.sz Mo.ch at this ⊢; rw [hn] at this; exact this
theorem Mo.chg_E {q : NowM} (hn : M.now = some q) (es : List EdD) : (M.chg q es).E = allE M.E es := by
 unfold Mo.E Mo.ch Mo.chg
 rw [hn]
 show playC M.C (q.chs ++ [es.map strip]) = _
 rw [playC_snoc, strip_all]; rfl
theorem MoOk.chg {q : NowM} {es : List EdD} (o : MoOk enc limit M N) (hn : M.now = some q) (hl : es.length ≤ 70000) (hok : Okay enc limit M.E es) : MoOk enc limit (M.chg q es) (N + 1) := by
 have hE := Mo.chg_E hn es
 have hch : M.ch = q.chs := by unfold Mo.ch; rw [hn]; rfl
 have hlen := allE_len hok.1 (Int.le_refl _)
 have hm := fol_in (by omega) (plM_of hok.1) o.ms
 rw [← hlen, emb_fol] at hm
 have hm := emb_in.1 hm
 have hk := fol_key (mvC' es) M.marks
 refine ⟨o.en, o.li, o.dp, o.e0, o.ok, ?_, o.la, o.nums, o.mono, ?_, so_key hk o.so, ?_, ?_, ?_, fun q' hq => ?_, ?_⟩
 ·show OkC enc limit M.C (q.chs ++ [es.map strip])
  refine OkC.snoc (by rw [List.length_map]; exact hl) (by have := o.okn; rw [hch] at this; exact this) (strip_okay.2 ?_)
  have : M.E = playC M.C q.chs := by unfold Mo.E; rw [hch]
  rw [← this]; exact hok
 ·rw [hE]; exact hm.1
 ·have := len_key hk; have h2 := o.mb; show (folP (mvC' es) M.marks).length ≤ _; omega
 ·rw [hE]; exact hm.2
 ·show (folW _ _).length ≤ _; unfold folW; rw [List.length_map]; have := o.wl; omega
 ·have := o.nw q hn
  cases hq
  exact ⟨this.1, this.2.1, Nat.le_succ_of_le this.2.2.1, this.2.2.2.1, Nat.le_succ_of_le this.2.2.2.2⟩
 ·have := o.sz
  unfold Mo.sz at this ⊢
  rw [hch] at this
  show M.last.toNat + (M.all.map (·.chs.length)).sum + (q.chs ++ [es.map strip]).length ≤ N + 1
  rw [List.length_append, List.length_singleton]; omega
theorem MoOk.endNo {q : NowM} (o : MoOk enc limit M N) (hn : M.now = some q) (he : effC q.chs = false) : MoOk enc limit { M with now := none } N := by
 have hch : M.ch = q.chs := by unfold Mo.ch; rw [hn]; rfl
 have hE : M.E = M.C := by have := o.okn; rw [hch] at this; unfold Mo.E; rw [hch]; exact eff_play this he
 refine ⟨o.en, o.li, o.dp, o.e0, o.ok, trivial, o.la, o.nums, o.mono, ?_, o.so, o.mb, ?_, o.wl, fun q' hq => (by cases hq), ?_⟩
 ·have := o.mi; rw [hE] at this; exact this
 ·have := o.wk; rw [hE] at this; exact this
 ·have := o.sz; unfold Mo.sz at this ⊢; exact Nat.le_trans (by show M.last.toNat + (M.all.map (·.chs.length)).sum + 0 ≤ _; omega) this
theorem Mo.keep_done {q : NowM} {a : Int} : (M.keep q a).lost ++ (M.keep q a).done = M.lost ++ M.done ++ [⟨q.chs, q.bg, a, M.last + 1⟩] := by
 unfold Mo.keep
 dsimp only
 split
 ·rw [List.append_assoc, List.take_append_drop, List.append_assoc]
 ·rw [List.append_assoc]
theorem Mo.keep_all {q : NowM} {a : Int} : (M.keep q a).all = M.lost ++ M.done ++ [⟨q.chs, q.bg, a, M.last + 1⟩] := by
 unfold Mo.all
 rw [Mo.keep_done]
 show _ ++ [] = _
 rw [List.append_nil]
theorem Mo.keep_C {q : NowM} {a : Int} (hn : M.now = some q) : (M.keep q a).C = M.E := by
 unfold Mo.C
 rw [Mo.keep_done, playG_snoc]
 unfold Mo.E Mo.ch
 rw [hn]; rfl
theorem Mo.keep_st {q : NowM} {a : Int} : (M.keep q a).st = M.last + 1 := by
 unfold Mo.st
 rw [Mo.keep_done, stG_snoc]
theorem MoOk.keep {q : NowM} {a : Int} (o : MoOk enc limit M N) (hn : M.now = some q) : MoOk enc limit (M.keep q a) (N + 1) := by
 have hch : M.ch = q.chs := by unfold Mo.ch; rw [hn]; rfl
 have hE : (M.keep q a).E = M.E := by rw [Mo.E_shut rfl, Mo.keep_C hn]
 have hall : ∀ g ∈ M.lost ++ M.done, g ∈ M.all := fun g hg => List.mem_append_left _ hg
 refine ⟨o.en, o.li, o.dp, o.e0, ?_, trivial, ?_, fun g hg => ?_, ?_, ?_, o.so, Nat.le_succ_of_le o.mb, ?_, Nat.le_succ_of_le o.wl, fun q' hq => (by cases hq), ?_⟩
 ·rw [Mo.keep_all]
  refine OkG.append.2 ⟨(OkG.append.1 o.ok).1, ?_, trivial⟩
  have := o.okn; rw [hch] at this; exact this
 ·show 0 ≤ M.last + 1; have := o.la; omega
 ·rw [Mo.keep_all] at hg
  show 0 < g.st ∧ g.st ≤ M.last + 1
  have := o.la
  rcases List.mem_append.1 hg with hg | hg
  ·have := o.nums g (hall g hg); omega
  ·rw [List.mem_singleton.1 hg]; dsimp only; omega
 ·rw [Mo.keep_all]
  refine List.pairwise_append.2 ⟨(List.pairwise_append.1 o.mono).1, List.pairwise_singleton _ _, fun x hx y hy => ?_⟩
  rw [List.mem_singleton.1 hy]
  have := o.nums x (hall x hx)
  dsimp only; omega
 ·rw [hE]; exact o.mi
 ·rw [hE]; exact o.wk
 ·have := o.sz
  have hla := o.la
  unfold Mo.sz at this ⊢
  rw [Mo.keep_all]
  rw [hch] at this
  unfold Mo.all at this
  show (M.last + 1).toNat + _ + 0 ≤ N + 1
  rw [List.map_append, List.sum_append_nat] at this ⊢
  simp only [List.map_cons, List.map_nil, List.sum_cons, List.sum_nil] at this ⊢
  omega
theorem put_mem {name a : Int} : ∀ {l : MkL} {e : Int × Int}, e ∈ putP name a l → e = (name, a) ∨ e ∈ l
 | [], e, h => .inl (List.mem_singleton.1 h)
 | x :: l, e, h => by
  unfold putP at h
  split at h
  ·rcases List.mem_cons.1 h with rfl | h
   ·exact .inr (List.mem_cons_self ..)
   ·exact (put_mem h).imp id (List.mem_cons_of_mem _)
  ·split at h
   ·rcases List.mem_cons.1 h with rfl | h
    ·exact .inl rfl
    ·exact .inr (List.mem_cons_of_mem _ h)
   ·rcases List.mem_cons.1 h with rfl | h
    ·exact .inl rfl
    ·exact .inr h
theorem put_so {name a : Int} : ∀ {l : MkL}, (l.Pairwise fun x y => x.1 < y.1) → (putP name a l).Pairwise fun x y => x.1 < y.1
 | [], _ => List.pairwise_singleton _ _
 | x :: l, h => by
  obtain ⟨h1, h2⟩ := List.pairwise_cons.1 h
  unfold putP
  split
  ·refine List.pairwise_cons.2 ⟨fun y hy => ?_, put_so h2⟩
   rcases put_mem hy with rfl | hy
   ·dsimp only; omega
   ·exact h1 y hy
  ·split
   ·exact List.pairwise_cons.2 ⟨fun y hy => by have := h1 y hy; dsimp only; omega, h2⟩
   ·refine List.pairwise_cons.2 ⟨fun y hy => ?_, h⟩
    rcases List.mem_cons.1 hy with rfl | hy
    ·dsimp only; omega
    ·have := h1 y hy; dsimp only; omega
theorem put_len {name a : Int} : ∀ {l : MkL}, (putP name a l).length ≤ l.length + 1
 | [] => Nat.le_refl _
 | x :: l => by
  have := put_len (name := name) (a := a) (l := l)
  unfold putP
  split
  ·simp only [List.length_cons]; omega
  ·split <;> simp only [List.length_cons] <;> omega
theorem MoOk.setMark (o : MoOk enc limit M N) {name a : Int} (ha : M.ins a) : MoOk enc limit { M with marks := putP name a M.marks } (N + 1) := by
 refine ⟨o.en, o.li, o.dp, o.e0, o.ok, o.okn, o.la, o.nums, o.mono, fun e he => ?_, put_so o.so, ?_, o.wk, Nat.le_succ_of_le o.wl, fun q hq => ?_, Nat.le_succ_of_le o.sz⟩
 ·rcases put_mem he with rfl | he
  ·exact ha
  ·exact o.mi e he
 ·have := put_len (name := name) (a := a) (l := M.marks); have := o.mb; show (putP name a M.marks).length ≤ _; omega
 ·obtain ⟨h1, h2, h3, h4, h5⟩ := o.nw q hq
  exact ⟨h1, h2, Nat.le_succ_of_le h3, h4, Nat.le_succ_of_le h5⟩
theorem MoOk.watch (o : MoOk enc limit M N) {l : List Int} (hl : ∀ v ∈ l, M.ins v) : MoOk enc limit { M with watched := l } (N + l.length) := by
 refine ⟨o.en, o.li, o.dp, o.e0, o.ok, o.okn, o.la, o.nums, o.mono, o.mi, o.so, Nat.le_trans o.mb (Nat.le_add_right _ _), fun v hv => (hl v hv).2, Nat.le_add_left _ _, fun q hq => ?_, Nat.le_trans o.sz (Nat.le_add_right _ _)⟩
 obtain ⟨h1, h2, h3, h4, h5⟩ := o.nw q hq
 exact ⟨h1, h2, Nat.le_trans h3 (Nat.le_add_right _ _), h4, Nat.le_trans h5 (Nat.le_add_right _ _)⟩
end Go.Sw.Hist

set_option linter.unusedVariables false
set_option linter.unusedSimpArgs false
set_option maxRecDepth 100000
namespace Go.Sw.Hist
open Go.Sw.Any Go.Sw.Codec Go.Sw.Piece
variable {P : Program} {S : Ids} {h : Heap} {Q : Nat → List Value → Heap → Prop} {n k : Nat} {rho : Nat → Nat} {X : Bk}
instance (M : Mo) (a : Int) : Decidable (M.ins a) := inferInstanceAs (Decidable (_ ∧ _))
structure OpnM (enc : Int) (M : Mo) (o : Opn) (q : NowM) : Prop where
 eb : els enc o.sb.ps = M.C
 mv : o.mv.2.map (·.2) = q.chs.map mvC'
 bg : o.bg = q.bg
 old : o.old = M.st
 ch : o.ch = effC q.chs
 ms : (o.ms.map kv).Perm q.om
 ws : o.ws = q.ow
def NowR (enc : Int) (M : Mo) : Option Opn → Option NowM → Prop
 | none, none => True
 | some o, some q => OpnM enc M o q
 | _, _ => False
structure Lnk (X : Bk) (M : Mo) (N : Nat) : Prop where
 E : els X.T.enc X.T.cur.ps = M.E
 u : Chain X.T.enc (playG M.E0 M.lost) (stG 0 M.lost) X.U.2 M.done
 r : Chain X.T.enc M.C M.st X.R.2.reverse M.next
 now : NowR X.T.enc M X.now M.now
 ms : (X.ms.map kv).Perm M.marks
 ws : X.ws = M.watched
 st : X.state = M.st
 sv : X.saved = M.saved
 la : X.last = M.last
 dp : X.depth = M.depth
 A : X.T.A.length ≤ 4 * N
structure Inv (X : Bk) (M : Mo) (N : Nat) : Prop where
 ok : MoOk X.T.enc X.T.limit M N
 lk : Lnk X M N
structure Sm (X X' : Bk) : Prop where
 b : X'.b = X.b
 p : X'.T.p = X.T.p
 enc : X'.T.enc = X.T.enc
 limit : X'.T.limit = X.T.limit
 depth : X'.depth = X.depth
theorem Sm.refl (X : Bk) : Sm X X := ⟨rfl, rfl, rfl, rfl, rfl⟩
theorem Sm.trans {X Y Z : Bk} (a : Sm X Y) (b : Sm Y Z) : Sm X Z := ⟨b.b.trans a.b, b.p.trans a.p, b.enc.trans a.enc, b.limit.trans a.limit, b.depth.trans a.depth⟩
def BPost (S : Ids) (n k : Nat) (X : Bk) (h : Heap) (rho : Nat → Nat) (h' : Heap) (M' : Mo) (N' : Nat) : Prop :=
 ∃ rho' X', StepR k h rho h' rho' ∧ BookR S n h' rho' k X' ∧ Inv X' M' N' ∧ Sm X X'
theorem kv_fol (x : List MvD) (ms : Ents) : (folM x ms).map kv = folP x (ms.map kv) := by simp [folM, folP, kv]
theorem perm_fol (x : List MvD) {a b : MkL} (h : a.Perm b) : (folP x a).Perm (folP x b) := h.map _
theorem Inv.msX {M : Mo} {N : Nat} (i : Inv X M N) : MsIn M.E.length X.ms X.ws := by
 refine ⟨fun e he => ?_, fun v hv => i.ok.wk v (by rw [← i.lk.ws]; exact hv)⟩
 exact i.ok.mi (kv e) (i.lk.ms.mem_iff.1 (List.mem_map.2 ⟨e, he, rfl⟩))
theorem Inv.mono {M : Mo} {N N' : Nat} (i : Inv X M N) (hN : N ≤ N') : Inv X M N' :=
 ⟨i.ok.mono' hN, ⟨i.lk.E, i.lk.u, i.lk.r, i.lk.now, i.lk.ms, i.lk.ws, i.lk.st, i.lk.sv, i.lk.la, i.lk.dp, by have := i.lk.A; omega⟩⟩
theorem BPost.ext {M : Mo} {N : Nat} {h' : Heap} (r : BookR S n h rho k X) (i : Inv X M N) (e : Ext h h') : BPost S n k X h rho h' M N :=
 ⟨_, X, StepR.ofExt e, r.zr e, i, Sm.refl X⟩
theorem Inv.noneM {M : Mo} {N : Nat} (i : Inv X M N) (hn : X.now = none) : M.now = none := by
 have := i.lk.now
 rw [hn] at this
 cases hm : M.now with
 | none => rfl
 | some q => rw [hm] at this; exact this.elim
theorem Inv.someM {M : Mo} {N : Nat} {o : Opn} (i : Inv X M N) (hn : X.now = some o) : ∃ q, M.now = some q ∧ OpnM X.T.enc M o q := by
 have := i.lk.now
 rw [hn] at this
 cases hm : M.now with
 | none => rw [hm] at this; exact this.elim
 | some q => rw [hm] at this; exact ⟨q, rfl, this⟩
theorem Inv.someX {M : Mo} {N : Nat} {q : NowM} (i : Inv X M N) (hm : M.now = some q) : ∃ o, X.now = some o ∧ OpnM X.T.enc M o q := by
 cases hn : X.now with
 | none => rw [i.noneM hn] at hm; cases hm
 | some o => obtain ⟨q', h1, h2⟩ := i.someM hn; rw [hm] at h1; cases h1; exact ⟨o, rfl, h2⟩
theorem Inv.ins {M : Mo} {N : Nat} (i : Inv X M N) (a : Int) : insideB X a ↔ M.ins a := by unfold insideB Mo.ins; rw [i.lk.E]
theorem Inv.wsl {M : Mo} {N : Nat} (i : Inv X M N) : X.ws.length ≤ N := by rw [i.lk.ws]; exact i.ok.wl
def Mo.beginR (M : Mo) (a : Int) : Int × Mo := if M.now.isSome then (70, M) else if M.ins a then (0, { M with now := some ⟨[], a, M.marks, M.watched⟩ }) else (2, M)
theorem v_Begin {M : Mo} {N : Nat} {a : Int} (r : BookR S n h rho k X) (i : Inv X M N) (hN : N ≤ 68719476736) :
  wp P (F_Book_Begin S (some X.b) a) h fun tg vs h' => tg = 0 ∧ vs = [i64v (M.beginR a).1] ∧ BPost S n k X h rho h' (M.beginR a).2 N := by
 cases hn : X.now with
 | some o =>
  obtain ⟨q, hm, _⟩ := i.someM hn
  refine wp_mono _ (fun tg vs h' ⟨h1, h2, h3⟩ => ?_) (c_BeginOpen (at_ := a) r hn)
  unfold Mo.beginR
  rw [hm, if_pos (show (some q).isSome = true from rfl), h3]
  exact ⟨h1, h2, BPost.ext r i (Ext.refl _)⟩
 | none =>
  have hm := i.noneM hn
  refine wp_mono _ (fun tg vs h' ⟨h1, h2⟩ => ?_) (c_Begin (at_ := a) r hn (by have := i.wsl; omega))
  unfold Mo.beginR
  rw [hm, if_neg (by decide)]
  rcases h2 with ⟨h2, h3, h4⟩ | ⟨h2, h3, rho', o, B⟩
  ·rw [i.ins] at h2
   rw [if_neg h2]
   exact ⟨h1, h3, BPost.ext r i h4⟩
  ·rw [i.ins] at h2
   rw [if_pos h2]
   have hE := Mo.E_shut hm
   refine ⟨h1, h3, rho', _, B.st, B.r, ⟨i.ok.begin hm a, ?_⟩, ⟨rfl, rfl, rfl, rfl, rfl⟩⟩
   refine ⟨?_, i.lk.u, i.lk.r, ?_, i.lk.ms, i.lk.ws, i.lk.st, i.lk.sv, i.lk.la, i.lk.dp, i.lk.A⟩
   ·have := i.lk.E; rw [hE] at this; exact this
   ·show OpnM X.T.enc _ o _
    refine ⟨?_, ?_, B.bg, ?_, B.ch, ?_, ?_⟩
    ·rw [B.sb]; have := i.lk.E; rw [hE] at this; exact this
    ·rw [B.mv]; rfl
    ·rw [B.old]; exact i.lk.st
    ·exact B.ms.trans i.lk.ms
    ·rw [B.ws]; exact i.lk.ws
theorem Inv.small {M : Mo} {N : Nat} (i : Inv X M N) (r : BookR S n h rho k X) : (bytesL X.T.cur.ps).length ≤ X.T.limit := by
 have h1 := blen_state r.t.cur r.t.enc
 have h2 := i.ok.okE.2
 rw [i.lk.E] at h1
 omega
theorem sz_ch {M : Mo} {N : Nat} (hs : M.sz ≤ N) : M.ch.length ≤ N := by unfold Mo.sz at hs; omega
theorem v_Change (Me : Meth0 P S) {M : Mo} {N : Nat} {q : NowM} {x : Eds} (r : BookR S n h rho k X) (i : Inv X M N) (hm : M.now = some q) (hok : ∀ h', Chg (fun i => k < rho i ∧ rho i ≤ k + 10) h h' → (Sh.list EdSh).ok h' x)
  (hz : ∀ e, e ∈ x.2 → e.2.2.1.2 ≠ [] → ∀ a, e.2.2.1.1.base = some a → rho a.block ≤ k ∨ k + 10 < rho a.block) (hN : N + 1 + (putsOf x.2).length ≤ 68719476736) :
  wp P (F_Book_Change S (some X.b) x.1) h fun tg vs h' => tg = 0 ∧ ∃ e, vs = [i64v e] ∧ RefR X.T.enc X.T.limit (toksL X.T.enc X.T.cur.ps) x.2 e ∧ (e = 0 ↔ x.2.length ≤ 70000 ∧ Okay X.T.enc X.T.limit M.E x.2) ∧
   BPost S n k X h rho h' (if e = 0 then M.chg q x.2 else M) (N + 1 + (putsOf x.2).length) := by
 obtain ⟨o, hn, om⟩ := i.someX hm
 have hch : M.ch = q.chs := by unfold Mo.ch; rw [hm]; rfl
 have hml : o.mv.2.length = q.chs.length := by have := congrArg List.length om.mv; simpa using this
 have hsz := sz_ch i.ok.sz
 rw [hch] at hsz
 have hlen := i.ok.len
 have hA := i.lk.A
 have hw := i.msX.w hlen
 refine wp_mono _ (fun tg vs h' ⟨h1, e, rho', X', h2, B⟩ => ?_) (c_BChange Me (o := o) (x := x) r hn hok hz (by omega) (i.small r) (by rw [i.lk.E]; omega) hw.1 hw.2 (by omega))
 have hre := ref_okay r.t.enc r.t.cur.bytes B.ref
 rw [i.lk.E] at hre
 refine ⟨h1, e, h2, B.ref, hre, rho', X', B.st, B.r, ?_, ?_⟩
 ·have hAl := B.len
  by_cases he : e = 0
  ·rw [if_pos he]
   obtain ⟨qq, l, hX⟩ := B.yes he
   have hok' := (hre.1 he)
   have hE : els X.T.enc X'.T.cur.ps = allE M.E x.2 := by rw [B.els, if_pos he, i.lk.E]
   have ho := (i.ok.chg hm hok'.1 hok'.2).mono' (N' := N + 1 + (putsOf x.2).length) (by omega)
   rw [hX] at hE hAl ⊢
   have e1 : X'.T.enc = X.T.enc := B.nx.enc
   have e2 : X'.T.limit = X.T.limit := B.nx.limit
   refine ⟨by show MoOk X'.T.enc X'.T.limit _ _; rw [e1, e2]; exact ho, ?_⟩
   refine ⟨?_, ?_, ?_, ?_, ?_, ?_, i.lk.st, i.lk.sv, i.lk.la, i.lk.dp, ?_⟩
   ·show els X'.T.enc X'.T.cur.ps = _
    rw [e1, Mo.chg_E hm]; exact hE
   ·show Chain X'.T.enc _ _ _ _; rw [e1]; exact i.lk.u
   ·show Chain X'.T.enc _ _ _ _; rw [e1]; exact i.lk.r
   ·show OpnM X'.T.enc _ _ _
    rw [e1]
    refine ⟨om.eb, ?_, om.bg, om.old, ?_, om.ms, om.ws⟩
    ·show (o.mv.2 ++ [(l, x.2.map mvOf)]).map (·.2) = (q.chs ++ [x.2.map strip]).map mvC'
     rw [List.map_append, List.map_append, om.mv, List.map_singleton, List.map_singleton, strip_mv]
    ·show (o.ch || x.2.any effE) = effC (q.chs ++ [x.2.map strip])
     rw [om.ch]
     unfold effC
     rw [List.any_append, List.any_cons, List.any_nil, Bool.or_false, strip_eff]
   ·show ((folM (x.2.map mvOf) X.ms).map kv).Perm (folP (mvC' x.2) M.marks)
    rw [kv_fol]; exact perm_fol _ i.lk.ms
   ·show folW (x.2.map mvOf) X.ws = folW (mvC' x.2) M.watched
    rw [i.lk.ws]
   ·dsimp only at hAl ⊢; omega
  ·rw [if_neg he]
   have hX := B.no he
   have hE : els X.T.enc X'.T.cur.ps = M.E := by rw [B.els, if_neg he, i.lk.E]
   rw [hX] at hE hAl ⊢
   have e1 : X'.T.enc = X.T.enc := B.nx.enc
   have e2 : X'.T.limit = X.T.limit := B.nx.limit
   have ho := i.ok.mono' (N' := N + 1 + (putsOf x.2).length) (by omega)
   refine ⟨by show MoOk X'.T.enc X'.T.limit _ _; rw [e1, e2]; exact ho, ?_⟩
   refine ⟨?_, ?_, ?_, ?_, i.lk.ms, i.lk.ws, i.lk.st, i.lk.sv, i.lk.la, i.lk.dp, ?_⟩
   ·show els X'.T.enc X'.T.cur.ps = _; rw [e1]; exact hE
   ·show Chain X'.T.enc _ _ _ _; rw [e1]; exact i.lk.u
   ·show Chain X'.T.enc _ _ _ _; rw [e1]; exact i.lk.r
   ·show NowR X'.T.enc _ _ _; rw [e1]; exact i.lk.now
   ·dsimp only at hAl ⊢; omega
 ·by_cases he : e = 0
  ·obtain ⟨qq, l, hX⟩ := B.yes he
   exact ⟨by rw [hX], B.nx.p, B.nx.enc, B.nx.limit, by rw [hX]⟩
  ·exact ⟨by rw [B.no he], B.nx.p, B.nx.enc, B.nx.limit, by rw [B.no he]⟩
theorem up_len {last : Int} : ∀ {l : List GM} {a : Int}, (∀ g ∈ l, a < g.st ∧ g.st ≤ last) → (l.Pairwise fun x y => x.st < y.st) → 0 ≤ a → a ≤ last → (l.length : Int) ≤ last - a
 | [], _, _, _, _, _ => by simp; omega
 | g :: l, a, h, p, h0, h1 => by
  obtain ⟨p1, p2⟩ := List.pairwise_cons.1 p
  have hg := h g (List.mem_cons_self ..)
  have := up_len (l := l) (a := g.st) (fun x hx => ⟨p1 x hx, (h x (List.mem_cons_of_mem _ hx)).2⟩) p2 (by omega) (by omega)
  rw [List.length_cons]; push_cast; omega
theorem all_le {enc limit : Int} {M : Mo} {N : Nat} (o : MoOk enc limit M N) : M.all.length ≤ M.last.toNat := by
 have := up_len (last := M.last) (l := M.all) (a := 0) o.nums o.mono (Int.le_refl _) o.la
 have := o.la
 omega
theorem done_le {enc limit : Int} {M : Mo} {N : Nat} (o : MoOk enc limit M N) : M.done.length ≤ M.last.toNat := by
 have := all_le o; unfold Mo.all at this; rw [List.length_append, List.length_append] at this; omega
def Mo.endR (M : Mo) (a : Int) : Int × Mo := match M.now with
 | none => (71, M)
 | some q => if M.ins a then (0, if effC q.chs then M.keep q a else { M with now := none }) else (2, M)
theorem v_End (C : ClH P S) {M : Mo} {N : Nat} {a : Int} (r : BookR S n h rho k X) (i : Inv X M N) (hN : N ≤ 68719476736) :
  wp P (F_Book_End S (some X.b) a) h fun tg vs h' => tg = 0 ∧ vs = [i64v (M.endR a).1] ∧ BPost S n k X h rho h' (M.endR a).2 (N + 1) := by
 have i1 := i.mono (N' := N + 1) (Nat.le_succ _)
 cases hn : X.now with
 | none =>
  have hm := i.noneM hn
  refine wp_mono _ (fun tg vs h' ⟨h1, h2, h3⟩ => ?_) (c_EndShut (at_ := a) r hn)
  unfold Mo.endR
  rw [hm, h3]
  exact ⟨h1, h2, BPost.ext r i1 (Ext.refl _)⟩
 | some o =>
  obtain ⟨q, hm, om⟩ := i.someM hn
  have hch : M.ch = q.chs := by unfold Mo.ch; rw [hm]; rfl
  have hsz := i.ok.sz
  have hla := i.ok.la
  have hul := i.lk.u.len
  have hdl : M.done.length ≤ N ∨ True := .inr trivial
  have hd : M.done.length ≤ M.last.toNat := done_le i.ok
  have hl2 : M.last.toNat ≤ N := by unfold Mo.sz at hsz; omega
  refine wp_mono _ (fun tg vs h' ⟨h1, h2⟩ => ?_) (c_End C (o := o) (at_ := a) r hn (by rw [i.lk.la]; exact hla) (by rw [i.lk.la]; omega) (by rw [hul]; omega))
  unfold Mo.endR
  rw [hm]
  dsimp only
  rcases h2 with ⟨h2, h3, h4⟩ | ⟨h2, h3, rho', X', st, r', er⟩
  ·rw [i.ins] at h2
   rw [if_neg h2]
   exact ⟨h1, h3, BPost.ext r i1 h4⟩
  ·rw [i.ins] at h2
   rw [if_pos h2]
   refine ⟨h1, h3, rho', X', st, r', ?_⟩
   cases hc : effC q.chs with
   | false =>
    have hX := er.no (by rw [om.ch, hc])
    rw [if_neg (by decide), hX]
    have hE : M.E = M.C := by have := i.ok.okn; rw [hch] at this; unfold Mo.E; rw [hch]; exact eff_play this hc
    refine ⟨⟨(i1.ok.endNo hm hc), ?_, i.lk.u, i.lk.r, trivial, i.lk.ms, i.lk.ws, i.lk.st, i.lk.sv, i.lk.la, i.lk.dp, i1.lk.A⟩, ⟨rfl, rfl, rfl, rfl, rfl⟩⟩
    have := i.lk.E; rw [hE] at this; exact this
   | true =>
    obtain ⟨g, q', hg, hX⟩ := er.yes (by rw [om.ch, hc])
    rw [if_pos rfl, hX]
    have gm : GrpM X.T.enc (playG (playG M.E0 M.lost) M.done) (stG (stG 0 M.lost) M.done) g ⟨q.chs, q.bg, a, M.last + 1⟩ := by
     refine ⟨?_, ?_, ?_, ?_, hg.en, ?_, ?_⟩
     ·rw [hg.sb, om.eb, ← playG_append]; rfl
     ·rw [hg.sh, i.lk.E, ← playG_append]; unfold Mo.E; rw [hch]; rfl
     ·show g.mv.2.map (·.2) = _; rw [hg.mv, om.mv]
     ·rw [hg.bg, om.bg]
     ·rw [hg.old, om.old, ← stG_append]; rfl
     ·rw [hg.fresh, i.lk.la]
    have hu := i.lk.u.snoc gm
    have hE : (M.keep q a).E = M.E := by rw [Mo.E_shut rfl, Mo.keep_C hm]
    refine ⟨⟨i.ok.keep hm, ?_, ?_, ?_, trivial, i.lk.ms, i.lk.ws, ?_, i.lk.sv, ?_, i.lk.dp, i1.lk.A⟩, ⟨rfl, rfl, rfl, rfl, rfl⟩⟩
    ·rw [hE]; exact i.lk.E
    ·show Chain X.T.enc (playG M.E0 (M.keep q a).lost) (stG 0 (M.keep q a).lost) (putU X g) (M.keep q a).done
     unfold putU Mo.keep
     dsimp only
     rw [i.lk.dp, hul]
     split
     ·revert hu
      cases hx : X.U.2 ++ [g] with
      | nil => intro hu; simp at hx
      | cons g0 gs =>
       cases hy : M.done ++ [(⟨q.chs, q.bg, a, M.last + 1⟩ : GM)] with
       | nil => simp at hy
       | cons m0 ms =>
        intro hu
        cases hu with
        | cons c1 c2 =>
         show Chain X.T.enc (playG M.E0 (M.lost ++ [m0])) (stG 0 (M.lost ++ [m0])) gs ms
         rw [playG_snoc, stG_snoc]; exact c2
     ·exact hu
    ·show Chain X.T.enc _ _ [] []
     exact .nil _ _
    ·rw [Mo.keep_st, ← i.lk.la]
    ·show X.last + 1 = M.last + 1; rw [i.lk.la]
end Go.Sw.Hist

set_option linter.unusedVariables false
set_option linter.unusedSimpArgs false
set_option maxRecDepth 100000
namespace Go.Sw.Hist
open Go.Sw.Any Go.Sw.Codec Go.Sw.Piece
variable {P : Program} {S : Ids} {h : Heap} {Q : Nat → List Value → Heap → Prop} {n k : Nat} {rho : Nat → Nat} {X : Bk}
theorem NowR.re {enc : Int} {M M' : Mo} (hC : M'.C = M.C) (hs : M'.st = M.st) : ∀ {a : Option Opn} {b : Option NowM}, NowR enc M a b → NowR enc M' a b
 | none, none, _ => trivial
 | some o, some q, h => ⟨by rw [hC]; exact h.eb, h.mv, h.bg, by rw [hs]; exact h.old, h.ch, h.ms, h.ws⟩
open Classical in
noncomputable def Mo.setR (M : Mo) (name a : Int) : Int × Mo := if isN name then if M.ins a then (0, { M with marks := putP name a M.marks }) else (2, M) else (74, M)
theorem put_perm {name a : Int} : ∀ {l : MkL}, (l.Pairwise fun x y => x.1 < y.1) → (putP name a l).Perm ((name, a) :: l.filter fun e => decide (e.1 ≠ name))
 | [], _ => List.Perm.refl _
 | x :: l, h => by
  obtain ⟨h1, h2⟩ := List.pairwise_cons.1 h
  have keep : (∀ e ∈ l, e.1 ≠ name) → l.filter (fun e => decide (e.1 ≠ name)) = l := fun hk => List.filter_eq_self.2 fun e he => decide_eq_true (hk e he)
  unfold putP
  by_cases c1 : x.1 < name
  ·rw [if_pos c1, List.filter_cons_of_pos (by simp; omega)]
   exact ((put_perm h2).cons x).trans (List.Perm.swap _ _ _)
  ·rw [if_neg c1]
   by_cases c2 : x.1 = name
   ·rw [if_pos c2, List.filter_cons_of_neg (by simp [c2]), keep fun e he => by have := h1 e he; omega]
   ·rw [if_neg c2, List.filter_cons_of_pos (by simp [c2]), keep fun e he => by have := h1 e he; omega]
theorem mset_kv {name a : Int} : ∀ {l : Ents}, (l.map (·.1)).Nodup → name ∈ l.map (·.1) → ((mset name a l).map kv).Perm ((name, a) :: (l.map kv).filter fun e => decide (e.1 ≠ name))
 | [], _, h => by cases h
 | x :: l, hn, h => by
  simp only [List.map_cons, List.nodup_cons] at hn
  simp only [mset, List.map_cons]
  by_cases c : x.1 = name
  ·rw [if_pos c, List.map_cons, List.filter_cons_of_neg (by simp [kv, c])]
   have : (l.map kv).filter (fun e => decide (e.1 ≠ name)) = l.map kv := List.filter_eq_self.2 fun e he => by
    obtain ⟨y, hy, rfl⟩ := List.mem_map.1 he
    refine decide_eq_true fun e => hn.1 ?_
    rw [c, ← e]; exact List.mem_map_of_mem (f := (·.1)) hy
   rw [this, ← c]
  ·rw [if_neg c, List.map_cons, List.filter_cons_of_pos (by simp [kv, c])]
   have hm : name ∈ l.map (·.1) := by
    rcases List.mem_cons.1 h with h | h
    ·exact absurd h.symm c
    ·exact h
   exact ((mset_kv hn.2 hm).cons (kv x)).trans (List.Perm.swap _ _ _)
theorem mput_kv {name a : Int} {l : Ents} {c : Nat} (hn : (l.map (·.1)).Nodup) : ((mputL name a l c).map kv).Perm ((name, a) :: (l.map kv).filter fun e => decide (e.1 ≠ name)) := by
 unfold mputL
 cases hm : mfind name l with
 | some v =>
  rw [if_pos (show (some v).isSome = true from rfl)]
  obtain ⟨b, hb⟩ := (mfind_some hn).1 hm
  exact mset_kv hn (List.mem_map_of_mem (f := (·.1)) hb)
 | none =>
  rw [if_neg (by decide)]
  have h1 := mfind_none.1 hm
  have : (l.map kv).filter (fun e => decide (e.1 ≠ name)) = l.map kv := List.filter_eq_self.2 fun e he => by
   obtain ⟨y, hy, rfl⟩ := List.mem_map.1 he
   exact decide_eq_true fun e => h1 (by rw [← e]; exact List.mem_map_of_mem (f := (·.1)) hy)
  rw [this, List.map_append]
  exact List.perm_append_comm
theorem v_SetMark {M : Mo} {N : Nat} {name a : Int} (r : BookR S n h rho k X) (i : Inv X M N) (hfn : fitsI .i64 name) (hfa : fitsI .i64 a) :
  wp P (F_Book_SetMark S (some X.b) name a) h fun tg vs h' => tg = 0 ∧ vs = [i64v (M.setR name a).1] ∧ BPost S n k X h rho h' (M.setR name a).2 (N + 1) := by
 have i1 := i.mono (N' := N + 1) (Nat.le_succ _)
 have r0 := r.zr (Ext.refl h)
 have hz0 : StepR k h rho h (Hist.zr h rho) := StepR.ofExt (Ext.refl h)
 refine wp_mono _ (fun tg vs h' ⟨h1, h2⟩ => ⟨h1, ?_⟩) (c_SetMark (name := name) (at_ := a) r0 hfn hfa)
 unfold Mo.setR
 rcases h2 with ⟨h2, h3, h4⟩ | ⟨h2, h5, h3, h4⟩ | ⟨h2, h5, h3, h4, c, h6, r'⟩
 ·rw [if_neg h2]; exact ⟨h3, BPost.ext r i1 h4⟩
 ·rw [i.lk.E] at h5
  have h5 : ¬ M.ins a := h5
  rw [if_pos h2, if_neg h5]; exact ⟨h3, BPost.ext r i1 h4⟩
 ·rw [i.lk.E] at h5
  have h5 : M.ins a := h5
  rw [if_pos h2, if_pos h5]
  refine ⟨h3, _, _, hz0.trans (StepR.of h4 (fun j hj e => ?_) fun j hj _ => zr_new hj), r', ⟨i.ok.setMark h5, i.lk.E, i.lk.u, i.lk.r, NowR.re (by exact rfl) (by exact rfl) i.lk.now, ?_, i.lk.ws, i.lk.st, i.lk.sv, i.lk.la, i.lk.dp, i1.lk.A⟩, ⟨rfl, rfl, rfl, rfl, rfl⟩⟩
  ·rw [e, r0.rm]; omega
  ·obtain ⟨c', mo⟩ := r.mp.ok
   refine (mput_kv mo.keys).trans (List.Perm.trans ?_ (put_perm i.ok.so).symm)
   exact (i.lk.ms.filter _).cons _
def findP (name : Int) : MkL → Option Int
 | [] => none
 | e :: l => if e.1 = name then some e.2 else findP name l
theorem findP_some {name v : Int} : ∀ {l : MkL}, (l.Pairwise fun x y => x.1 < y.1) → (findP name l = some v ↔ (name, v) ∈ l)
 | [], _ => by simp [findP]
 | x :: l, h => by
  obtain ⟨h1, h2⟩ := List.pairwise_cons.1 h
  unfold findP
  by_cases c : x.1 = name
  ·rw [if_pos c]
   constructor
   ·intro e; cases e; rw [← c]; exact List.mem_cons_self ..
   ·intro e
    rcases List.mem_cons.1 e with e | e
    ·rw [← e]
    ·have := h1 _ e; dsimp only at this; omega
  ·rw [if_neg c, findP_some h2]
   constructor
   ·exact List.mem_cons_of_mem _
   ·intro e
    rcases List.mem_cons.1 e with e | e
    ·rw [← e] at c; exact absurd rfl c
    ·exact e
def Mo.markR (M : Mo) (name : Int) : Int × Int := match findP name M.marks with
 | none => (0, 74)
 | some v => (v, 0)
theorem Inv.find {M : Mo} {N : Nat} (r : BookR S n h rho k X) (i : Inv X M N) (name : Int) : mfind name X.ms = findP name M.marks := by
 obtain ⟨c, mo⟩ := r.mp.ok
 have key : ∀ v, mfind name X.ms = some v ↔ findP name M.marks = some v := fun v => by
  rw [mfind_some mo.keys, findP_some i.ok.so, ← i.lk.ms.mem_iff]
  constructor
  ·rintro ⟨b, hb⟩; exact List.mem_map.2 ⟨_, hb, rfl⟩
  ·intro hx
   obtain ⟨⟨a1, a2, a3⟩, hy, e⟩ := List.mem_map.1 hx
   cases e; exact ⟨_, hy⟩
 cases hx : mfind name X.ms with
 | none =>
  cases hy : findP name M.marks with
  | none => rfl
  | some v => rw [(key v).2 hy] at hx; cases hx
 | some v => rw [(key v).1 hx]
theorem v_Mark {M : Mo} {N : Nat} {name : Int} (r : BookR S n h rho k X) (i : Inv X M N) : Gives P (F_Book_Mark S (some X.b) name) [.one (.int .i64), .one (.int .i64)] h fun (y : Int × Int × Unit) _ => y.1 = (M.markR name).1 ∧ y.2.1 = (M.markR name).2 := by
 refine (c_Mark (name := name) r).mono fun y h' e hy => ?_
 unfold Mo.markR
 rw [i.find r] at hy
 rcases hy with ⟨h1, h2, h3⟩ | ⟨h1, h2⟩
 ·rw [h1]; exact ⟨h2, h3⟩
 ·rw [h1]; exact ⟨rfl, h2⟩
instance (M : Mo) (l : List Int) : Decidable (∀ v ∈ l, M.ins v) := inferInstance
def Mo.watchR (M : Mo) (l : List Int) : Int × Mo := if ∀ v ∈ l, M.ins v then (0, { M with watched := l }) else (2, M)
theorem v_Watch {M : Mo} {N : Nat} {s : Sl} {l : List Int} (r : BookR S n h rho k X) (i : Inv X M N) (hs : Lst .i64 h s l) (hl : l.length ≤ 1099511627776) :
  wp P (F_Book_Watch S (some X.b) s) h fun tg vs h' => tg = 0 ∧ vs = [i64v (M.watchR l).1] ∧ BPost S n k X h rho h' (M.watchR l).2 (N + l.length) := by
 have i1 := i.mono (N' := N + l.length) (Nat.le_add_right _ _)
 refine wp_mono _ (fun tg vs h' ⟨h1, h2⟩ => ⟨h1, ?_⟩) (c_Watch r hs hl)
 unfold Mo.watchR
 have he : (∀ v ∈ l, insideB X v) ↔ ∀ v ∈ l, M.ins v := forall_congr' fun v => forall_congr' fun _ => i.ins v
 rw [he] at h2
 rcases h2 with ⟨h2, h3, h4⟩ | ⟨h2, h3, h4, rho', w', st, r'⟩
 ·rw [if_neg h2]; exact ⟨h3, BPost.ext r i1 h4⟩
 ·rw [if_pos h2]
  exact ⟨h3, rho', _, st, r', ⟨i.ok.watch h2, i.lk.E, i.lk.u, i.lk.r, NowR.re (by exact rfl) (by exact rfl) i.lk.now, i.lk.ms, rfl, i.lk.st, i.lk.sv, i.lk.la, i.lk.dp, i1.lk.A⟩, ⟨rfl, rfl, rfl, rfl, rfl⟩⟩
theorem v_Watched {M : Mo} {N : Nat} (r : BookR S n h rho k X) (i : Inv X M N) (hN : N ≤ 68719476736) : Gives P (F_Book_Watched S (some X.b)) [.one .sl] h fun (y : Sl × Unit) h' => OwnL h.size .i64 h' y.1 M.watched := by
 refine (c_Watched r (by have := i.wsl; omega)).mono fun y h' e hy => ?_
 rw [← i.lk.ws]; exact hy
end Go.Sw.Hist

set_option linter.unusedVariables false
set_option linter.unusedSimpArgs false
set_option maxRecDepth 100000
namespace Go.Sw.Hist
open Go.Sw.Any Go.Sw.Codec Go.Sw.Piece
variable {P : Program} {S : Ids} {h : Heap} {Q : Nat → List Value → Heap → Prop} {n k : Nat} {rho : Nat → Nat} {X : Bk}
theorem ok_ints {w : Sl} {l : List Int} (o : Lst .i64 h w l) : (Sh.list (.int .i64)).ok h ((w, l) : Sl × List Int) := by
 refine ⟨o.len, o.cap, o.max, fun i y hi => ?_⟩
 obtain ⟨a, ha, hc⟩ := o.rd.2 i (.int .i64 y) (by rw [List.getElem?_map, hi]; rfl)
 refine ⟨a, ha, cells_iff.2 fun j v hj => ?_, o.wf y (List.mem_of_getElem? hi)⟩
 cases j with
 | zero =>
  simp [Sh.cells] at hj; subst hj
  simpa [Sh.size, add_zero'] using hc
 | succ j => simp [Sh.cells] at hj
theorem ok_edit {m : Nat} {w : Sl} {l : List Int} {a2 : Addr} {f t : Int} (ow : Lst .i64 h w l) (o2 : Own m 1 h ⟨some a2, 3, 3⟩ [i64v f, i64v t, slv w]) (hf : fitsI .i64 f) (ht : fitsI .i64 t) :
  (Sh.list EdSh).ok h (⟨some a2, 1, 1⟩, [((f, t, (w, l), ()) : EdD)]) := by
 refine ⟨rfl, Nat.le_refl _, (by decide : 1 < 2 ^ 63), fun i y hi => ?_⟩
 have hlt := (List.getElem?_eq_some_iff.1 hi).1
 simp at hlt
 subst hlt
 simp at hi
 subst hi
 refine ⟨a2, rfl, cells_iff.2 fun j v hj => ?_, ⟨hf, ht, ok_ints ow, trivial⟩⟩
 rw [Nat.zero_mul, add_zero']
 refine cells_iff.1 o2.cells j v ?_
 match j, hj with
 | 0, hj => exact hj
 | 1, hj => exact hj
 | 2, hj => exact hj
 | j + 3, hj => simp [Sh.cells] at hj
theorem s_ckSh {e : Sh} {x : Sl × List e.den} {y : e.den} {vs : List Value} {j : Int} {m : Nat} {K : Prog} (o : (Sh.list e).ok h x) (h0 : 0 ≤ j) (hj : x.2[j.toNat]? = some y) (hm : m = e.size) (hz : vs = e.cells y) (hk : wp P K h Q) :
  wp P (.check (shiftTo x.1.base (mulN (toN j) m)) vs K) h Q := by
 obtain ⟨o1, o2, o3, o4⟩ := o
 obtain ⟨a, ea, c, _⟩ := o4 _ _ hj
 refine ⟨⟨a.add (j.toNat * e.size), by rw [ea, hm]; rfl, by rw [hz]; exact c⟩, hk⟩
theorem c_num7 {a : Int} : Gives P (F_law7_num S a) [.one (.int .i64)] h fun (y : Int × Unit) _ => y.1 = a := by
 unfold F_law7_num Gives
 exact s_ret ⟨rfl, Ext.refl _, (a, ()), rfl, rfl⟩
theorem s_change1 (Me : Meth0 P S) {M : Mo} {N m : Nat} {q : NowM} {f t : Int} {w : Sl} {l : List Int} (r : BookR S n h rho k X) (i : Inv X M N) (hm : M.now = some q) (ow : OwnL m .i64 h w l) (hw : ∀ a, w.base = some a → rho a.block ≤ k ∨ k + 10 < rho a.block)
  (hok : Okay X.T.enc X.T.limit M.E [((f, t, (w, l), ()) : EdD)]) (hN : N + 1 + l.length ≤ 68719476736) {K : Int × Unit → Prog}
  (hk : ∀ h' rho' X', StepR k h rho h' rho' → BookR S n h' rho' k X' → Inv X' (M.chg q [(f, t, (w, l), ())]) (N + 1 + l.length) → Sm X X' → wp P (K (0, ())) h' Q) :
  wp P (.alloc [i64v f, i64v t, slv w] fun a => .call (F_Book_Change S (some X.b) ⟨some a, 1, 1⟩) [.one (.int .i64)] K) h Q := by
 refine fun elem => ?_
 have e1 : Ext h (h.push (.cells [i64v f, i64v t, slv w].toArray elem)) := Ext.push ..
 have o1 : Own h.size 1 (h.push (.cells [i64v f, i64v t, slv w].toArray elem)) ⟨some ⟨h.size, 0, none⟩, 3, 3⟩ [i64v f, i64v t, slv w] := own_alloc rfl (by decide) (by decide)
 generalize h.push (.cells [i64v f, i64v t, slv w].toArray elem) = h1 at e1 o1 ⊢
 have st1 := StepR.ofExt (k := k) (rho := rho) e1
 have r1 := r.zr e1
 have ow1 := (Chg.of_ext (F := fun _ => False) e1).ownL ow fun _ _ x => x
 have hlen := i.ok.len
 obtain ⟨p1, p2, p3, _⟩ := hok.1
 have p1 : 0 ≤ f := p1
 have p2 : f ≤ t := p2
 have p3 : t ≤ M.E.length := p3
 have hputs : putsOf [((f, t, (w, l), ()) : EdD)] = l := by simp [putsOf]
 have hzw : ∀ a, w.base = some a → Hist.zr h rho a.block ≤ k ∨ k + 10 < Hist.zr h rho a.block := fun a ha => by
  rw [zr_old (ow.own.lt ha).2]; exact hw a ha
 refine wp_callW (v_Change Me (x := (⟨some ⟨h.size, 0, none⟩, 1, 1⟩, [(f, t, (w, l), ())])) r1 i hm (fun h' c => ?_) (fun e he hne a ha => ?_) (by rw [hputs]; exact hN)) fun tg vs h2 hx => ?_
 ·refine ok_edit (c.ownL ow1 fun a ha hf => by have := hzw a ha; omega).lst (c.own o1 fun a ha hf => ?_) (fits_i64.2 (by omega)) (fits_i64.2 (by omega))
  cases ha
  have h0 : Hist.zr h rho h.size = 0 := zr_new (Nat.le_refl _)
  dsimp only at hf
  omega
 ·rw [List.mem_singleton.1 he] at ha
  exact hzw a ha
 ·obtain ⟨rfl, e, rfl, _, he, rho', X', st, r', i', sm⟩ := hx
  have h0 : e = 0 := he.2 ⟨by show 1 ≤ 70000; decide, hok⟩
  subst h0
  rw [if_pos rfl, hputs] at i'
  exact ⟨rfl, (0, ()), rfl, hk h2 rho' X' (st1.trans st) r' i' sm⟩
theorem lett_fits {enc : Int} (he : known enc) (a : Int) : 0 < sizeF enc (lett a) := by
 have := lett_in a
 rw [fits_iff]
 unfold known at he
 omega
def cutE (E : List El) (c : EdD) : EdD := (slotF c.1 E.length, slotF c.1 E.length + slotF c.2.1 (min 3 (E.length - slotF c.1 E.length)), (⟨none, 0, 0⟩, c.2.2.1.2.map lett), ())
def cutC : List El → List EdD → List (List EdD)
 | _, [] => []
 | E, c :: cs => [cutE E c] :: cutC (allE E [cutE E c]) cs
theorem cutC_snoc (c : EdD) : ∀ (l : List EdD) (E : List El), cutC E (l ++ [c]) = cutC E l ++ [[cutE (playC E (cutC E l)) c]]
 | [], E => rfl
 | d :: l, E => by show [cutE E d] :: cutC _ (l ++ [c]) = _; rw [cutC_snoc c l]; rfl
theorem cut_okay {enc limit : Int} {E : List El} {c : EdD} (he : known enc) (hb : (blen enc E : Int) + 4 * c.2.2.1.2.length ≤ limit) : Okay enc limit E [cutE E c] ∧ blen enc (allE E [cutE E c]) ≤ blen enc E + 4 * c.2.2.1.2.length := by
 have h1 := slot_in (i := c.1) (n := E.length) (by omega)
 have h2 := slot_in (i := c.2.1) (n := min 3 (E.length - slotF c.1 E.length)) (by omega)
 have hf : fitsE enc (c.2.2.1.2.map lett) := fun a ha => by
  obtain ⟨x, _, rfl⟩ := List.mem_map.1 ha
  exact lett_fits he x
 have hb2 := blen_one (E := E) (e := cutE E c) hf h1.1 (by show slotF c.1 E.length ≤ slotF c.1 E.length + _; omega)
 have hl : (cutE E c).2.2.1.2.length = c.2.2.1.2.length := by simp [cutE]
 rw [hl] at hb2
 have ha : allE E [cutE E c] = one1 E (cutE E c) := rfl
 refine ⟨⟨⟨h1.1, ?_, ?_, trivial⟩, ?_, ?_⟩, hb2⟩
 ·show slotF c.1 E.length ≤ slotF c.1 E.length + _; omega
 ·show slotF c.1 E.length + slotF c.2.1 (min 3 (E.length - slotF c.1 E.length)) ≤ _; omega
 ·have : putsOf [cutE E c] = c.2.2.1.2.map lett := by simp [putsOf, cutE]
  rw [this]; exact hf
 ·rw [ha]; omega
theorem cut_ok {enc limit : Int} (he : known enc) : ∀ {l : List EdD} {E : List El}, (blen enc E : Int) + 4 * (putsOf l).length ≤ limit → OkC enc limit E (cutC E l) ∧ blen enc (playC E (cutC E l)) ≤ blen enc E + 4 * (putsOf l).length
 | [], E, _ => ⟨trivial, Nat.le_add_right _ _⟩
 | c :: l, E, hb => by
  have hp : (putsOf (c :: l)).length = c.2.2.1.2.length + (putsOf l).length := by simp [putsOf]
  rw [hp] at hb ⊢
  push_cast at hb
  obtain ⟨h1, h2⟩ := cut_okay (enc := enc) (limit := limit) (E := E) (c := c) he (by omega)
  obtain ⟨h3, h4⟩ := cut_ok (l := l) (E := allE E [cutE E c]) (limit := limit) he (by omega)
  refine ⟨⟨by show 1 ≤ 70000; decide, h1, h3⟩, ?_⟩
  show blen enc (playC (allE E [cutE E c]) (cutC _ l)) ≤ _
  omega
def Mo.mid (M : Mo) (cs : List (List EdD)) (bg : Int) : Mo := { M with now := some ⟨cs, bg, M.marks, M.watched⟩, marks := redoP (cs.map mvC') M.marks, watched := redoW (cs.map mvC') M.watched }
def Mo.grp (M : Mo) (cs : List (List EdD)) (bg en : Int) : Mo := if effC cs then (M.mid cs bg).keep ⟨cs, bg, M.marks, M.watched⟩ en else { M.mid cs bg with now := none }
theorem redoP_snoc (l : List (List MvD)) (m : List MvD) (ms : MkL) : redoP (l ++ [m]) ms = folP m (redoP l ms) := by simp [redoP]
theorem redoW_snoc (l : List (List MvD)) (m : List MvD) (ms : List Int) : redoW (l ++ [m]) ms = folW m (redoW l ms) := by simp [redoW]
theorem Mo.mid_chg (M : Mo) (cs : List (List EdD)) (bg : Int) (es : List EdD) : (M.mid cs bg).chg ⟨cs, bg, M.marks, M.watched⟩ es = M.mid (cs ++ [es.map strip]) bg := by
 unfold Mo.chg Mo.mid
 simp only [List.map_append, List.map_singleton, redoP_snoc, redoW_snoc, strip_mv]
end Go.Sw.Hist

set_option linter.unusedVariables false
set_option linter.unusedSimpArgs false
set_option maxRecDepth 100000
namespace Go.Sw.Hist
open Go.Sw.Any Go.Sw.Codec Go.Sw.Piece
variable {P : Program} {S : Ids} {h : Heap} {Q : Nat → List Value → Heap → Prop} {n k : Nat} {rho : Nat → Nat} {X : Bk}
theorem v_Len {M : Mo} {N : Nat} (r : BookR S n h rho k X) (i : Inv X M N) : Gives P (F_Text_Len S (some X.T.p)) [.one (.int .i64)] h fun (y : Int × Unit) _ => y.1 = M.E.length :=
 (c_Len r.t).mono fun y h' e hy => by rw [hy, i.lk.E]
theorem putsOf_snoc (c : EdD) (l : List EdD) : (putsOf (l ++ [c])).length = (putsOf l).length + c.2.2.1.2.length := by simp [putsOf]
theorem c_group (Me : Meth0 P S) (C : ClH P S) {M : Mo} {N : Nat} {x : Eds} {at_ : Int} (r : BookR S n h rho k X) (i : Inv X M N) (hn : M.now = none) (hx : ∀ h', Chg (fun i => k < rho i ∧ rho i ≤ k + 10) h h' → (Sh.list EdSh).ok h' x)
  (hw : (blen X.T.enc M.E : Int) + 4 * (putsOf x.2).length ≤ X.T.limit) (hN : N + x.2.length + (putsOf x.2).length + 1 ≤ 68719476736) :
  wp P (F_law7_group S (some X.b) x.1 at_) h fun tg vs h' => tg = 0 ∧ vs = [.bool true] ∧ ∃ bg en, BPost S n k X h rho h' (M.grp (cutC M.C x.2) bg en) (N + x.2.length + (putsOf x.2).length + 1) := by
 unfold F_law7_group
 have hE := Mo.E_shut hn
 have hlen := i.ok.len
 have hok := hx h (Chg.refl _ _)
 have hxl := hok.len
 have hxm : x.2.length < 2 ^ 63 := by have := hok.2.1; have := hok.2.2.1; omega
 refine wp_call (c_BText r) fun ⟨(p : Option Addr), _⟩ h1 e1 hp => ?_
 have hp : p = some X.T.p := hp
 subst hp
 dsimp only
 have st1 := StepR.ofExt (k := k) (rho := rho) e1
 have r1 := r.zr e1
 refine wp_call (v_Len r1 i) fun ⟨(L : Int), _⟩ h2 e2 hL => ?_
 have hL : L = M.E.length := hL
 subst hL
 dsimp only
 have st2 := st1.trans (StepR.ofExt e2)
 have r2 := r1.zr e2
 refine wp_call (c_slot (i := at_) (n := M.E.length) (by omega) (by omega)) fun ⟨(bg : Int), _⟩ h3 e3 hbg => ?_
 have hbg : bg = slotF at_ M.E.length := hbg
 subst hbg
 dsimp only
 have st3 := st2.trans (StepR.ofExt e3)
 have r3 := r2.zr e3
 have hin := slot_in (i := at_) (n := M.E.length) (by omega)
 refine wp_callW (v_Begin (a := slotF at_ M.E.length) r3 i (by omega)) fun tg vs h4 hq => ?_
 obtain ⟨rfl, rfl, rho4, X4, st4, r4, i4, sm4⟩ := hq
 have hb : M.beginR (slotF at_ M.E.length) = (0, M.mid [] (slotF at_ M.E.length)) := by
  unfold Mo.beginR
  rw [hn, if_neg (by decide), if_pos (show M.ins (slotF at_ M.E.length) from hin)]
  rfl
 rw [hb] at i4 ⊢
 have st4 := st3.trans st4
 clear r1 r2 r3 st1 st2 st3
 refine ⟨rfl, (0, ()), rfl, ?_⟩
 refine wp_call (c_num7) fun ⟨(y : Int), _⟩ h5 e5 hy => ?_
 have hy : y = 0 := hy
 subst hy
 refine wp_ifB (fun hc => by cases hc) fun _ => ?_
 have st5 := st4.trans (StepR.ofExt e5)
 have r5 := r4.zr e5
 generalize hbg : slotF at_ M.E.length = bg at i4 ⊢
 have hnl : natI x.1.len = (x.2.length : Int) := by rw [natI_def, hxl]
 rw [hnl]
 refine wp_while (fun (s : Int × Unit) h' => ∃ j : Nat, s.1 = j ∧ j ≤ x.2.length ∧ ∃ rho' X', StepR k h rho h' rho' ∧ BookR S n h' rho' k X' ∧ Inv X' (M.mid (cutC M.C (x.2.take j)) bg) (N + j + (putsOf (x.2.take j)).length) ∧ Sm X X') (fun s _ => ((x.2.length : Int) - s.1).toNat)
  (fun t vs h' => t = 2 ∧ vs = [] ∧ ∃ rho' X', StepR k h rho h' rho' ∧ BookR S n h' rho' k X' ∧ Inv X' (M.mid (cutC M.C x.2) bg) (N + x.2.length + (putsOf x.2).length) ∧ Sm X X')
  ⟨0, rfl, Nat.zero_le _, _, X4, st5, r5, by simpa [putsOf, cutC] using i4, sm4⟩ ?_ ?_
 ·rintro ⟨(s : Int), u⟩ h6 ⟨j, hs, hj, rho6, X6, st6, r6, i6, sm6⟩
  dsimp only at hs ⊢
  subst hs
  refine wp_ifB (fun hc => ?_) fun hc => ?_
  ·rw [ltI_iff] at hc
   have hjl : j < x.2.length := by omega
   obtain ⟨c, hcj⟩ : ∃ c, x.2[j]? = some c := ⟨x.2[j], List.getElem?_eq_getElem hjl⟩
   have hok6 := hx h6 st6.c
   have htk : x.2.take (j + 1) = x.2.take j ++ [c] := by rw [List.take_add_one, hcj]; rfl
   have hple : (putsOf (x.2.take j)).length + c.2.2.1.2.length ≤ (putsOf x.2).length := by
    have h1 := putsOf_le x.2 (j + 1)
    rw [htk, putsOf_snoc] at h1; exact h1
   have hcut := cut_ok (enc := X.T.enc) (limit := X.T.limit) i.ok.en (l := x.2.take j) (E := M.C) (by rw [hE] at hw; omega)
   have hE6 : (M.mid (cutC M.C (x.2.take j)) bg).E = playC M.C (cutC M.C (x.2.take j)) := rfl
   generalize hEE : playC M.C (cutC M.C (x.2.take j)) = E at hE6 hcut
   have l6 := i6.ok.len
   rw [hE6] at l6
   refine s_atSh (e := EdSh) (x := x) (y := c) hok6 (by omega) (by simpa using hcj) rfl (z := (c.1, c.2.1, c.2.2.1.1, ())) rfl ?_
   dsimp only
   rw [← sm6.p]
   refine wp_call (v_Len r6 i6) fun ⟨(L : Int), _⟩ h7 e7 hL => ?_
   have hL : L = E.length := by rw [← hE6]; exact hL
   subst hL
   dsimp only
   refine s_ckSh (e := EdSh) (x := x) (y := c) (hok6.ext e7) (by omega) (by simpa using hcj) rfl rfl ?_
   have hcl : Lst .i64 h7 c.2.2.1.1 c.2.2.1.2 := Sh.lst (Sh.ok.ext e7 (hok6.el hcj).2.2.1)
   refine wp_call (c_edit7 (c1 := c.1) (c2 := c.2.1) (n := E.length) hcl (by omega) (by omega) (by omega)) fun ⟨⟨(f : Int), (t : Int), (w : Sl), _⟩, _⟩ h8 e8 hy => ?_
   obtain ⟨hf, ht, ow⟩ := hy
   have hf : f = slotF c.1 E.length := hf
   have ht : t = slotF c.1 E.length + slotF c.2.1 (min 3 (E.length - slotF c.1 E.length)) := ht
   have ow : OwnL h7.size .i64 h8 w (c.2.2.1.2.map lett) := ow
   dsimp only
   have e68 := e7.trans e8
   have r8 := r6.zr e68
   have hstrip : [((f, t, (w, c.2.2.1.2.map lett), ()) : EdD)].map strip = [cutE E c] := by rw [hf, ht]; rfl
   have hok8 : Okay X6.T.enc X6.T.limit (M.mid (cutC M.C (x.2.take j)) bg).E [((f, t, (w, c.2.2.1.2.map lett), ()) : EdD)] := by
    rw [← strip_okay, hstrip, sm6.enc, sm6.limit, hE6]
    refine (cut_okay i.ok.en ?_).1
    have h1 := hcut.2
    rw [hE] at hw
    omega
   rw [← sm6.b]
   refine s_change1 Me (q := ⟨cutC M.C (x.2.take j), bg, M.marks, M.watched⟩) r8 i6 rfl ow (fun a ha => ?_) hok8 (by rw [List.length_map]; omega) fun h9 rho9 X9 st9 r9 i9 sm9 => ?_
   ·have := (ow.own.lt ha).1
    rw [zr_new (by have := e7.1; omega)]; omega
   rw [Mo.mid_chg, hstrip, List.length_map] at i9
   dsimp only
   refine wp_call (c_num7) fun ⟨(y : Int), _⟩ h10 e10 hy => ?_
   have hy : y = 0 := hy
   subst hy
   refine wp_ifB (fun hc => by cases hc) fun _ => ?_
   rw [add_ok (by omega) (by omega)]
   refine s_ret ⟨fun _ => ⟨((j : Int) + 1, ()), rfl, ⟨j + 1, by push_cast; rfl, by omega, _, X9, (((st6.trans (StepR.ofExt e68)).trans st9).trans (StepR.ofExt e10)), r9.zr e10, ?_, sm6.trans sm9⟩, by dsimp only; omega⟩, fun hh => absurd rfl hh⟩
   rw [htk, cutC_snoc, hEE, putsOf_snoc]
   exact i9.mono (by omega)
  ·rw [ltI_not] at hc
   have hj : j = x.2.length := by omega
   subst hj
   rw [List.take_length] at i6
   exact s_ret ⟨fun hh => absurd hh (by decide), fun _ => ⟨rfl, rfl, rho6, X6, st6, r6, i6, sm6⟩⟩
 ·rintro tg vs h6 ⟨rfl, rfl, rho6, X6, st6, r6, i6, sm6⟩
  refine s_tag (s_cast0 ?_)
  have l6 := i6.ok.len
  generalize hME : (M.mid (cutC M.C x.2) bg).E.length = L at l6
  rw [← sm6.p]
  refine wp_call (v_Len r6 i6) fun ⟨(L' : Int), _⟩ h7 e7 hL => ?_
  have hL : L' = L := by rw [← hME]; exact hL
  subst hL
  dsimp only
  refine wp_call (c_slot (i := at_) (n := L) (by omega) (by omega)) fun ⟨(en : Int), _⟩ h8 e8 hen => ?_
  have hen : en = slotF at_ L := hen
  have hin := slot_in (i := at_) (n := L) (by omega)
  rw [← hen] at hin
  dsimp only
  have e68 := e7.trans e8
  rw [← sm6.b]
  refine wp_callW (v_End C (a := en) (r6.zr e68) i6 (by omega)) fun tg vs h9 hq => ?_
  have hend : (M.mid (cutC M.C x.2) bg).endR en = (0, M.grp (cutC M.C x.2) bg en) := by
   show (if (M.mid (cutC M.C x.2) bg).ins en then ((0 : Int), if effC (cutC M.C x.2) then (M.mid (cutC M.C x.2) bg).keep ⟨cutC M.C x.2, bg, M.marks, M.watched⟩ en else { M.mid (cutC M.C x.2) bg with now := none }) else (2, M.mid (cutC M.C x.2) bg)) = _
   rw [if_pos (by unfold Mo.ins; rw [hME]; exact hin)]
   rfl
  rw [hend] at hq
  obtain ⟨rfl, rfl, rho9, X9, st9, r9, i9, sm9⟩ := hq
  refine ⟨rfl, (0, ()), rfl, wp_call (c_num7) fun ⟨(y : Int), _⟩ h10 e10 hy => ?_⟩
  have hy : y = 0 := hy
  subst hy
  exact s_ret ⟨rfl, rfl, bg, en, _, X9, ((st6.trans (StepR.ofExt e68)).trans st9).trans (StepR.ofExt e10), r9.zr e10, i9, sm6.trans sm9⟩
end Go.Sw.Hist

set_option linter.unusedVariables false
set_option linter.unusedSimpArgs false
set_option maxRecDepth 100000
namespace Go.Sw.Hist
open Go.Sw.Any Go.Sw.Codec Go.Sw.Piece
variable {P : Program} {S : Ids} {h : Heap} {Q : Nat → List Value → Heap → Prop} {n k : Nat} {rho : Nat → Nat} {X : Bk}
def Mo.new (E : List El) (depth : Int) : Mo := { E0 := E, depth := depth, lost := [], done := [], next := [], now := none, marks := [], watched := [], saved := 0, last := 0 }
theorem new_inv {depth : Int} {T : TX} (t : TextR S n h T) (nb : NewB depth T X) (A : T.A = []) (hb : (bytesL T.cur.ps).length ≤ T.limit) (hd : 1 ≤ depth ∧ depth ≤ 200) : Inv X (Mo.new (els T.enc T.cur.ps) depth) 0 := by
 have hT := nb.T
 have h1 := blen_state t.cur t.enc
 have h2 := (toksL_els t.enc t.cur.bytes).2.2
 have oe : OkE T.enc T.limit (els T.enc T.cur.ps) := ⟨h2, by rw [h1]; omega⟩
 have hlim := t.lim
 refine ⟨?_, ?_⟩
 ·rw [hT]
  exact ⟨t.enc, hlim, hd, oe, trivial, trivial, Int.le_refl _, fun g hg => (by cases hg), List.Pairwise.nil, fun e he => (by cases he), List.Pairwise.nil, Nat.le_refl _, fun v hv => (by cases hv), Nat.le_refl _, fun q hq => (by cases hq), Nat.le_refl _⟩
 ·have hU := nb.U; have hR := nb.R
  refine ⟨by rw [hT]; rfl, ?_, ?_, ?_, ?_, nb.ws, nb.nums.1, nb.nums.2.1, nb.nums.2.2, nb.depth, by rw [hT, A]; exact Nat.zero_le _⟩
  ·rw [hU]; exact .nil _ _
  ·rw [hR]; exact .nil _ _
  ·rw [nb.now]; trivial
  ·rw [nb.ms]; exact List.Perm.refl _
theorem Book7.inv {h0 : Heap} {enc depth : Int} {l : List Int} (b : Book7 S h0 h enc depth l X) (r : BookR S n h rho k X) (hl : l.length ≤ 60000) (hd : 1 ≤ depth ∧ depth ≤ 200) : Inv X (Mo.new (elsF 0 0 (toks enc l)) depth) 0 := by
 have := new_inv r.t b.new b.A (by rw [b.bytes, b.li]; omega) hd
 have e : els X.T.enc X.T.cur.ps = elsF 0 0 (toks enc l) := by rw [b.en]; exact b.el
 rw [e] at this; exact this
abbrev Edss := Sl × List Eds
abbrev EdssSh : Sh := .list (.list EdSh)
theorem s_ldEs {x : Edss} {y : Eds} {i : Nat} {K : Sl → Prog} (ok : EdssSh.ok h x) (hy : x.2[i]? = some y) (hk : wp P (K y.1) h Q) :
  wp P (grd (andB (someB x.1.base) (inB (i : Int) x.1.len)) <| .load (.one .sl) (shiftTo x.1.base (mulN (toN (i : Int)) 1)) K) h Q := by
 obtain ⟨o1, o2, o3, o4⟩ := ok
 obtain ⟨a, ea, c, _⟩ := o4 i y hy
 have hlt := (List.getElem?_eq_some_iff.1 hy).1
 refine wp_grd (andB_iff.2 ⟨by rw [ea]; rfl, inB_is.2 ⟨by omega, by omega⟩⟩) ?_
 rw [mulN_def, toN_def, Int.toNat_natCast, ea]
 exact wp_load1 (a.add (i * 1)) y.1 rfl (by have := cells_iff.1 c 0 _ rfl; rw [add_zero'] at this; exact this) hk
def szG (gs : List Eds) : Nat := (gs.map fun g => g.2.length + (putsOf g.2).length).sum
theorem szG_take {gs : List Eds} {g : Eds} {i : Nat} (hi : gs[i]? = some g) : szG (gs.take (i + 1)) = szG (gs.take i) + (g.2.length + (putsOf g.2).length) := by
 rw [List.take_add_one, hi]; simp [szG]
theorem szG_le (gs : List Eds) (i : Nat) : szG (gs.take i) ≤ szG gs := sum_take_le (fun g : Eds => g.2.length + (putsOf g.2).length) gs i
theorem szG_mem {gs : List Eds} {g : Eds} (hg : g ∈ gs) : g.2.length + (putsOf g.2).length ≤ szG gs := sum_mem_le (fun g : Eds => g.2.length + (putsOf g.2).length) hg
theorem szG_wt (x : Edss) : szG x.2 ≤ 2 * EdssSh.wt x ∧ x.2.length ≤ EdssSh.wt x := by
 have e : EdssSh.wt x = (x.2.map (Sh.list EdSh).wt).sum + 1 := rfl
 have h1 := sum_le_sum (fun y : Eds => y.2.length) (Sh.list EdSh).wt x.2 fun y _ => (eds_wt y).1
 have h2 := sum_le_sum (fun y : Eds => (putsOf y.2).length) (Sh.list EdSh).wt x.2 fun y _ => (eds_wt y).2.1
 have h3 : szG x.2 = (x.2.map fun y : Eds => y.2.length).sum + (x.2.map fun y : Eds => (putsOf y.2).length).sum := by
  unfold szG
  generalize x.2 = l
  induction l with
  | nil => rfl
  | cons y l ih => simp only [List.map_cons, List.sum_cons, ih]; omega
 have h4 : x.2.length + 1 ≤ EdssSh.wt x := Sh.wt_len (e := Sh.list EdSh) x fun y => by show 1 ≤ (y.2.map EdSh.wt).sum + 1; omega
 exact ⟨by omega, by omega⟩
theorem c_short {b : Sl} {l : List Int} {x : Edss} (hb : b.len = l.length) (hl : l.length < 2 ^ 62) (ok : EdssSh.ok h x) (hx : szG x.2 ≤ 1073741824) (hxl : x.2.length ≤ 1073741824) :
  Gives P (F_law7_short S b x.1) [.one .bool] h fun (y : Bool × Unit) _ => y.1 = true ↔ l.length + szG x.2 ≤ 8000 ∧ x.2.length ≤ 190 := by
 unfold F_law7_short Gives
 have hlen := ok.len
 have hn : natI x.1.len = (x.2.length : Int) := by rw [natI_def, hlen]
 rw [hn, natI_def, hb]
 refine wp_while (fun (s : Int × Int × Unit) h' => Ext h h' ∧ ∃ i : Nat, s.2.1 = i ∧ i ≤ x.2.length ∧ s.1 = (l.length + szG (x.2.take i) : Nat)) (fun s _ => ((x.2.length : Int) - s.2.1).toNat)
  (fun t vs h' => t = 2 ∧ Ext h h' ∧ vs = [i64v ((l.length + szG x.2 : Nat) : Int)]) ⟨Ext.refl _, 0, rfl, Nat.zero_le _, by simp [szG]⟩ ?_ ?_
 ·rintro ⟨(m : Int), (i' : Int), u⟩ h1 ⟨e1, i, hi, hil, hm⟩
  dsimp only at hi hm ⊢
  subst hi; subst hm
  refine wp_ifB (fun hc => ?_) fun hc => ?_
  ·rw [ltI_iff] at hc
   have hlt : i < x.2.length := by omega
   obtain ⟨g, hg⟩ : ∃ g, x.2[i]? = some g := ⟨x.2[i], List.getElem?_eq_getElem hlt⟩
   have ok1 := ok.ext e1
   have okg := ok1.el hg
   have hgl := okg.len
   have hgs := szG_mem (List.mem_of_getElem? hg)
   have htl := szG_le x.2 i
   refine s_ldEs ok1 hg ?_
   rw [natI_def, hgl, add_ok (by omega) (by omega)]
   refine wp_while (fun (s : Int × Int × Unit) h' => Ext h h' ∧ ∃ j : Nat, s.2.1 = j ∧ j ≤ g.2.length ∧ s.1 = (l.length + szG (x.2.take i) + g.2.length + (putsOf (g.2.take j)).length : Nat)) (fun s _ => ((g.2.length : Int) - s.2.1).toNat)
    (fun t vs h' => t = 4 ∧ Ext h h' ∧ vs = [i64v ((l.length + szG (x.2.take (i + 1)) : Nat) : Int)]) ⟨e1, 0, rfl, Nat.zero_le _, by simp [putsOf]⟩ ?_ ?_
   ·rintro ⟨(m : Int), (j' : Int), u⟩ h2 ⟨e2, j, hj, hjl, hm⟩
    dsimp only at hj hm ⊢
    subst hj; subst hm
    have ok2 := ok.ext e2
    have okg2 := ok2.el hg
    refine s_ldEs ok2 hg (wp_ifB (fun hd => s_ldEs ok2 hg ?_) fun hd => ?_)
    ·rw [ltI_iff, natI_def, hgl] at hd
     have hjt : j < g.2.length := by omega
     obtain ⟨c, hc⟩ : ∃ c, g.2[j]? = some c := ⟨g.2[j], List.getElem?_eq_getElem hjt⟩
     have htk : g.2.take (j + 1) = g.2.take j ++ [c] := by rw [List.take_add_one, hc]; rfl
     have hple := putsOf_le g.2 (j + 1)
     rw [htk, putsOf_snoc] at hple
     have hcl := (okg2.el hc).2.2.1.len
     refine s_fieldSh (e := EdSh) (b := .sl) (y := c) (z := c.2.2.1.1) okg2 (by omega) (by simpa using hc) rfl rfl ?_
     have hcl : c.2.2.1.1.len = c.2.2.1.2.length := hcl
     rw [natI_def, hcl, add_ok (by omega) (by omega), add_ok (by omega) (by omega)]
     exact s_ret ⟨fun _ => ⟨(_, (j : Int) + 1, ()), rfl, ⟨e2, j + 1, by push_cast; rfl, by omega, by rw [htk, putsOf_snoc]; push_cast; omega⟩, by dsimp only; omega⟩, fun hh => absurd rfl hh⟩
    ·rw [ltI_not, natI_def, hgl] at hd
     have hj : j = g.2.length := by omega
     subst hj
     refine s_ret ⟨fun hh => absurd hh (by decide), fun _ => ⟨rfl, e2, ?_⟩⟩
     rw [szG_take hg, List.take_length]
     congr 2
     push_cast; omega
   ·rintro t vs h2 ⟨rfl, e2, rfl⟩
    refine s_tag (s_castI ?_)
    rw [add_ok (by omega) (by omega)]
    exact s_ret ⟨fun _ => ⟨(_, (i : Int) + 1, ()), rfl, ⟨e2, i + 1, by push_cast; rfl, by omega, rfl⟩, by dsimp only; omega⟩, fun hh => absurd rfl hh⟩
  ·rw [ltI_not] at hc
   have hi : i = x.2.length := by omega
   subst hi
   refine s_ret ⟨fun hh => absurd hh (by decide), fun _ => ⟨rfl, e1, ?_⟩⟩
   rw [List.take_length]
 ·rintro t vs h1 ⟨rfl, e1, rfl⟩
  refine s_tag (s_castI ?_)
  refine bind_bool (l.length + szG x.2 ≤ 8000 ∧ x.2.length ≤ 190) (wp_ifB (fun hc => s_ret ⟨rfl, Ext.refl _, _, rfl, ?_⟩) fun hc => s_ret ⟨rfl, Ext.refl _, false, rfl, ?_⟩) fun bb h2 e2 hbb => s_ret ⟨rfl, e1.trans e2, (bb, ()), rfl, hbb⟩
  ·rw [leI_iff] at hc
   rw [leI_iff]
   dsimp only at hc
   constructor
   ·intro h2; exact ⟨by omega, by omega⟩
   ·intro h2; omega
  ·rw [leI_not] at hc
   dsimp only at hc
   exact ⟨fun h2 => (by cases h2), fun h2 => by omega⟩
end Go.Sw.Hist

set_option linter.unusedVariables false
set_option linter.unusedSimpArgs false
set_option maxRecDepth 100000
namespace Go.Sw.Hist
open Go.Sw.Any Go.Sw.Codec Go.Sw.Piece
variable {P : Program} {S : Ids} {h : Heap} {Q : Nat → List Value → Heap → Prop} {n k : Nat} {rho : Nat → Nat} {X : Bk}
structure Wid where
 n : Nat
 h0 : Heap
 b : Addr
 p : Addr
 enc : Int
 limit : Int
 K : (Nat → Nat) → Heap → Prop
 ks : ∀ rho h rho' h', StepR 0 h rho h' rho' → K rho h → K rho' h'
def Wid.one (n : Nat) (h0 : Heap) (b p : Addr) (enc limit : Int) : Wid := ⟨n, h0, b, p, enc, limit, fun _ _ => True, fun _ _ _ _ _ _ => trivial⟩
def Wid.add (w : Wid) (K : (Nat → Nat) → Heap → Prop) (ks : ∀ rho h rho' h', StepR 0 h rho h' rho' → K rho h → K rho' h') : Wid := { w with K := fun rho h => w.K rho h ∧ K rho h, ks := fun rho h rho' h' st k => ⟨w.ks _ _ _ _ st k.1, ks _ _ _ _ st k.2⟩ }
def Wd (S : Ids) (w : Wid) (h : Heap) (M : Mo) (N : Nat) : Prop :=
 ∃ rho X, StepR 0 w.h0 (fun _ => 0) h rho ∧ BookR S w.n h rho 0 X ∧ Inv X M N ∧ w.K rho h ∧ X.b = w.b ∧ X.T.p = w.p ∧ X.T.enc = w.enc ∧ X.T.limit = w.limit
variable {w : Wid} {M : Mo} {N : Nat}
theorem step_ext {h0 : Heap} {rho : Nat → Nat} (st : StepR 0 h0 (fun _ => 0) h rho) : Ext h0 h := ⟨st.c.1, fun i hi => st.c.2.1 i hi fun ⟨a, _⟩ => absurd a (Nat.lt_irrefl 0), st.c.2.2⟩
theorem Wd.e (d : Wd S w h M N) : Ext w.h0 h := let ⟨_, _, st, _⟩ := d; step_ext st
theorem Wd.ok (d : Wd S w h M N) : MoOk w.enc w.limit M N := by
 obtain ⟨rho, X, st, r, i, _, e1, e2, e3, e4⟩ := d
 rw [← e3, ← e4]; exact i.ok
theorem Wd.ext {h' : Heap} (d : Wd S w h M N) (e : Ext h h') : Wd S w h' M N := by
 obtain ⟨rho, X, st, r, i, e1⟩ := d
 exact ⟨_, X, st.trans (StepR.ofExt e), r.zr e, i, w.ks _ _ _ _ (StepR.ofExt e) e1.1, e1.2⟩
theorem Wd.mono {N' : Nat} (d : Wd S w h M N) (hN : N ≤ N') : Wd S w h M N' := by
 obtain ⟨rho, X, st, r, i, e1⟩ := d
 exact ⟨rho, X, st, r, i.mono hN, e1⟩
theorem Wd.of {h' : Heap} {M' : Mo} {N' : Nat} {rho : Nat → Nat} {X : Bk} (st : StepR 0 w.h0 (fun _ => 0) h rho) (he : w.K rho h ∧ X.b = w.b ∧ X.T.p = w.p ∧ X.T.enc = w.enc ∧ X.T.limit = w.limit) (b : BPost S w.n 0 X h rho h' M' N') : Wd S w h' M' N' := by
 obtain ⟨rho', X', st', r', i', sm⟩ := b
 exact ⟨rho', X', st.trans st', r', i', w.ks _ _ _ _ st' he.1, sm.b.trans he.2.1, sm.p.trans he.2.2.1, sm.enc.trans he.2.2.2.1, sm.limit.trans he.2.2.2.2⟩
theorem Wd.add {h' : Heap} {K : (Nat → Nat) → Heap → Prop} {ks : ∀ rho h rho' h', StepR 0 h rho h' rho' → K rho h → K rho' h'} (d : Wd S w h M N) (e : Ext h h') (hK : ∀ rho, (∀ i, h.size ≤ i → rho i = 0) → K rho h') : Wd S (w.add K ks) h' M N := by
 obtain ⟨rho, X, st, r, i, e1⟩ := d
 exact ⟨_, X, st.trans (StepR.ofExt e), r.zr e, i, ⟨w.ks _ _ _ _ (StepR.ofExt e) e1.1, hK _ fun i hi => zr_new hi⟩, e1.2⟩
def KL (m : Nat) (s : Sl) (l : List Int) (rho : Nat → Nat) (h : Heap) : Prop := OwnL m .i64 h s l ∧ ∀ a, s.base = some a → rho a.block = 0
theorem KL.st (m : Nat) (s : Sl) (l : List Int) : ∀ rho h rho' h', StepR 0 h rho h' rho' → KL m s l rho h → KL m s l rho' h' := fun rho h rho' h' st k =>
 ⟨st.c.ownL k.1 fun a ha hf => by have := k.2 a ha; omega, fun a ha => by rw [st.old _ (k.1.own.lt ha).2 (.inl (by rw [k.2 a ha]; exact Nat.le_refl 0))]; exact k.2 a ha⟩
theorem Wd.keep (d : Wd S w h M N) : ∃ rho, w.K rho h := let ⟨rho, _, _, _, _, e1⟩ := d; ⟨rho, e1.1⟩
theorem w_SetMark {name a : Int} (d : Wd S w h M N) (hfn : fitsI .i64 name) (hfa : fitsI .i64 a) : wp P (F_Book_SetMark S (some w.b) name a) h fun tg vs h' => tg = 0 ∧ vs = [i64v (M.setR name a).1] ∧ Wd S w h' (M.setR name a).2 (N + 1) := by
 obtain ⟨rho, X, st, r, i, e1⟩ := d
 rw [← e1.2.1]
 exact wp_mono _ (fun tg vs h' ⟨h1, h2, h3⟩ => ⟨h1, h2, Wd.of st e1 h3⟩) (v_SetMark r i hfn hfa)
theorem w_Watch {s : Sl} {l : List Int} (d : Wd S w h M N) (hs : Lst .i64 h s l) (hl : l.length ≤ 1099511627776) : wp P (F_Book_Watch S (some w.b) s) h fun tg vs h' => tg = 0 ∧ vs = [i64v (M.watchR l).1] ∧ Wd S w h' (M.watchR l).2 (N + l.length) := by
 obtain ⟨rho, X, st, r, i, e1⟩ := d
 rw [← e1.2.1]
 exact wp_mono _ (fun tg vs h' ⟨h1, h2, h3⟩ => ⟨h1, h2, Wd.of st e1 h3⟩) (v_Watch r i hs hl)
theorem w_Text (d : Wd S w h M N) : Gives P (F_Book_Text S (some w.b)) [.one .ptr] h fun (y : Option Addr × Unit) h' => y.1 = some w.p ∧ Wd S w h' M N := by
 have d0 := d
 obtain ⟨rho, X, st, r, i, e1⟩ := d
 rw [← e1.2.1]
 exact (c_BText r).mono fun y h' e hy => ⟨by rw [hy, e1.2.2.1], d0.ext e⟩
theorem w_Len (d : Wd S w h M N) : Gives P (F_Text_Len S (some w.p)) [.one (.int .i64)] h fun (y : Int × Unit) h' => y.1 = M.E.length ∧ Wd S w h' M N := by
 have d0 := d
 obtain ⟨rho, X, st, r, i, e1⟩ := d
 rw [← e1.2.2.1]
 exact (v_Len r i).mono fun y h' e hy => ⟨hy, d0.ext e⟩
theorem w_Mark {name : Int} (d : Wd S w h M N) : Gives P (F_Book_Mark S (some w.b) name) [.one (.int .i64), .one (.int .i64)] h fun (y : Int × Int × Unit) h' => (y.1 = (M.markR name).1 ∧ y.2.1 = (M.markR name).2) ∧ Wd S w h' M N := by
 have d0 := d
 obtain ⟨rho, X, st, r, i, e1⟩ := d
 rw [← e1.2.1]
 exact (v_Mark r i).mono fun y h' e hy => ⟨hy, d0.ext e⟩
theorem w_Watched (d : Wd S w h M N) (hN : N ≤ 68719476736) : Gives P (F_Book_Watched S (some w.b)) [.one .sl] h fun (y : Sl × Unit) h' => OwnL h.size .i64 h' y.1 M.watched ∧ Wd S w h' M N := by
 have d0 := d
 obtain ⟨rho, X, st, r, i, e1⟩ := d
 rw [← e1.2.1]
 exact (v_Watched r i hN).mono fun y h' e hy => ⟨hy, d0.ext e⟩
theorem w_group (Me : Meth0 P S) (C : ClH P S) {x : Eds} {at_ : Int} (d : Wd S w h M N) (hn : M.now = none) (hx : (Sh.list EdSh).ok w.h0 x) (hw : (blen w.enc M.E : Int) + 4 * (putsOf x.2).length ≤ w.limit) (hN : N + x.2.length + (putsOf x.2).length + 1 ≤ 68719476736) :
  wp P (F_law7_group S (some w.b) x.1 at_) h fun tg vs h' => tg = 0 ∧ vs = [.bool true] ∧ ∃ bg en, Wd S w h' (M.grp (cutC M.C x.2) bg en) (N + x.2.length + (putsOf x.2).length + 1) := by
 obtain ⟨rho, X, st, r, i, e1⟩ := d
 rw [← e1.2.1]
 refine wp_mono _ (fun tg vs h' ⟨h1, h2, bg, en, h3⟩ => ⟨h1, h2, bg, en, Wd.of st e1 h3⟩) (c_group Me C r i hn (fun h' c => hx.ext ?_) (by rw [e1.2.2.2.1, e1.2.2.2.2]; exact hw) hN)
 have hz : ∀ i, i < w.h0.size → rho i = 0 := fun i hi => st.old i hi (.inl (Nat.le_refl 0))
 have := st.c.trans c fun i hi hr => by rw [hz i hi] at hr; omega
 exact ⟨this.1, fun i hi => this.2.1 i hi fun ⟨a, _⟩ => absurd a (Nat.lt_irrefl 0), this.2.2⟩
theorem Mo.grp_no {cs : List (List EdD)} {bg en : Int} (he : effC cs = false) : M.grp cs bg en = { M.mid cs bg with now := none } := by unfold Mo.grp; rw [he]; rfl
theorem Mo.grp_yes {cs : List (List EdD)} {bg en : Int} (he : effC cs = true) : M.grp cs bg en = (M.mid cs bg).keep ⟨cs, bg, M.marks, M.watched⟩ en := by unfold Mo.grp; rw [he]; rfl
theorem Mo.grp_now {cs : List (List EdD)} {bg en : Int} : (M.grp cs bg en).now = none := by unfold Mo.grp; split <;> rfl
theorem Mo.grp_E0 {cs : List (List EdD)} {bg en : Int} : (M.grp cs bg en).E0 = M.E0 := by unfold Mo.grp; split <;> rfl
theorem Mo.grp_marks {cs : List (List EdD)} {bg en : Int} : (M.grp cs bg en).marks = redoP (cs.map mvC') M.marks := by unfold Mo.grp; split <;> rfl
theorem Mo.grp_watched {cs : List (List EdD)} {bg en : Int} : (M.grp cs bg en).watched = redoW (cs.map mvC') M.watched := by unfold Mo.grp; split <;> rfl
theorem Mo.grp_E {enc limit : Int} {cs : List (List EdD)} {bg en : Int} (hn : M.now = none) (ho : OkC enc limit M.C cs) : (M.grp cs bg en).E = playC M.C cs := by
 cases he : effC cs with
 | false =>
  rw [Mo.grp_no he, Mo.E_shut rfl, eff_play ho he]; rfl
 | true =>
  rw [Mo.grp_yes he, Mo.E_shut rfl, Mo.keep_C (M := M.mid cs bg) rfl]; rfl
def WtG (enc : Int) (W : Nat) : List El → List GM → Prop
 | E, [] => blen enc E ≤ W
 | E, g :: l => blen enc E ≤ W ∧ WtG enc W (playC E g.chs) l
theorem WtG.head {enc : Int} {W : Nat} : ∀ {l : List GM} {E : List El}, WtG enc W E l → blen enc E ≤ W
 | [], _, h => h
 | _ :: _, _, h => h.1
theorem WtG.pre {enc : Int} {W : Nat} {m : List GM} : ∀ {l : List GM} {E : List El}, WtG enc W E (l ++ m) → WtG enc W E l ∧ WtG enc W (playG E l) m
 | [], _, h => ⟨h.head, h⟩
 | g :: l, E, ⟨h1, h2⟩ => ⟨⟨h1, (WtG.pre h2).1⟩, (WtG.pre (l := l) h2).2⟩
theorem WtG.mono {enc : Int} {W W' : Nat} (hW : W ≤ W') : ∀ {l : List GM} {E : List El}, WtG enc W E l → WtG enc W' E l
 | [], _, h => Nat.le_trans h hW
 | _ :: _, _, h => ⟨Nat.le_trans h.1 hW, WtG.mono hW h.2⟩
theorem WtG.snoc {enc : Int} {W : Nat} {g : GM} : ∀ {l : List GM} {E : List El}, WtG enc W E l → blen enc (playC (playG E l) g.chs) ≤ W → WtG enc W E (l ++ [g])
 | [], _, h, h2 => ⟨h, h2⟩
 | _ :: _, _, h, h2 => ⟨h.1, WtG.snoc h.2 h2⟩
theorem grp_wt {enc limit : Int} {W : Nat} {cuts : List EdD} {bg en : Int} (he : known enc) (hW : WtG enc W M.E0 M.all) (hl : (W : Int) + 4 * (putsOf cuts).length ≤ limit) :
  WtG enc (W + 4 * (putsOf cuts).length) (M.grp (cutC M.C cuts) bg en).E0 (M.grp (cutC M.C cuts) bg en).all := by
 rw [Mo.grp_E0]
 have hC : blen enc M.C ≤ W := hW.pre.2.head
 have hc := cut_ok (enc := enc) (limit := limit) he (l := cuts) (E := M.C) (by omega)
 cases hef : effC (cutC M.C cuts) with
 | false => rw [Mo.grp_no hef]; exact hW.mono (Nat.le_add_right _ _)
 | true =>
  rw [Mo.grp_yes hef, Mo.keep_all]
  refine (hW.pre.1.mono (Nat.le_add_right _ _)).snoc ?_
  have h2 := hc.2
  show blen enc (playC M.C (cutC M.C cuts)) ≤ _
  omega
end Go.Sw.Hist

set_option linter.unusedVariables false
set_option linter.unusedSimpArgs false
set_option maxRecDepth 100000
namespace Go.Sw.Hist
open Go.Sw.Any Go.Sw.Codec Go.Sw.Piece
variable {P : Program} {S : Ids} {h : Heap} {Q : Nat → List Value → Heap → Prop} {w : Wid} {M : Mo} {N : Nat}
structure Und (full : List GM) (gone : Nat) (M : Mo) : Prop where
 now : M.now = none
 lost : M.lost = []
 done : M.done = full.take (full.length - gone)
 next : M.next = full.drop (full.length - gone)
 sv : M.saved = stG 0 (full.take (full.length - 1))
 le : gone ≤ full.length
structure Grow (w : Wid) (i W : Nat) (M : Mo) : Prop where
 now : M.now = none
 saved : M.saved = 0
 lost : M.lost = []
 next : M.next = []
 len : M.done.length ≤ i
 wt : WtG w.enc W M.E0 M.all
end Go.Sw.Hist

set_option linter.unusedVariables false
set_option linter.unusedSimpArgs false
set_option maxRecDepth 100000
namespace Go.Sw.Hist
open Go.Sw.Any Go.Sw.Codec Go.Sw.Piece
theorem goL_end {len : Int} : ∀ {l : List MvD} {at_ : Int}, PlM len at_ l → at_ ≤ len → goL len l = (len + sumD l, true)
 | [], _, _, _ => by simp [goL, sumD]
 | e :: l, at_, ⟨a, b, c, d, f⟩, h => by
  have hs := sumD_lo f c
  have e1 : goL len (e :: l) = go1 e (goL len l) := rfl
  rw [e1, goL_end f c, sumD_cons]
  unfold go1
  rw [if_neg (show ¬ len + sumD l < e.1 by omega), if_pos (show e.2.1 ≤ len + sumD l by omega)]
  refine Prod.ext ?_ rfl
  dsimp only; omega
def Uniq (E : List El) : Prop := ((E.filter tg).map (·.2)).Nodup
theorem Uniq.all {E : List El} {c : List EdD} (u : Uniq E) (h : ∀ e ∈ c, e.1 ≤ e.2.1) : Uniq (allE E c) :=
 List.Nodup.sublist ((all_sub h).map _) u
theorem uniq_at {t : Int} (ht : t ≠ -1) : ∀ {E : List El} {i j : Nat} {x y : El}, Uniq E → E[i]? = some x → E[j]? = some y → x.2 = t → y.2 = t → i = j := by
 have key : ∀ {E : List El} {x : El}, x ∈ E → x.2 = t → t ∈ (E.filter tg).map (·.2) := fun hx he => List.mem_map.2 ⟨_, List.mem_filter.2 ⟨hx, by unfold tg; rw [he]; exact decide_eq_true ht⟩, he⟩
 intro E
 induction E with
 | nil => intro i j x y _ hi; simp at hi
 | cons z E ih =>
  intro i j x y u hi hj hx hy
  have hz : z.2 = t → t ∉ (E.filter tg).map (·.2) := fun e => by
   unfold Uniq at u
   rw [List.filter_cons_of_pos (by unfold tg; rw [e]; exact decide_eq_true ht), List.map_cons, List.nodup_cons, e] at u
   exact u.1
  have hu : Uniq E := by
   unfold Uniq at u ⊢
   exact List.Nodup.sublist (((List.sublist_cons_self z E).filter tg).map _) u
  cases i with
  | zero =>
   simp at hi; subst hi
   cases j with
   | zero => rfl
   | succ j => simp at hj; exact absurd (key (List.mem_of_getElem? hj) hy) (hz hx)
  | succ i =>
   simp at hi
   cases j with
   | zero => simp at hj; subst hj; exact absurd (key (List.mem_of_getElem? hi) hx) (hz hy)
   | succ j => simp at hj; rw [ih hu hi hj hx hy]
structure Fol (t : Int) (E : List El) (m v : Int) : Prop where
 u : Uniq E
 ml : 0 ≤ m ∧ m ≤ E.length
 at_ : (∃ (j : Nat) (x : El), E[j]? = some x ∧ x.2 = t ∧ v = j ∧ m = j) ∨ ((∀ x ∈ E, x.2 ≠ t) ∧ v = -1)
theorem Fol.chg {t : Int} {enc limit : Int} {E : List El} {m v : Int} {c : List EdD} (ht : t ≠ -1) (f : Fol t E m v) (ok : Okay enc limit E c) : Fol t (allE E c) (goL m (mvC' c)).1 (wv (mvC' c) v) := by
 have hp := plM_of ok.1
 have hlen := allE_len ok.1 (Int.le_refl _)
 have hin := goL_in (m := m) hp f.ml.1 f.ml.2
 refine ⟨f.u.all ok.1.le, by show 0 ≤ (goL m (c.map mvOf)).1 ∧ _; rw [hlen]; exact hin, ?_⟩
 have onto := goL_onto (E := E) ok.1 (Int.le_refl _)
 rcases f.at_ with ⟨j, x, hj, hx, rfl, rfl⟩ | ⟨hno, rfl⟩
 ·have hjl : j < E.length := (List.getElem?_eq_some_iff.1 hj).1
  cases hh : (goL (j : Int) (mvC' c)).2 with
  | true =>
   left
   have hel := goL_el (E := E) ok.1 (Int.le_refl _) hjl hh
   rw [hj] at hel
   have hin' : 0 ≤ (goL (j : Int) (mvC' c)).1 := hin.1
   refine ⟨(goL (j : Int) (mvC' c)).1.toNat, x, hel, hx, ?_, by omega⟩
   unfold wv
   rw [if_neg (by omega), hh, if_pos rfl]; omega
  | false =>
   right
   refine ⟨fun y hy hty => ?_, ?_⟩
   ·obtain ⟨i, hi⟩ := List.mem_iff_getElem?.1 hy
    have hil : i < (allE E c).length := (List.getElem?_eq_some_iff.1 hi).1
    rcases onto i hil with ⟨k, hk, hg⟩ | ⟨a, ha⟩
    ·have hel := goL_el (E := E) (m := k) ok.1 (Int.le_refl _) hk (by rw [hg])
     rw [hg] at hel
     dsimp only at hel
     rw [Int.toNat_natCast, hi] at hel
     have := uniq_at ht f.u hj hel.symm hx hty
     subst this
     have hg' : goL (j : Int) (mvC' c) = ((i : Int), true) := hg
     rw [hg'] at hh; cases hh
    ·rw [hi] at ha
     cases ha
     exact ht hty.symm
   ·unfold wv
    rw [if_neg (by omega), hh]; rfl
 ·right
  refine ⟨fun y hy hty => ?_, rfl⟩
  obtain ⟨i, hi⟩ := List.mem_iff_getElem?.1 hy
  have hil : i < (allE E c).length := (List.getElem?_eq_some_iff.1 hi).1
  rcases onto i hil with ⟨k, hk, hg⟩ | ⟨a, ha⟩
  ·have hel := goL_el (E := E) (m := k) ok.1 (Int.le_refl _) hk (by rw [hg])
   rw [hg] at hel
   dsimp only at hel
   rw [Int.toNat_natCast, hi] at hel
   exact hno y (List.mem_of_getElem? hel.symm) hty
  ·rw [hi] at ha
   cases ha
   exact ht hty.symm
structure FolM (t : Int) (E : List El) (ms : MkL) (ws : List Int) : Prop where
 ex : ∃ m v, Fol t E m v ∧ ms = [(60, m)] ∧ ws = [v, (E.length : Int)]
theorem FolM.play {t : Int} {enc limit : Int} (ht : t ≠ -1) : ∀ {cs : List (List EdD)} {E : List El} {ms : MkL} {ws : List Int}, FolM t E ms ws → OkC enc limit E cs → FolM t (playC E cs) (redoP (cs.map mvC') ms) (redoW (cs.map mvC') ws)
 | [], _, _, _, f, _ => f
 | c :: cs, E, ms, ws, ⟨m, v, f, h1, h2⟩, ⟨o1, o2, o3⟩ => by
  subst h1; subst h2
  have h := f.chg ht o2
  have hl := allE_len o2.1 (Int.le_refl _)
  have hE := goL_end (plM_of o2.1) (by omega : (0 : Int) ≤ E.length)
  have hw : wv (mvC' c) (E.length : Int) = (allE E c).length := by
   unfold wv
   rw [if_neg (by omega)]
   show (if (goL (E.length : Int) (c.map mvOf)).2 then (goL (E.length : Int) (c.map mvOf)).1 else -1) = _
   rw [hE, hl]; rfl
  exact FolM.play (E := allE E c) (ms := folP (mvC' c) [(60, m)]) (ws := folW (mvC' c) [v, (E.length : Int)]) ht ⟨_, _, h, rfl, by unfold folW; rw [List.map_cons, List.map_singleton, hw]⟩ o3
end Go.Sw.Hist

set_option linter.unusedVariables false
set_option linter.unusedSimpArgs false
set_option maxRecDepth 100000
namespace Go.Sw.Hist
open Go.Sw.Any Go.Sw.Codec Go.Sw.Piece
variable {P : Program} {S : Ids} {h : Heap} {Q : Nat → List Value → Heap → Prop} {w : Wid} {M : Mo} {N : Nat}
theorem w_Tags (Me : Meth0 P S) (Ct : Clt P S) {f t : Int} (d : Wd S w h M N) (hto : fitsI .i64 t) : Gives P (F_Text_Tags S (some w.p) f t) [.one .sl] h fun (y : Sl × Unit) h' => OwnL h.size .i64 h' y.1 ((cutL M.E f t).map (·.2)) ∧ Wd S w h' M N := by
 have d0 := d
 obtain ⟨rho, X, st, r, i, e1⟩ := d
 rw [← e1.2.2.1]
 exact (c_TagsT Me Ct r.t hto).mono fun y h' e hy => ⟨by rw [← i.lk.E]; exact hy, d0.ext e⟩
theorem cutL_all (E : List El) : cutL E 0 E.length = E := by
 unfold cutL
 rw [show (min (E.length : Int) E.length).toNat = E.length by omega, List.take_length]; rfl
theorem cutL_one {E : List El} {i : Nat} {x : El} (hi : E[i]? = some x) : cutL E i ((i : Int) + 1) = [x] := by
 have hlt := (List.getElem?_eq_some_iff.1 hi).1
 unfold cutL
 rw [show (min ((i : Int) + 1) E.length).toNat = i + 1 by omega, show (max (i : Int) 0).toNat = i by omega, List.take_add_one, hi, List.drop_left' (by rw [List.length_take]; omega)]
 rfl
theorem elsF_ne {t : Int} : ∀ {ts : List (Int × Int)} {o : Nat}, (elsF t o ts).length = ts.length
 | [], _ => rfl
 | _ :: ts, o => by unfold elsF; rw [List.length_cons, List.length_cons, elsF_ne]
theorem Fol.tags {t : Int} {E : List El} {m v : Int} (ht : t ≠ -1) (f : Fol t E m v) : (∀ k : Nat, k < E.length → ((E.map (·.2)).getD k 0 = t ↔ v = k)) ∧ v < E.length ∧ -1 ≤ v := by
 refine ⟨fun k hk => ?_, ?_⟩
 ·have hg : (E.map (·.2)).getD k 0 = (E[k]).2 := by simp [List.getD, List.getElem?_eq_getElem hk]
  rw [hg]
  rcases f.at_ with ⟨j, x, hj, hx, rfl, _⟩ | ⟨hno, rfl⟩
  ·constructor
   ·intro e
    have := uniq_at ht f.u hj (List.getElem?_eq_getElem hk) hx e
    omega
   ·intro e
    have : j = k := by omega
    subst this
    rw [List.getElem?_eq_getElem hk] at hj
    cases hj; exact hx
  ·exact ⟨fun e => absurd e (hno _ (List.getElem_mem hk)), fun e => by omega⟩
 ·rcases f.at_ with ⟨j, x, hj, hx, rfl, _⟩ | ⟨hno, rfl⟩
  ·have := (List.getElem?_eq_some_iff.1 hj).1; omega
  ·omega
theorem c_HistoryFollows (Me : Meth0 P S) (C : ClH P S) (Ct : Clt P S) {at_ : Int} {b : Sl} {l : List Int} {x : Edss} (hb : Lst .u8 h b l) (hl : l.length ≤ 1073741824) (hx : EdssSh.ok h x) (wx : EdssSh.wt x ≤ 1048576) :
  Gives P (F_law7_HistoryFollows S b at_ x.1) [.one .bool] h fun (y : Bool × Unit) _ => y.1 = true := by
 unfold F_law7_HistoryFollows Gives
 have hsz := szG_wt x
 have hxl := hx.len
 have hnl : natI x.1.len = (x.2.length : Int) := by rw [natI_def, hxl]
 refine wp_call (c_short hb.len (by omega) hx (by omega) (by omega)) fun ⟨(y : Bool), _⟩ h1 e1 hy => wp_ifB (fun hc => s_ret ⟨rfl, e1, (true, ()), rfl, rfl⟩) fun hc => ?_
 rw [notB_not] at hc
 have hy : y = true ↔ l.length + szG x.2 ≤ 8000 ∧ x.2.length ≤ 190 := hy
 have hshort := hy.1 hc
 refine s_allocL (k := .u8) [65] (by intro z hz; rw [List.mem_singleton.1 hz]; exact fits_u8.2 (by omega)) (by decide) fun h2 e2 o2 => ?_
 have e02 := e1.trans e2
 have hs1 := e1.1
 refine s_append o2 e2.1 (hb.ext e02) (by simp; omega) (by simp; omega) fun q h3 k3 o3 u3 b3 => ?_
 have e13 : Ext h1 h3 := Upd.extN e2 u3 (by intro z hz; cases hz; exact Nat.le_refl _)
 have e03 := e1.trans e13
 have o3 : OwnL h1.size .u8 h3 q (65 :: l) := o3
 have hll : (65 :: l).length = l.length + 1 := rfl
 refine wp_call (c_book7 Me (enc := 0) (depth := Int.ofNat 200) o3.lst (by omega) ⟨by decide, by decide⟩) fun ⟨(p : Option Addr), _⟩ h4 e4 hp => ?_
 obtain ⟨X, rfl, B⟩ := hp
 obtain ⟨n, hn, hr⟩ := B.r
 obtain ⟨rho, st0, _, r0⟩ := hr 0 fun _ => 0
 have i0 := B.inv r0 (by omega) ⟨by decide, by decide⟩
 have hen : ((0 : Int) % 4 + 1) = 1 := by decide
 rw [hen] at i0
 obtain ⟨E0, hE0⟩ : ∃ E0, E0 = elsF 0 0 (toks 1 (65 :: l)) := ⟨_, rfl⟩
 rw [← hE0] at i0
 obtain ⟨w, hw⟩ : ∃ w : Wid, w = Wid.one n h3 X.b X.T.p X.T.enc 60000 := ⟨_, rfl⟩
 have d0 : Wd S w h4 (Mo.new E0 (Int.ofNat 200)) 0 := by
  rw [hw]; exact ⟨rho, X, st0, r0, i0, trivial, rfl, rfl, rfl, B.li⟩
 have hwb : X.b = w.b := by rw [hw]; rfl
 have hwl : w.limit = 60000 := by rw [hw]; rfl
 have hx1 : EdssSh.ok w.h0 x := by rw [hw]; exact hx.ext e03
 have ew : ∀ {g : Heap} {M : Mo} {N : Nat}, Wd S w g M N → Ext h g := fun d => e03.trans (by have := d.e; rw [hw] at this; exact this)
 have b0 : blen w.enc E0 ≤ l.length + 1 := by
  have h1 := blen_state r0.t.cur r0.t.enc
  rw [B.bytes] at h1
  have h2 : els X.T.enc X.T.cur.ps = E0 := by rw [B.en, hE0]; exact B.el
  rw [h2] at h1
  rw [hw]; exact Nat.le_of_eq h1
 rw [hwb]
 clear hr st0 r0 i0 B hwb
 dsimp only
 have hk1 : known 1 := by unfold known; omega
 have hlt := loaded_tags hk1 (l := 65 :: l) o3.wf
 rw [← hE0] at hlt
 have hu0 : Uniq E0 := by
  unfold Uniq
  refine List.Nodup.sublist ((List.filter_sublist).map _) ?_
  exact List.Pairwise.map _ (fun a b hab => by omega) hlt.2
 have hpos : 0 < E0.length := by
  have hti := toks_is hk1 (l := 65 :: l) o3.wf
  rw [hE0, elsF_ne]
  cases ht : toks 1 (65 :: l) with
  | nil =>
   have := hti.2
   rw [ht] at this
   simp at this
  | cons a b => simp
 refine wp_ifB (fun hc => by cases hc) fun _ => ?_
 refine wp_call (w_Text d0) fun ⟨(p : Option Addr), _⟩ h5 e5 hp => ?_
 obtain ⟨hp, d5⟩ := hp
 have hp : p = some w.p := hp
 subst hp
 dsimp only
 have hM0 : (Mo.new E0 (Int.ofNat 200)).E = E0 := rfl
 refine wp_call (w_Len d5) fun ⟨(L : Int), _⟩ h6 e6 hL => ?_
 obtain ⟨hL, d6⟩ := hL
 have hL : L = E0.length := hL
 subst hL
 dsimp only
 have hlen := d0.ok.len
 rw [hM0] at hlen
 rw [sub_ok (by omega) (by omega)]
 refine wp_call (c_slot (i := at_) (n := (E0.length : Int) - 1) (by omega) (by omega)) fun ⟨(f : Int), _⟩ h7 e7 hf => ?_
 have hf : f = slotF at_ ((E0.length : Int) - 1) := hf
 have hin := slot_in (i := at_) (n := (E0.length : Int) - 1) (by omega)
 rw [← hf] at hin
 obtain ⟨j, rfl⟩ : ∃ j : Nat, f = j := ⟨f.toNat, by omega⟩
 dsimp only
 have d7 := d6.ext e7
 have hjl : j < E0.length := by omega
 obtain ⟨x0, hx0⟩ : ∃ x0, E0[j]? = some x0 := ⟨E0[j], List.getElem?_eq_getElem hjl⟩
 have ht0 : 0 ≤ x0.2 := (hlt.1 x0 (List.mem_of_getElem? hx0)).1
 refine wp_call (w_Text d7) fun ⟨(p : Option Addr), _⟩ h8 e8 hp => ?_
 obtain ⟨hp, d8⟩ := hp
 have hp : p = some w.p := hp
 subst hp
 dsimp only
 rw [add_ok (by omega) (by omega)]
 refine wp_call (w_Tags Me Ct (f := j) (t := (j : Int) + 1) d8 (fits_i64.2 (by omega))) fun ⟨(g : Sl), _⟩ h9 e9 hg => ?_
 obtain ⟨og, d9⟩ := hg
 have og : OwnL h8.size .i64 h9 g ((cutL E0 j ((j : Int) + 1)).map (·.2)) := og
 rw [cutL_one hx0] at og
 have og : OwnL h8.size .i64 h9 g [x0.2] := og
 have hgl : g.len = 1 := og.len
 dsimp only
 have dz := d8.add (K := KL h8.size g [x0.2]) (ks := KL.st _ _ _) e9 fun rho hz => ⟨og, fun a ha => hz _ (og.own.lt ha).1⟩
 clear d9
 have d9 := dz
 clear dz
 obtain ⟨v, hv⟩ : ∃ v : Wid, v = w.add (KL h8.size g [x0.2]) (KL.st _ _ _) := ⟨_, rfl⟩
 rw [← hv] at d9
 have vb : w.b = v.b := by rw [hv]; rfl
 have vp : w.p = v.p := by rw [hv]; rfl
 have ve : w.enc = v.enc := by rw [hv]; rfl
 have vl : v.limit = 60000 := by rw [← hwl, hv]; rfl
 have hx2 : EdssSh.ok v.h0 x := by rw [hv]; exact hx1
 have ev : ∀ {g : Heap} {M : Mo} {N : Nat}, Wd S v g M N → Ext h g := fun d => e03.trans (by have := d.e; rw [hv, hw] at this; exact this)
 have vg : ∀ {g' : Heap} {M : Mo} {N : Nat}, Wd S v g' M N → Lst .i64 g' g [x0.2] := fun d => by
  obtain ⟨rho, k⟩ := d.keep
  rw [hv] at k
  exact k.2.1.lst
 rw [vb]
 rw [ve] at b0
 clear hv vb vp ve ew hx1 hwl d0 d5 d6 d7 d8 hw
 obtain ⟨M1, hM1⟩ : ∃ M1 : Mo, M1 = { Mo.new E0 (Int.ofNat 200) with marks := [(60, (j : Int))], watched := [(j : Int), E0.length] } := ⟨_, rfl⟩
 refine wp_bind (fun tg vs h' => tg = 0 ∧ vs = [.bool false] ∧ Wd S v h' M1 3) ?_ ?_
 ·refine wp_callW (w_SetMark (name := Int.ofNat 60) (a := j) d9 (fits_i64.2 (by decide)) (fits_i64.2 (by omega))) fun tg vs h10 hq => ?_
  obtain ⟨rfl, rfl, d10⟩ := hq
  have hset : (Mo.new E0 (Int.ofNat 200)).setR (Int.ofNat 60) j = (0, { Mo.new E0 (Int.ofNat 200) with marks := [(60, (j : Int))] }) := by
   unfold Mo.setR
   rw [if_pos (show isN (Int.ofNat 60) by unfold isN; decide), if_pos (show (Mo.new E0 (Int.ofNat 200)).ins j by unfold Mo.ins; rw [hM0]; omega)]
   rfl
  rw [hset] at d10 ⊢
  refine ⟨rfl, (0, ()), rfl, wp_call c_num7 fun ⟨(y : Int), _⟩ h11 e11 hy => ?_⟩
  have hy : y = 0 := hy
  subst hy
  refine wp_ifB (fun hc => by cases hc) fun _ => ?_
  refine s_allocL (k := .i64) [(j : Int), E0.length] (by intro z hz; simp at hz; rcases hz with rfl | rfl <;> exact fits_i64.2 (by omega)) (by simp) fun h12 e12 o12 => ?_
  refine wp_callW (w_Watch (l := [(j : Int), E0.length]) ((d10.ext e11).ext e12) o12.lst (by simp)) fun tg vs h13 hq => ?_
  obtain ⟨rfl, rfl, d13⟩ := hq
  have hwt : ({ Mo.new E0 (Int.ofNat 200) with marks := [(60, (j : Int))] } : Mo).watchR [(j : Int), E0.length] = (0, M1) := by
   unfold Mo.watchR
   rw [if_pos]
   ·rw [hM1]
   ·intro v hv
    have : ({ Mo.new E0 (Int.ofNat 200) with marks := [(60, (j : Int))] } : Mo).E = E0 := rfl
    unfold Mo.ins
    rw [this]
    simp at hv
    rcases hv with rfl | rfl <;> omega
  rw [hwt] at d13 ⊢
  refine ⟨rfl, (0, ()), rfl, wp_call c_num7 fun ⟨(y : Int), _⟩ h14 e14 hy => ?_⟩
  have hy : y = 0 := hy
  subst hy
  refine wp_ifB (fun hc => by cases hc) fun _ => s_ret ⟨rfl, ?_, d13.ext e14⟩
  rw [natI_def, hgl]; rfl
 rintro tg vs h10 ⟨rfl, rfl, d10⟩
 refine s_tag (s_castB (wp_ifB (fun hc => by cases hc) fun _ => ?_))
 have hE1 : M1.E = E0 := by rw [hM1]; rfl
 have f1 : FolM x0.2 M1.E M1.marks M1.watched := by
  rw [hE1, hM1]
  exact ⟨_, _, ⟨hu0, by omega, .inl ⟨j, x0, hx0, rfl, rfl, rfl⟩⟩, rfl, rfl⟩
 have now1 : M1.now = none := by rw [hM1]; rfl
 have w1 : WtG v.enc (l.length + 1) M1.E0 M1.all := by rw [hM1]; exact b0
 clear hM1
 have htne : x0.2 ≠ -1 := by omega
 rw [hnl]
 have tail : ∀ {g' : Heap} {M : Mo} {N : Nat}, Wd S v g' M N → FolM x0.2 M.E M.marks M.watched → ∃ m u, Fol x0.2 M.E m u ∧ M.markR (Int.ofNat 60) = (m, 0) ∧ M.watched = [u, (M.E.length : Int)] := fun d ⟨m, u, f, h1, h2⟩ => by
  refine ⟨m, u, f, ?_, h2⟩
  unfold Mo.markR
  rw [h1]; rfl
 refine wp_while (fun (s : Bool × Int × Unit) h' => ∃ i : Nat, s.2.1 = i ∧ i ≤ x.2.length ∧ ∃ M, Wd S v h' M (3 + i + 2 * szG (x.2.take i)) ∧ M.now = none ∧ FolM x0.2 M.E M.marks M.watched ∧ WtG v.enc (l.length + 1 + 4 * szG (x.2.take i)) M.E0 M.all) (fun s _ => ((x.2.length : Int) - s.2.1).toNat)
  (fun t vs h' => t = 2 ∧ vs = [] ∧ ∃ M N, Wd S v h' M N ∧ FolM x0.2 M.E M.marks M.watched) ⟨0, rfl, Nat.zero_le _, M1, d10, now1, f1, by simpa [szG] using w1⟩ ?_ ?_
 ·rintro ⟨(gone : Bool), (s : Int), u⟩ h11 ⟨i, hs, hi, M, d11, now11, f11, w11⟩
  dsimp only at hs ⊢
  subst hs
  refine wp_ifB (fun hc => ?_) fun hc => ?_
  ·rw [ltI_iff] at hc
   have hlt : i < x.2.length := by omega
   obtain ⟨gr, hgr⟩ : ∃ g, x.2[i]? = some g := ⟨x.2[i], List.getElem?_eq_getElem hlt⟩
   have ht := szG_take hgr
   have hle := szG_le x.2 (i + 1)
   refine s_ldEs (hx2.ext d11.e) hgr ?_
   have hE := Mo.E_shut now11
   have hbl : blen v.enc M.E ≤ l.length + 1 + 4 * szG (x.2.take i) := by rw [hE]; exact w11.pre.2.head
   refine wp_callW (w_group Me C (x := gr) d11 now11 (hx2.el hgr) (by rw [vl]; omega) (by omega)) fun tg vs h12 hq => ?_
   obtain ⟨rfl, rfl, bg, en, d12⟩ := hq
   refine ⟨rfl, (true, ()), rfl, wp_ifB (fun hc => by cases hc) fun _ => ?_⟩
   have ok11 := d11.ok
   rw [vl] at ok11
   have hcut := cut_ok (enc := v.enc) (limit := 60000) ok11.en (l := gr.2) (E := M.C) (by rw [← hE]; omega)
   have hw12 := grp_wt (bg := bg) (en := en) (cuts := gr.2) (limit := 60000) ok11.en w11 (by omega)
   have hE12 := Mo.grp_E (bg := bg) (en := en) now11 hcut.1
   have f12 : FolM x0.2 (M.grp (cutC M.C gr.2) bg en).E (M.grp (cutC M.C gr.2) bg en).marks (M.grp (cutC M.C gr.2) bg en).watched := by
    rw [hE12, Mo.grp_marks, Mo.grp_watched]
    exact FolM.play htne (by rw [hE] at f11; exact f11) hcut.1
   have now12 := Mo.grp_now (M := M) (cs := cutC M.C gr.2) (bg := bg) (en := en)
   generalize M.grp (cutC M.C gr.2) bg en = M2 at d12 hw12 hE12 f12 now12
   have hl12 := d12.ok.len
   refine wp_call (w_Text d12) fun ⟨(p : Option Addr), _⟩ h13 e13 hp => ?_
   obtain ⟨hp, d13⟩ := hp
   have hp : p = some v.p := hp
   subst hp
   refine wp_call (w_Text d13) fun ⟨(p : Option Addr), _⟩ h14 e14 hp => ?_
   obtain ⟨hp, d14⟩ := hp
   have hp : p = some v.p := hp
   subst hp
   dsimp only
   refine wp_call (w_Len d14) fun ⟨(L : Int), _⟩ h15 e15 hL => ?_
   obtain ⟨hL, d15⟩ := hL
   have hL : L = M2.E.length := hL
   subst hL
   dsimp only
   refine wp_call (w_Tags Me Ct (f := Int.ofNat 0) (t := M2.E.length) d15 (fits_i64.2 (by omega))) fun ⟨(tl : Sl), _⟩ h16 e16 htl => ?_
   obtain ⟨ot, d16⟩ := htl
   have ot : OwnL h15.size .i64 h16 tl ((cutL M2.E 0 M2.E.length).map (·.2)) := ot
   rw [cutL_all] at ot
   have htll : tl.len = M2.E.length := by rw [ot.len, List.length_map]
   dsimp only
   obtain ⟨m, u, ff, hmark, hwat⟩ := tail d16 f12
   obtain ⟨ht1, ht2, ht3⟩ := ff.tags htne
   have hnt : natI tl.len = (M2.E.length : Int) := by rw [natI_def, htll]
   rw [hnt]
   refine wp_while (fun (s : Int × Int × Unit) h' => Ext h16 h' ∧ ∃ k : Nat, s.2.1 = k ∧ k ≤ M2.E.length ∧ s.1 = if 0 ≤ u ∧ u < k then u else -1) (fun s _ => ((M2.E.length : Int) - s.2.1).toNat)
    (fun t vs h' => t = 4 ∧ vs = [i64v u] ∧ Ext h16 h') ⟨Ext.refl _, 0, rfl, Nat.zero_le _, (if_neg (by omega)).symm⟩ ?_ ?_
   ·rintro ⟨(s : Int), (k' : Int), u'⟩ h17 ⟨e17, k, hk, hkl, hs⟩
    dsimp only at hk hs ⊢
    subst hk
    have ot17 := ot.lst.ext e17
    refine wp_ifB (fun hc => ?_) fun hc => ?_
    ·rw [ltI_iff] at hc
     have hkt : k < M2.E.length := by omega
     refine bind_val (tys := [.one (.int .i64)]) (fun (y : Int × Unit) _ => y.1 = if 0 ≤ u ∧ u < ((k + 1 : Nat) : Int) then u else -1) ?_ fun ⟨(y : Int), _⟩ h18 e18 hy => ?_
     ·refine s_at ot17 (by omega) (by rw [List.length_map]; omega) fun _ => ?_
      rw [Int.toNat_natCast]
      refine s_at0 (n := 0) (vg (d16.ext e17)) (by simp) fun _ => ?_
      have hg0 : [x0.2].getD 0 0 = x0.2 := rfl
      rw [hg0]
      refine wp_ifB (fun he => s_ret ⟨rfl, Ext.refl _, ((k : Int), ()), rfl, ?_⟩) fun he => s_ret ⟨rfl, Ext.refl _, (s, ()), rfl, ?_⟩
      ·rw [eqI_iff] at he
       have := (ht1 k hkt).1 he
       dsimp only
       rw [if_pos (by omega)]; omega
      ·rw [eqI_not] at he
       have : u ≠ k := fun e => he ((ht1 k hkt).2 e)
       dsimp only
       rw [hs]
       by_cases h0 : 0 ≤ u ∧ u < k
       ·rw [if_pos h0, if_pos (by omega)]
       ·rw [if_neg h0, if_neg (by omega)]
     ·have hy : y = _ := hy
      dsimp only
      rw [add_ok (by omega) (by omega)]
      exact s_ret ⟨fun _ => ⟨(y, (k : Int) + 1, ()), rfl, ⟨e17.trans e18, k + 1, by push_cast; rfl, by omega, hy⟩, by dsimp only; omega⟩, fun hh => absurd rfl hh⟩
    ·rw [ltI_not] at hc
     refine s_ret ⟨fun hh => absurd hh (by decide), fun _ => ⟨rfl, ?_, e17⟩⟩
     have : s = u := by
      rw [hs]
      by_cases h0 : 0 ≤ u
      ·rw [if_pos (by omega)]
      ·rw [if_neg (by omega)]; omega
     rw [this]
   rintro t vs h17 ⟨rfl, rfl, e17⟩
   refine s_tag (s_castI ?_)
   dsimp only
   refine bind_val (tys := [.one .bool]) (fun (y : Bool × Unit) _ => y.1 = false → 0 ≤ u) (wp_ifB (fun hc => s_ret ⟨rfl, Ext.refl _, (true, ()), rfl, fun hh => by cases hh⟩) fun hc => s_ret ⟨rfl, Ext.refl _, (ltI u 0, ()), rfl, fun hh => ltI_not.1 hh⟩) fun ⟨(gone' : Bool), _⟩ h18 e18 hgone => ?_
   dsimp only
   have d18 := (d16.ext e17).ext e18
   refine wp_call (w_Mark (name := Int.ofNat 60) d18) fun ⟨(y1 : Int), (y2 : Int), _⟩ h19 e19 hy => ?_
   obtain ⟨⟨hy1, hy2⟩, d19⟩ := hy
   rw [hmark] at hy1 hy2
   have hy1 : y1 = m := hy1
   have hy2 : y2 = 0 := hy2
   subst hy1; subst hy2
   dsimp only
   refine wp_call (w_Watched d19 (by omega)) fun ⟨(wl : Sl), _⟩ h20 e20 hwl => ?_
   obtain ⟨ow, d20⟩ := hwl
   have ow : OwnL h19.size .i64 h20 wl M2.watched := ow
   rw [hwat] at ow
   have hwll : wl.len = 2 := ow.len
   have hml := ff.ml
   dsimp only
   refine bind_val (tys := [.one .bool]) (fun (y : Bool × Unit) _ => y.1 = false) (wp_call c_num7 fun ⟨(y : Int), _⟩ h21 e21 hy => ?_) fun ⟨(y : Bool), _⟩ h21 e21 hy => ?_
   ·have hy : y = 0 := hy
    subst hy
    have ow21 := ow.lst.ext e21
    refine wp_ifB (fun hc => by cases hc) fun _ => wp_ifB (fun hc => ?_) fun _ => wp_ifB (fun hc => ?_) fun _ => wp_ifB (fun hc => ?_) fun _ => ?_
    ·rw [ltI_iff] at hc; omega
    ·rw [gtI_iff] at hc; omega
    ·rw [neI_iff, natI_def, hwll] at hc; omega
    ·refine s_at0 (n := 0) ow21 (by simp) fun _ => ?_
     have hg0 : [u, (M2.E.length : Int)].getD 0 0 = u := rfl
     rw [hg0]
     refine wp_ifB (fun hc => ?_) fun _ => ?_
     ·rw [neI_iff] at hc; exact absurd rfl hc
     refine s_at0 (n := 1) ow21 (by simp) fun _ => ?_
     have hg1 : [u, (M2.E.length : Int)].getD 1 0 = M2.E.length := rfl
     rw [hg1]
     exact s_ret ⟨rfl, e21, (_, ()), rfl, neI_not.2 rfl⟩
   have hy : y = false := hy
   subst hy
   refine wp_ifB (fun hc => by cases hc) fun _ => ?_
   refine bind_val (tys := [.one .bool]) (fun (y : Bool × Unit) _ => y.1 = false) (wp_ifB (fun hc => s_ret ⟨rfl, Ext.refl _, (_, ()), rfl, ?_⟩) fun hc => s_ret ⟨rfl, Ext.refl _, (false, ()), rfl, rfl⟩) fun ⟨(y : Bool), _⟩ h22 e22 hy => ?_
   ·rw [notB_iff] at hc
    have hu := hgone hc
    refine neI_not.2 ?_
    rcases ff.at_ with ⟨j', x', _, _, q1, q2⟩ | ⟨_, q1⟩
    ·omega
    ·omega
   have hy : y = false := hy
   subst hy
   refine wp_ifB (fun hc => by cases hc) fun _ => ?_
   rw [add_ok (by omega) (by omega)]
   exact s_ret ⟨fun _ => ⟨(gone', (i : Int) + 1, ()), rfl, ⟨i + 1, by push_cast; rfl, by omega, M2, ((d20.ext e21).ext e22).mono (by omega), now12, f12, hw12.mono (by omega)⟩, by dsimp only; omega⟩, fun hh => absurd rfl hh⟩
  ·rw [ltI_not] at hc
   exact s_ret ⟨fun hh => absurd hh (by decide), fun _ => ⟨rfl, rfl, M, _, d11, f11⟩⟩
 rintro t vs h11 ⟨rfl, rfl, M, N, d11, f11⟩
 refine s_tag (s_cast0 ?_)
 obtain ⟨m, u, ff, hmark, hwat⟩ := tail d11 f11
 refine wp_call (w_Mark (name := Int.ofNat 60) d11) fun ⟨(y1 : Int), (y2 : Int), _⟩ h19 e19 hy => ?_
 obtain ⟨⟨hy1, hy2⟩, d19⟩ := hy
 rw [hmark] at hy1 hy2
 have hy1 : y1 = m := hy1
 have hy2 : y2 = 0 := hy2
 subst hy1; subst hy2
 dsimp only
 refine bind_val (tys := [.one .bool]) (fun (y : Bool × Unit) _ => y.1 = true) (wp_call c_num7 fun ⟨(y : Int), _⟩ h21 e21 hy => ?_) fun ⟨(y : Bool), _⟩ h21 e21 hy => ?_
 ·have hy : y = 0 := hy
  subst hy
  refine wp_ifB (fun _ => s_ret ⟨rfl, e21, (_, ()), rfl, geI_iff.2 ff.ml.1⟩) fun hc => by cases hc
 have hy : y = true := hy
 subst hy
 exact s_ret ⟨rfl, (ev d19).trans e21, (true, ()), rfl, rfl⟩
end Go.Sw.Hist
