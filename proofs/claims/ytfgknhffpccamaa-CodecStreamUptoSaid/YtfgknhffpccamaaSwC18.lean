/-
  Codec: streams of the program; the law CodecParts.
-/
import Derived.Test.YtfgknhffpccamaaSwC17
import Derived.Test.YtfgknhffpccamaaSwS4
set_option linter.unusedVariables false
set_option linter.unusedSimpArgs false
set_option maxRecDepth 100000
namespace Go.Sw.Codec
variable {P : Program} {S : Ids} {h : Heap} {Q : Nat → List Value → Heap → Prop}

theorem bnd_end {enc : Int} {l : List Int} (hb : isBytes l) : Bnd enc l l.length := by
  by_cases hl : 0 < l.length
  · obtain ⟨a, n, ⟨k, b, hk, f, e⟩, _⟩ := last_ex (enc := enc) hb hl
    have := b.step hk
    rw [f] at this
    dsimp only at this
    rw [show k + n.toNat = l.length by omega] at this
    exact this
  · rw [show l.length = 0 by omega]; exact .zero

theorem more_short {enc : Int} {l : List Int} (hb : isBytes l) (h : moreE enc l) : l.length ≤ 3 := by
  unfold moreE at h
  have b0 := hb.at 0
  have hle := rowG_le (l.getD 0 0) (l.getD 1 0) (l.getD 2 0) (l.getD 3 0) b0.1 b0.2
  have hbn := bounds_n (l.getD 0 0) b0.1 b0.2
  have hr2 : rowF l = rowG (l.getD 0 0) (l.getD 1 0) (l.getD 2 0) (l.getD 3 0) := rfl
  rw [← hr2] at hle
  (repeat' split at h) <;> first | exact h.elim | omega
theorem HeldR.small {enc : Int} {l : List Int} (hb : isBytes l) {v : Int} (h : HeldR enc l v) : 0 ≤ v ∧ v ≤ 3 ∧ v ≤ l.length := by
  obtain ⟨k, b, n, m, rfl⟩ := h
  have := b.le hb
  rcases m with m | m
  · omega
  · have := more_short (hb.drop k) m.2
    rw [List.length_drop] at this; omega

theorem held_latin {l : List Int} (hb : isBytes l) : HeldR 4 l 0 :=
  ⟨l.length, bnd_end hb, fun j _ _ hm => by unfold moreE at hm; rw [if_neg (by decide), if_pos rfl] at hm; exact hm, .inl rfl, by omega⟩

/-- UTF-16: what is not certain. -/
def held16 (enc : Int) (l : List Int) : Int :=
  if 2 ≤ l.length - l.length % 2 ∧ 55296 ≤ unitF enc l (l.length - l.length % 2 - 2) ∧ unitF enc l (l.length - l.length % 2 - 2) < 56320 then (l.length % 2 : Nat) + 2 else (l.length % 2 : Nat)
theorem held_16 {enc : Int} {l : List Int} (hb : isBytes l) (h16 : enc ≠ 1 ∧ enc ≠ 4) : HeldR enc l (held16 enc l) := by
  have hm : ∀ j, moreE enc (l.drop j) ↔ l.length - j = 1 ∨ (l.length - j < 4 ∧ 55296 ≤ unitF enc l j ∧ unitF enc l j < 56320) := by
    intro j
    unfold moreE
    rw [if_neg h16.1, if_neg h16.2, List.length_drop, unit_at, Nat.add_zero]
  -- an even place whose unit ahead is high is a boundary
  have hbd : ∀ p, p % 2 = 0 → p < l.length → (2 ≤ l.length - p → 55296 ≤ unitF enc l p ∧ unitF enc l p < 56320 ∨ ∀ q, q + 2 = p → ¬ (55296 ≤ unitF enc l q ∧ unitF enc l q < 56320)) →
      (l.length - p = 1 → ∀ q, q + 2 = p → ¬ (55296 ≤ unitF enc l q ∧ unitF enc l q < 56320)) → Bnd enc l p := by
    intro p hp hpl ha hb1
    obtain ⟨k, b, q1, q2⟩ := bnd_cover (enc := enc) hb p hpl
    by_cases he : k = p
    · rw [← he]; exact b
    · exfalso
      have hev := b.even hb h16
      unfold firstF at q2
      rw [if_neg h16.1, if_neg h16.2] at q2
      rcases first16_two (enc := enc) (l := l.drop k) (by rw [List.length_drop]; omega) (by rw [List.length_drop]; omega) with ⟨f4, g1, g2, g3, g4, g5⟩ | ⟨f2, _⟩
      · rw [f4] at q2
        rw [unit_at, Nat.add_zero] at g1 g2
        rw [unit_at] at g4 g5
        rw [List.length_drop] at g3
        have hk2 : k + 2 = p := by simp at q2; omega
        rw [hk2] at g4 g5
        by_cases h1 : l.length - p = 1
        · exact hb1 h1 k hk2 ⟨g1, g2⟩
        · rcases ha (by omega) with h | h
          · omega
          · exact h k hk2 ⟨g1, g2⟩
      · rw [f2] at q2
        simp at q2; omega
  unfold held16
  by_cases hc : 2 ≤ l.length - l.length % 2 ∧ 55296 ≤ unitF enc l (l.length - l.length % 2 - 2) ∧ unitF enc l (l.length - l.length % 2 - 2) < 56320
  · rw [if_pos hc]
    refine ⟨l.length - l.length % 2 - 2, hbd _ (by omega) (by omega) (fun _ => .inl ⟨hc.2.1, hc.2.2⟩) (fun h => by omega), fun j hj hjk hmj => ?_, .inr ⟨by omega, (hm _).2 (.inr ⟨by omega, hc.2.1, hc.2.2⟩)⟩, by omega⟩
    have hev := hj.even hb h16
    rcases (hm j).1 hmj with h | h
    · omega
    · omega
  · rw [if_neg hc]
    by_cases ho : l.length % 2 = 0
    · refine ⟨l.length, bnd_end hb, fun j hj hjk hmj => ?_, .inl rfl, by omega⟩
      have hev := hj.even hb h16
      rcases (hm j).1 hmj with h | ⟨h, h1, h2⟩
      · omega
      · apply hc
        rw [show l.length - l.length % 2 - 2 = j by omega]
        exact ⟨by omega, h1, h2⟩
    · refine ⟨l.length - 1, hbd _ (by omega) (by omega) (fun h => by omega) (fun _ q hq hh => ?_), fun j hj hjk hmj => ?_, .inr ⟨by omega, (hm _).2 (.inl (by omega))⟩, by omega⟩
      · apply hc
        rw [show l.length - l.length % 2 - 2 = q by omega]
        exact ⟨by omega, hh⟩
      · have hev := hj.even hb h16
        rcases (hm j).1 hmj with h | ⟨h, h1, h2⟩
        · omega
        · apply hc
          rw [show l.length - l.length % 2 - 2 = j by omega]
          exact ⟨by omega, h1, h2⟩

/-! ### Held, the program's -/

theorem c_latin_held {b : Sl} {l : List Int} (hb : Lst .u8 h b l) : Gives P (F_latin_held S () b) [.one (.int .i64)] h fun (x : Int × Unit) _ => HeldR 4 l x.1 := by
  unfold F_latin_held
  exact s_alloc0 fun h1 e1 => s_ret ⟨rfl, e1, (0, ()), rfl, held_latin hb.wf⟩

theorem c_sixteen_held {b : Sl} {l : List Int} {r enc : Int} (hr : le16 r enc) (hb : Lst .u8 h b l) (hbd : l.length < 2 ^ 62) : Gives P (F_sixteen_held S (r, ()) b) [.one (.int .i64)] h fun (x : Int × Unit) _ => HeldR enc l x.1 := by
  have hlb := hb.len
  have hby : isBytes l := hb.wf
  have hr0 : fitsI .i64 r := by unfold le16 at hr; rw [fits_i64]; omega
  have h16 : enc ≠ 1 ∧ enc ≠ 4 := by unfold le16 at hr; omega
  have hh := held_16 hby h16
  unfold held16 at hh
  generalize hw : l.length - l.length % 2 - 2 = p at *
  have u2 := unit_bound (enc := enc) hby p
  unfold F_sixteen_held
  dsimp only
  refine s_allocL [r] (fun x hx => by rw [List.mem_singleton.1 hx]; exact hr0) (by simp) fun h1 e1 o1 => s_not ?_
  simp only [natI_def, hlb]
  rw [rem_ok (by omega), sub_ok (a := (l.length : Int)) (by omega) (by omega)]
  refine bind_bool (2 ≤ l.length - l.length % 2 ∧ 55296 ≤ unitF enc l p ∧ unitF enc l p < 56320) ?_ fun c h2 e2 hc2 => wp_ifB (fun h3 => ?_) fun h3 => ?_
  · refine wp_ifB (fun hc => ?_) fun hc => ?_
    · rw [geI_iff] at hc
      rw [sub_ok (by omega) (by omega), toN_def, show ((l.length : Int) - (l.length : Int) % 2 - 2).toNat = p by omega]
      have ht := (hb.ext e1).tail (i := p) (by omega)
      rw [hlb] at ht
      refine s_loadA o1.lst (s_grd (leB_ok (by omega) (by omega)) (wp_call (c_unit hr ht (by rw [List.length_drop]; omega)) fun ⟨(u : Int), _⟩ h2 e2 hu => ?_))
      have hu : u = unitF enc (l.drop p) 0 := hu
      rw [unitF_drop] at hu
      subst hu
      dsimp only
      refine wp_call (c_high u2.1 u2.2) fun x h3 e3 hx => s_ret ⟨rfl, e2.trans e3, _, rfl, ?_⟩
      have hx : x.1 = true ↔ _ := hx
      rw [hx]; omega
    · rw [geI_not] at hc
      exact s_ret ⟨rfl, Ext.refl _, _, rfl, ⟨(fun h => by cases h), fun h => by omega⟩⟩
  · rw [if_pos (hc2.1 h3)] at hh
    rw [add_ok (by omega) (by omega)]
    exact s_ret ⟨rfl, e1.trans e2, (_, ()), rfl, by simpa using hh⟩
  · rw [if_neg fun hx => by rw [hc2.2 hx] at h3; cases h3] at hh
    exact s_ret ⟨rfl, e1.trans e2, (_, ()), rfl, by simpa using hh⟩

theorem c_eight_held {b : Sl} {l : List Int} (hb : Lst .u8 h b l) (hbd : l.length < 2 ^ 62) : Gives P (F_eight_held S () b) [.one (.int .i64)] h fun (x : Int × Unit) _ => HeldR 1 l x.1 := by
  have hlb := hb.len
  have hby : isBytes l := hb.wf
  have hm : ∀ j, moreE 1 (l.drop j) ↔ 1 < (rowF (l.drop j)).2 ∧ (rowF (l.drop j)).1 = (l.drop j).length ∧ (rowF (l.drop j)).1 < (rowF (l.drop j)).2 := by
    intro j; unfold moreE; rw [if_pos rfl]
  unfold F_eight_held
  refine s_alloc0 fun h1 e1 => ?_
  simp only [natI_def]
  refine wp_while (fun (s : Int × Unit) h' => Ext h h' ∧ ∃ k : Nat, s.1 = k ∧ Bnd 1 l k ∧ ∀ j, Bnd 1 l j → j < k → ¬ moreE 1 (l.drop j)) (fun s _ => ((l.length : Int) - s.1).toNat)
    (fun t vs h' => Ext h h' ∧ (t = 2 ∧ vs = [] ∧ HeldR 1 l 0 ∨ t = 1 ∧ ∃ v : Int, vs = [.int .i64 v] ∧ HeldR 1 l v)) ⟨e1, 0, rfl, .zero, fun j _ h => by omega⟩ ?_ ?_
  · rintro ⟨(k' : Int), u⟩ h' ⟨e, k, hk, hbn, hno⟩
    dsimp only at hk ⊢
    subst hk
    have hkl := hbn.le hby
    refine wp_ifB (fun hi => ?_) fun hi => ?_
    · rw [ltI_iff, hlb] at hi
      have ht := (hb.ext e).tail (i := k) (by omega)
      have hpos : 0 < (l.drop k).length := by rw [List.length_drop]; omega
      have hs := firstF_size (enc := 1) hpos (hby.drop k)
      have hf1 : firstF 1 (l.drop k) = first8 (l.drop k) := by unfold firstF; rw [if_pos rfl]
      have hsub : subN b.len k = (l.drop k).length := by rw [List.length_drop, hlb]; rfl
      rw [toN_def, Int.toNat_natCast]
      refine s_grd (leB_ok (by omega) (by omega)) (wp_call (c_row ht hpos) fun ⟨(hv : Int), (n : Int), _⟩ h2 e2 hx => ?_)
      have hx : (hv, n) = rowF (l.drop k) := hx
      have hmk := hm k
      rw [← hx] at hmk
      dsimp only at hmk ⊢
      refine bind_bool (moreE 1 (l.drop k)) ?_ fun c h3 e3 hc3 => wp_ifB (fun h4 => ?_) fun h4 => ?_
      · rw [hsub]
        refine wp_ifB (fun hc => ?_) fun hc => ?_
        · rw [gtI_iff] at hc
          refine wp_ifB (fun hd => ?_) fun hd => ?_
          · rw [eqI_iff] at hd
            exact s_ret ⟨rfl, Ext.refl _, _, rfl, by rw [ltI_iff, hmk]; omega⟩
          · rw [eqI_not] at hd
            exact s_ret ⟨rfl, Ext.refl _, _, rfl, ⟨(fun h => by cases h), fun h => absurd (hmk.1 h).2.1 hd⟩⟩
        · rw [gtI_not] at hc
          exact s_ret ⟨rfl, Ext.refl _, _, rfl, ⟨(fun h => by cases h), fun h => by have := (hmk.1 h).1; omega⟩⟩
      · have hmo := hc3.1 h4
        have h2 := (hmk.1 hmo).2.1
        rw [List.length_drop] at h2
        exact s_ret ⟨fun h => absurd h (by decide), fun _ => ⟨(e.trans e2).trans e3, .inr ⟨rfl, hv, rfl, k, hbn, hno, .inr ⟨by omega, hmo⟩, by omega⟩⟩⟩
      · refine s_load0 (wp_call (c_eight_first ((ht.ext e2).ext e3) hpos) fun ⟨(a : Int), (s : Int), _⟩ h5 e5 hy => ?_)
        have hy : (a, s) = first8 (l.drop k) := hy
        have hy2 : s = (firstF 1 (l.drop k)).2 := by rw [hf1]; exact congrArg Prod.snd hy
        rw [List.length_drop] at hs
        dsimp only
        rw [add_ok (by omega) (by omega)]
        have hst := hbn.step (by omega)
        refine s_ret ⟨fun _ => ⟨((k : Int) + s, ()), rfl, ⟨((e.trans e2).trans e3).trans e5, k + (firstF 1 (l.drop k)).2.toNat, by dsimp only; omega, hst, fun j hj hjk => ?_⟩, by dsimp only; omega⟩, fun h => absurd rfl h⟩
        by_cases hjk' : j < k
        · exact hno j hj hjk'
        · by_cases he : j = k
          · subst he; exact fun hmo => by rw [hc3.2 hmo] at h4; cases h4
          · have := hbn.next hby hj (by omega); omega
    · rw [ltI_not, hlb] at hi
      exact s_ret ⟨fun h => absurd h (by decide), fun _ => ⟨e, .inl ⟨rfl, rfl, k, hbn, hno, .inl (by omega), by omega⟩⟩⟩
  · rintro t vs h' ⟨e, ⟨ht, hv, hh⟩ | ⟨ht, v, hv, hh⟩⟩
    · exact s_exit ht () hv (s_ret ⟨rfl, e, (0, ()), rfl, hh⟩)
    · exact s_skip (by omega) (s_exit ht (v, ()) hv (s_ret ⟨rfl, e, (v, ()), rfl, hh⟩))

theorem i_held (M : Meth P S) {enc : Int} (he : known enc) {s : Sl} {l : List Int} (hs : Lst .u8 h s l) (hbd : l.length < 2 ^ 62)
    {K : Int × Unit → Prog} (hk : ∀ (x : Int × Unit) h', Ext h h' → HeldR enc l x.1 → wp P (K x) h' Q) :
    wp P (.invoke (coder S enc) S.m_held [.slice s.base s.len s.cap] [.one (.int .i64)] K) h Q := by
  rcases known_cases he with rfl | rfl | rfl | rfl
  · exact wp_inv (M.held8 s) (c_eight_held hs hbd) hk
  · exact wp_inv (M.held16 0 s) (c_sixteen_held (.inl ⟨rfl, rfl⟩) hs hbd) hk
  · exact wp_inv (M.held16 1 s) (c_sixteen_held (.inr ⟨rfl, rfl⟩) hs hbd) hk
  · exact wp_inv (M.held1 s) (c_latin_held hs) hk

/-! ### The program's stream in memory -/

/-- The object at p: a stream of that encoding, of which ws waits. -/
structure Strm (S : Ids) (h : Heap) (p : Addr) (enc : Int) (ws : Sl) (w : List Int) : Prop where
  c0 : cell h p = some (coder S enc)
  c1 : cell h (p.add 1) = some (.slice ws.base ws.len ws.cap)
  fz : frz h (p.add 1) = false
  wait : Lst .u8 h ws w
  ne : ∀ a, ws.base = some a → a.block ≠ p.block

theorem cell_of_block {h h' : Heap} {a : Addr} (e : h'[a.block]? = h[a.block]?) : cell h' a = cell h a := by unfold cell; rw [e]
theorem frz_of_block {h h' : Heap} {a : Addr} (e : h'[a.block]? = h[a.block]?) : frz h' a = frz h a := by unfold frz; rw [e]

end Go.Sw.Codec
namespace Go.Sw
open Go.Sw.Codec
variable {P : Program} {S : Ids} {h : Heap} {Q : Nat → List Value → Heap → Prop}
theorem Lst.blocks {k : IntKind} {h h' : Heap} {s : Sl} {l : List Int} (hr : Lst k h s l) (e : ∀ a, s.base = some a → a.block < h.size → h'[a.block]? = h[a.block]?) : Lst k h' s l := by
  refine ⟨⟨hr.rd.1, fun i v hi => ?_⟩, hr.cap, hr.max, hr.wf⟩
  obtain ⟨a, ea, c⟩ := hr.rd.2 i v hi
  refine ⟨a, ea, ?_⟩
  have hlt := cell_lt c
  rw [add_block] at hlt
  rw [cell_of_block (h := h) (h' := h') (a := a.add i) (by rw [add_block]; exact e a ea hlt)]; exact c

end Go.Sw
namespace Go.Sw.Codec
variable {P : Program} {S : Ids} {h : Heap} {Q : Nat → List Value → Heap → Prop}
/-- Where the two blocks stay the stream does. -/
theorem Strm.blocks {h h' : Heap} {p : Addr} {enc : Int} {ws : Sl} {w : List Int} (s : Strm S h p enc ws w) (e0 : h'[p.block]? = h[p.block]?) (e1 : ∀ a, ws.base = some a → a.block < h.size → h'[a.block]? = h[a.block]?) : Strm S h' p enc ws w :=
  ⟨by rw [cell_of_block e0]; exact s.c0, by rw [cell_of_block (h := h) (h' := h') (a := p.add 1) (by rw [add_block]; exact e0)]; exact s.c1, by rw [frz_of_block (h := h) (h' := h') (a := p.add 1) (by rw [add_block]; exact e0)]; exact s.fz, s.wait.blocks e1, s.ne⟩
theorem Strm.lt {p : Addr} {enc : Int} {ws : Sl} {w : List Int} (s : Strm S h p enc ws w) : p.block < h.size := cell_lt s.c0
theorem Strm.ext {h' : Heap} {p : Addr} {enc : Int} {ws : Sl} {w : List Int} (s : Strm S h p enc ws w) (e : Ext h h') : Strm S h' p enc ws w :=
  s.blocks (e.2.1 _ s.lt) fun a _ hl => e.2.1 _ hl

/-- Only p's block may have changed. -/
def UpdP (p : Addr) (h h' : Heap) : Prop := h.size ≤ h'.size ∧ (∀ i, i < h.size → i ≠ p.block → h'[i]? = h[i]?) ∧ ∀ a, frz h a = false → frz h' a = false
theorem UpdP.refl (p : Addr) (h : Heap) : UpdP p h h := ⟨Nat.le_refl _, fun _ _ _ => rfl, fun _ x => x⟩
theorem UpdP.trans {p : Addr} {a b c : Heap} (u : UpdP p a b) (v : UpdP p b c) : UpdP p a c :=
  ⟨Nat.le_trans u.1 v.1, fun i hi hn => (v.2.1 i (Nat.lt_of_lt_of_le hi u.1) hn).trans (u.2.1 i hi hn), fun x hx => v.2.2 x (u.2.2 x hx)⟩
theorem UpdP.of_ext {p : Addr} {a b : Heap} (e : Ext a b) : UpdP p a b := ⟨e.1, fun i hi _ => e.2.1 i hi, e.2.2⟩
theorem UpdP.keep {p : Addr} {n : Nat} {a b : Heap} (u : UpdP p a b) (hp : n ≤ p.block) (hn : n ≤ a.size) : Keep n a b := ⟨u.1, fun i hi => u.2.1 i (by omega) (by omega), u.2.2⟩
theorem UpdP.lst {p : Addr} {a b : Heap} {k : IntKind} {s : Sl} {l : List Int} (u : UpdP p a b) (hr : Lst k a s l) (hn : ∀ x, s.base = some x → x.block ≠ p.block) : Lst k b s l := hr.blocks fun x hx hl => u.2.1 _ hl (hn x hx)
theorem UpdP.own {p : Addr} {a b : Heap} {n : Nat} {k : IntKind} {s : Sl} {l : List Int} (u : UpdP p a b) (hr : OwnL n k a s l) (hn : ∀ x, s.base = some x → x.block ≠ p.block) : OwnL n k b s l := hr.keep fun x hx => u.2.1 _ (hr.own.lt hx).2 (hn x hx)
theorem UpdP.strm {p q : Addr} {a b : Heap} {enc : Int} {ws : Sl} {w : List Int} (u : UpdP p a b) (s : Strm S a q enc ws w) (h1 : q.block ≠ p.block) (h2 : ∀ x, ws.base = some x → x.block ≠ p.block) : Strm S b q enc ws w :=
  s.blocks (u.2.1 _ s.lt h1) fun x hx hl => u.2.1 _ hl (h2 x hx)
theorem Upd.strm {t : Sl} {q : Addr} {a b : Heap} {enc : Int} {ws : Sl} {w : List Int} (u : Upd t a b) (s : Strm S a q enc ws w) (h1 : ∀ x, t.base = some x → x.block ≠ q.block) (h2 : ∀ x y, ws.base = some x → t.base = some y → y.block ≠ x.block) : Strm S b q enc ws w :=
  s.blocks (u.2.1 _ s.lt fun x hx => h1 x hx) fun x hx hl => u.2.1 _ hl fun y hy => h2 x y hx hy

theorem setCell_cell (h : Heap) (a b : Addr) (v : Value) (hab : b.block ≠ a.block) : (setCell h a v)[b.block]? = h[b.block]? := by
  unfold setCell
  rw [Array.getElem?_modify, if_neg (fun e => hab e.symm)]
theorem s_getF {q : Addr} {b : B} {x : b.den} {n : Nat} {K : b.den → Prog} (hc : cell h (q.add n) = some (b.inj x)) (hk : wp P (K x) h Q) :
    wp P (grd (someB (some q)) (grd (someB (some q)) (.load (.one b) (shiftTo (some q) n) K))) h Q :=
  s_grd rfl (s_grd rfl (wp_load1 _ x rfl hc hk))

/-- The second field of a stream, written over. -/
theorem s_setWait {p : Addr} {enc : Int} {ws ws' : Sl} {w w' : List Int} {K : Prog} (s : Strm S h p enc ws w) (hw : Lst .u8 h ws' w') (hne : ∀ a, ws'.base = some a → a.block ≠ p.block)
    (hk : ∀ h', Strm S h' p enc ws' w' → UpdP p h h' → h'.size = h.size → wp P K h' Q) :
    wp P (grd (someB (some p)) (grd (someB (some p)) (.store (shiftTo (some p) 1) [.slice ws'.base ws'.len ws'.cap] K))) h Q := by
  refine s_grd rfl (s_grd rfl ?_)
  have hpa : (p.add 1).add 0 = p.add 1 := add_zero' _
  refine ⟨p.add 1, rfl, ⟨⟨⟨_, by rw [hpa]; exact s.c1⟩, by rw [hpa]; exact s.fz, rfl⟩, trivial⟩, ?_⟩
  have hputs : puts h (p.add 1) [.slice ws'.base ws'.len ws'.cap] = setCell h (p.add 1) (.slice ws'.base ws'.len ws'.cap) := by
    show setCell h ((p.add 1).add 0) _ = _
    rw [hpa]
  rw [hputs]
  have hs : (setCell h (p.add 1) (.slice ws'.base ws'.len ws'.cap)).size = h.size := by simp [setCell]
  have hu : UpdP p h (setCell h (p.add 1) (.slice ws'.base ws'.len ws'.cap)) := by
    refine ⟨by omega, fun i hi hn => ?_, fun a ha => by rw [thaw_setCell]; exact ha⟩
    unfold setCell
    rw [Array.getElem?_modify, add_block, if_neg (fun e => hn e.symm)]
  refine hk _ ⟨?_, ?_, by rw [thaw_setCell]; exact s.fz, hu.lst hw hne, hne⟩ hu hs
  · rw [cell_setCell_other]
    · exact s.c0
    · intro e
      have := congrArg Addr.off e
      rw [add_off] at this; omega
  · exact cell_setCell_same s.c1
end Go.Sw.Codec
