/-
  Codec: the document's stream: Held, Feed, Close, NewStream.
-/
import Derived.Test.YtfgknhffpccamaaSwC22
set_option linter.unusedVariables false
set_option linter.unusedSimpArgs false
set_option maxRecDepth 100000
namespace Go.Sw
variable {P : Program} {h : Heap} {Q : Nat → List Value → Heap → Prop}
theorem Own.cells' {n m c : Nat} {a : Addr} {vs : List Value} (ho : Own n 1 h ⟨some a, m, c⟩ vs) : Cells h a vs :=
  cells_iff.2 fun j v hj => by obtain ⟨a', e, x⟩ := ho.rd.2 j v hj; cases e; exact x
/-- One cell of an object of one's own, written over. -/
theorem s_setC' {n m c j : Nat} {a : Addr} {vs : List Value} (v : Value) {K : Prog} (ho : Own n 1 h ⟨some a, m, c⟩ vs) (hj : j < vs.length) (hf : flat v = true)
    (hk : ∀ h', Own n 1 h' ⟨some a, m, c⟩ (vs.set j v) → Upd ⟨some a, m, c⟩ h h' → wp P K h' Q) : wp P (.store (shiftTo (some a) j) [v] K) h Q := by
  obtain ⟨o1, o2, o3, o4⟩ := ho
  obtain ⟨b, off, spot⟩ := a
  obtain ⟨e0, e1, e2, cs, elem, e3, e4, e5⟩ := o4
  dsimp only at e0 e1 e2 e3 o1 o2 e4
  subst e0; subst e1
  have hadd : (Addr.mk b 0 none).add j = ⟨b, j, none⟩ := by simp [add_mk]
  obtain ⟨w, cs', c1, c2, c3, c4, c5, c6⟩ := puts_block (vs := [v]) (i := 0) (off := j) e3 (by intro x hx; rw [List.mem_singleton.1 hx]; exact hf) (by simp; omega)
  refine ⟨⟨b, j, none⟩, by rw [shiftTo_some, hadd], w, hk _ ⟨by rw [List.length_set]; exact o1, o2, o3, rfl, rfl, e2, cs', elem, c1, by rw [c2, e4], fun i u hi => ?_⟩
    ⟨by unfold puts; omega, fun i hi hne => c6 i fun e => (hne _ rfl) e.symm, fun a e => by unfold puts; rw [thaw_putFrom]; exact e⟩⟩
  have hlt := (List.getElem?_eq_some_iff.1 hi).1
  rw [List.length_set] at hlt
  by_cases hij : i = j
  · subst hij
    rw [List.getElem?_set_self hj] at hi
    cases hi
    have := c3 0 v rfl
    simpa using this
  · rw [List.getElem?_set_ne (by omega)] at hi
    rw [c4 i (by simp; omega)]
    exact e5 i u hi
end Go.Sw

namespace Go.Sw.Codec
variable {P : Program} {S : Ids} {h : Heap} {Q : Nat → List Value → Heap → Prop}
abbrev i64v (x : Int) : Value := .int .i64 x
abbrev slv (s : Sl) : Value := .slice s.base s.len s.cap

/-- The document's stream in memory. -/
structure RStr (n : Nat) (h : Heap) (q : Addr) (enc : Int) (rs : Sl) (all : List Int) (told : Int) : Prop where
  ob : Own n 1 h ⟨some q, 3, 3⟩ [i64v enc, slv rs, i64v told]
  al : OwnL n .u8 h rs all
  ne : ∀ a, rs.base = some a → a.block ≠ q.block
variable {n : Nat} {q : Addr} {enc told : Int} {rs : Sl} {all : List Int}
theorem RStr.c0 (r : RStr n h q enc rs all told) : Sw.cell h (q.add 0) = some (i64v enc) := cells_iff.1 r.ob.cells' 0 _ rfl
theorem RStr.c1 (r : RStr n h q enc rs all told) : Sw.cell h (q.add 1) = some (slv rs) := cells_iff.1 r.ob.cells' 1 _ rfl
theorem RStr.c2 (r : RStr n h q enc rs all told) : Sw.cell h (q.add 2) = some (i64v told) := cells_iff.1 r.ob.cells' 2 _ rfl
theorem RStr.ext {h' : Heap} (r : RStr n h q enc rs all told) (e : Ext h h') : RStr n h' q enc rs all told := ⟨r.ob.ext e, r.al.ext e, r.ne⟩
theorem RStr.blocks {h' : Heap} (r : RStr n h q enc rs all told) (e0 : h'[q.block]? = h[q.block]?) (e1 : ∀ a, rs.base = some a → h'[a.block]? = h[a.block]?) : RStr n h' q enc rs all told :=
  ⟨r.ob.keep fun a ha => by cases ha; exact e0, r.al.keep e1, r.ne⟩

theorem w_held16 {l : List Int} {b : Sl} {K : Nat → List Value → Prog} (r : RStr n h q enc rs l told) (h16 : enc ≠ 1 ∧ enc ≠ 4) (hl : l.length < 2 ^ 61) (hk : ∀ h', Ext h h' → wp P (K 1 [i64v (held16 enc l)]) h' Q) :
    wp P (.bind (.bind
          (ifB (geI (natI rs.len) 2)
            (grd (someB (some q)) <|
            grd (someB (some q)) <|
            .load (.one (.int .i64)) (shiftTo (some q) 0) fun (n225 : Int) =>
            grd (someB (some q)) <|
            grd (someB (some q)) <|
            .load (.one .sl) (shiftTo (some q) 1) fun (l226 : Sl) =>
            .call (F_ref1_unitAt S n225 l226 (subI .i64 (subI .i64 (natI rs.len) (remI .i64 (natI rs.len) 2)) 2)) [.one (.int .i64)] fun (r227 : Int × Unit) =>
            .bind
              (ifB (geI r227.1 55296)
                (.ret 0 [.bool (ltI r227.1 56320)]) <|
              .ret 0 [.bool false]) fun k231 vs232 =>
            ifB (eqN k231 0)
              (.cast [.one .bool] vs232 fun (r233 : Bool × Unit) =>
              ifB r233.1
                (.ret 1 [.int .i64 (addI .i64 (remI .i64 (natI rs.len) 2) 2)]) <|
              .ret 0 []) <|
            .fail) <|
          .ret 0 []) fun k234 vs235 =>
        ifB (eqN k234 1)
          (.cast [.one (.int .i64)] vs235 fun (r236 : Int × Unit) =>
          .ret 1 [.int .i64 r236.1]) <|
        ifB (eqN k234 0)
          (.cast [] vs235 fun (u237 : Unit) =>
          .ret 1 [.int .i64 (remI .i64 (natI rs.len) 2)]) <|
        .fail) K) h Q := by
  have hlen := r.al.len
  have hby : isBytes l := r.al.wf
  have hnl : natI rs.len = (l.length : Int) := by rw [natI_def, hlen]
  rw [hnl]
  have hrem : remI .i64 (l.length : Int) 2 = ((l.length % 2 : Nat) : Int) := by rw [rem_ok (by omega)]; omega
  rw [hrem]
  have hval : held16 enc l = if 2 ≤ l.length - l.length % 2 ∧ 55296 ≤ unitF enc l (l.length - l.length % 2 - 2) ∧ unitF enc l (l.length - l.length % 2 - 2) < 56320 then ((l.length % 2 : Nat) : Int) + 2 else ((l.length % 2 : Nat) : Int) := rfl
  refine wp_bind (fun t vs h' => Ext h h' ∧ t = 1 ∧ vs = [i64v (held16 enc l)]) (wp_bind (fun t vs h' => Ext h h' ∧ ((t = 1 ∧ vs = [i64v (held16 enc l)]) ∨ (t = 0 ∧ vs = [] ∧ held16 enc l = ((l.length % 2 : Nat) : Int)))) ?_ ?_) ?_
  · refine wp_ifB (fun hc => ?_) fun hc => ?_
    · rw [geI_iff] at hc
      have hu := unit_bound (enc := enc) hby (l.length - l.length % 2 - 2)
      rw [sub_ok (a := (l.length : Int)) (b := ((l.length % 2 : Nat) : Int)) (by omega) (by omega), sub_ok (by omega) (by omega), show (l.length : Int) - ((l.length % 2 : Nat) : Int) - 2 = ((l.length - l.length % 2 - 2 : Nat) : Int) by omega]
      refine s_getF (b := .int .i64) (x := enc) r.c0 (s_getF (b := .sl) (x := rs) r.c1 (wp_call (c_unitAt r.al.lst (by omega) (by omega)) fun ⟨(y : Int), w⟩ h1 e1 hy => ?_))
      have hy : y = if l.length - l.length % 2 - 2 + 2 ≤ l.length then unitF enc l (l.length - l.length % 2 - 2) else -1 := hy
      rw [if_pos (by omega)] at hy
      dsimp only
      refine bind_bool (55296 ≤ y ∧ y < 56320) ?_ fun b h2 e2 hb => ?_
      · refine wp_ifB (fun hd => ?_) fun hd => ?_
        · rw [geI_iff] at hd
          exact s_ret ⟨rfl, Ext.refl _, _, rfl, by rw [ltI_iff]; exact ⟨fun x => ⟨hd, x⟩, fun x => x.2⟩⟩
        · rw [geI_not] at hd
          exact s_ret ⟨rfl, Ext.refl _, false, rfl, Iff.intro (fun x => by cases x) fun x => by omega⟩
      dsimp only
      refine wp_ifB (fun hd => ?_) fun hd => ?_
      · have := hb.1 hd
        rw [add_ok (by omega) (by omega)]
        exact s_ret ⟨e1.trans e2, .inl ⟨rfl, by rw [hval, if_pos ⟨by omega, by omega, by omega⟩]⟩⟩
      · exact s_ret ⟨e1.trans e2, .inr ⟨rfl, rfl, by rw [hval, if_neg (fun x => by rw [hb.2 (by omega)] at hd; cases hd)]⟩⟩
    · rw [geI_not] at hc
      exact s_ret ⟨Ext.refl _, .inr ⟨rfl, rfl, by rw [hval, if_neg (by omega)]⟩⟩
  · rintro t vs h1 ⟨e1, ⟨rfl, rfl⟩ | ⟨rfl, rfl, hv⟩⟩
    · exact s_tag (s_castI (s_ret ⟨e1, rfl, rfl⟩))
    · exact s_skip (by decide) (s_tag (s_cast0 (s_ret ⟨e1, rfl, by rw [hv]⟩)))
  · rintro t vs h1 ⟨e1, rfl, rfl⟩
    exact hk h1 e1

theorem c_ref_Held {l : List Int} (he : known enc) (r : RStr n h q enc rs l told) (hl : l.length < 2 ^ 61) : Gives P (F_ref_Stream_Held S (some q)) [.one (.int .i64)] h fun (x : Int × Unit) _ => HeldR enc l x.1 := by
  have hlen := r.al.len
  have hby : isBytes l := r.al.wf
  unfold F_ref_Stream_Held Gives
  refine s_getF (b := .sl) (x := rs) r.c1 ?_
  have fin : ∀ {t : Nat} {vs : List Value} {h' : Heap}, Ext h h' → (t = 1 ∧ ∃ v, vs = [i64v v] ∧ HeldR enc l v) ∨ (t = 0 ∧ vs = [] ∧ HeldR enc l 0) → wp P (ifB (eqN t 1) (.cast [.one (.int .i64)] vs fun (r266 : Int × Unit) => .ret 0 [.int .i64 r266.1]) <| ifB (eqN t 0) (.cast [] vs fun (u267 : Unit) => .ret 0 [.int .i64 0]) <| .fail) h' fun t vs h' => t = 0 ∧ Ext h h' ∧ ∃ x, vs = Ts.inj [.one (.int .i64)] x ∧ HeldR enc l x.1 := by
    rintro t vs h' e (⟨rfl, v, rfl, hv⟩ | ⟨rfl, rfl, hv⟩)
    · exact s_tag (s_castI (s_ret ⟨rfl, e, (v, ()), rfl, hv⟩))
    · exact s_skip (by decide) (s_tag (s_cast0 (s_ret ⟨rfl, e, (0, ()), rfl, hv⟩)))
  rcases known_cases he with rfl | rfl | rfl | rfl
  · refine wp_bind (fun t vs h' => Ext h h' ∧ t = 1 ∧ ∃ v, vs = [i64v v] ∧ HeldR 1 l v) (s_getF (b := .int .i64) (x := (1 : Int)) r.c0 (s_ifT ?_)) fun t vs h' ⟨e, ht, v, hv, hh⟩ => fin e (.inl ⟨ht, v, hv, hh⟩)
    have hnl : natI rs.len = (l.length : Int) := by rw [natI_def, hlen]
    rw [hnl]
    refine wp_while (fun (s : Int × Unit) h' => Ext h h' ∧ ∃ k : Nat, s.1 = k ∧ Bnd 1 l k ∧ ∀ j, Bnd 1 l j → j < k → ¬ moreE 1 (l.drop j)) (fun s _ => ((l.length : Int) - s.1).toNat)
      (fun t vs h' => Ext h h' ∧ (t = 3 ∧ vs = [] ∧ HeldR 1 l 0 ∨ t = 1 ∧ ∃ v : Int, vs = [i64v v] ∧ HeldR 1 l v)) ⟨Ext.refl _, 0, rfl, .zero, fun j _ h => by omega⟩ ?_ ?_
    · rintro ⟨k', u⟩ h1 ⟨e, k, hk, hbn, hno⟩
      dsimp only at hk ⊢
      subst hk
      have hkl := hbn.le hby
      have r1 := r.ext e
      refine wp_ifB (fun hi => ?_) fun hi => ?_
      · rw [ltI_iff] at hi
        have hpos : 0 < (l.drop k).length := by rw [List.length_drop]; omega
        have hs := firstF_size (enc := 1) hpos (hby.drop k)
        have hf1 : firstF 1 (l.drop k) = first8 (l.drop k) := rfl
        rw [sub_ok (by omega) (by omega)]
        refine wp_bind (fun t vs h' => Ext h h' ∧ ((t = 1 ∧ vs = [i64v ((l.length : Int) - k)] ∧ moreE 1 (l.drop k)) ∨ (t = 0 ∧ vs = [] ∧ ¬ moreE 1 (l.drop k)))) ?_ ?_
        · refine wp_ifB (fun hc => ?_) fun hc => ?_
          · rw [leI_iff] at hc
            refine s_getF (b := .sl) (x := rs) r1.c1 (wp_call (c_beginning r1.al.lst (by omega) (by omega) hl) fun ⟨(y : Bool), w⟩ h2 e2 hy => ?_)
            have hy : y = true ↔ moreE 1 (l.drop k) := hy
            dsimp only
            refine wp_ifB (fun hd => s_ret ⟨e.trans e2, .inl ⟨rfl, rfl, hy.1 hd⟩⟩) fun hd => s_ret ⟨e.trans e2, .inr ⟨rfl, rfl, fun hm => by rw [hy.2 hm] at hd; cases hd⟩⟩
          · rw [leI_not] at hc
            refine s_ret ⟨e, .inr ⟨rfl, rfl, fun hm => ?_⟩⟩
            have := more_short (hby.drop k) hm
            rw [List.length_drop] at this; omega
        · rintro t vs h2 ⟨e2, ⟨rfl, rfl, hm⟩ | ⟨rfl, rfl, hm⟩⟩
          · exact s_tag (s_castI (s_ret ⟨fun h => absurd h (by decide), fun _ => ⟨e2, .inr ⟨rfl, _, rfl, k, hbn, hno, .inr ⟨by omega, hm⟩, rfl⟩⟩⟩))
          · have r2 := r.ext e2
            refine s_skip (by decide) (s_tag (s_cast0 (s_getF (b := .sl) (x := rs) r2.c1 (wp_call (c_eightAt (a := k) r2.al.lst (by omega) (by omega)) fun ⟨(a : Int), (s : Int), w⟩ h3 e3 hy => ?_))))
            have hy : (a, s) = first8 (l.drop k) := hy
            have hy2 : s = (firstF 1 (l.drop k)).2 := by rw [hf1]; exact congrArg Prod.snd hy
            rw [List.length_drop] at hs
            dsimp only
            rw [add_ok (by omega) (by omega)]
            have hst := hbn.step (by omega)
            refine s_ret ⟨fun _ => ⟨((k : Int) + s, ()), rfl, ⟨e2.trans e3, k + (firstF 1 (l.drop k)).2.toNat, by dsimp only; omega, hst, fun j hj hjk => ?_⟩, by dsimp only; omega⟩, fun h => absurd rfl h⟩
            by_cases hjk' : j < k
            · exact hno j hj hjk'
            · by_cases he : j = k
              · subst he; exact hm
              · have := hbn.next hby hj (by omega); omega
      · rw [ltI_not] at hi
        exact s_ret ⟨fun h => absurd h (by decide), fun _ => ⟨e, .inl ⟨rfl, rfl, k, hbn, hno, .inl (by omega), by omega⟩⟩⟩
    · rintro t vs h1 ⟨e, ⟨rfl, rfl, hh⟩ | ⟨rfl, v, rfl, hh⟩⟩
      · exact s_tag (s_cast0 (s_ret ⟨e, rfl, 0, rfl, hh⟩))
      · exact s_skip (by decide) (s_tag (s_castI (s_ret ⟨e, rfl, v, rfl, hh⟩)))
  · refine wp_bind (fun t vs h' => Ext h h' ∧ t = 1 ∧ ∃ v, vs = [i64v v] ∧ HeldR 2 l v) (s_getF (b := .int .i64) (x := (2 : Int)) r.c0 (s_ifF (s_ifT (s_ifT (s_not ?_))))) fun t vs h' ⟨e, ht, v, hv, hh⟩ => fin e (.inl ⟨ht, v, hv, hh⟩)
    have := w_held16 (P := P) (S := S) (b := rs) (K := fun t vs => .ret t vs) (Q := fun t vs h' => Ext h h' ∧ t = 1 ∧ ∃ v, vs = [i64v v] ∧ HeldR 2 l v) r (by decide) hl fun h' e => s_ret ⟨e, rfl, _, rfl, held_16 hby (by decide)⟩
    exact wp_mono _ (fun t vs h' x => x) this
  · refine wp_bind (fun t vs h' => Ext h h' ∧ t = 1 ∧ ∃ v, vs = [i64v v] ∧ HeldR 3 l v) (s_getF (b := .int .i64) (x := (3 : Int)) r.c0 (s_ifF (s_ifF (s_ifT (s_not ?_))))) fun t vs h' ⟨e, ht, v, hv, hh⟩ => fin e (.inl ⟨ht, v, hv, hh⟩)
    have := w_held16 (P := P) (S := S) (b := rs) (K := fun t vs => .ret t vs) (Q := fun t vs h' => Ext h h' ∧ t = 1 ∧ ∃ v, vs = [i64v v] ∧ HeldR 3 l v) r (by decide) hl fun h' e => s_ret ⟨e, rfl, _, rfl, held_16 hby (by decide)⟩
    exact wp_mono _ (fun t vs h' x => x) this
  · refine wp_bind (fun t vs h' => Ext h h' ∧ t = 0 ∧ vs = []) (s_getF (b := .int .i64) (x := (4 : Int)) r.c0 (s_ifF (s_ifF (s_ifF (s_ret ⟨Ext.refl _, rfl, rfl⟩))))) fun t vs h' ⟨e, ht, hv⟩ => fin e (.inr ⟨ht, hv, held_latin hby⟩)

end Go.Sw.Codec
