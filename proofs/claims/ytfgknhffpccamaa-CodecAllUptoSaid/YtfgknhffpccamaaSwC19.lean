/-
  Codec: the program's stream; the law CodecParts.
-/
import Derived.Test.YtfgknhffpccamaaSwC18
set_option linter.unusedVariables false
set_option linter.unusedSimpArgs false
set_option maxRecDepth 100000
namespace Go.Sw.Codec
variable {P : Program} {S : Ids} {h : Heap} {Q : Nat → List Value → Heap → Prop}

def GivesP (p : Addr) (P : Program) (m : Prog) (tys : List Ty) (h : Heap) (R : Ts.den tys → Heap → Prop) : Prop :=
  wp P m h fun t vs h' => t = 0 ∧ UpdP p h h' ∧ ∃ x, vs = Ts.inj tys x ∧ R x h'
theorem wp_callP {p : Addr} {m : Prog} {tys : List Ty} {K : Ts.den tys → Prog} {R : Ts.den tys → Heap → Prop} (g : GivesP p P m tys h R) (hk : ∀ x h', UpdP p h h' → R x h' → wp P (K x) h' Q) :
    wp P (.call m tys K) h Q :=
  wp_mono m (fun _ _ _ ⟨a, b, x, c, d⟩ => ⟨a, x, c, hk x _ b d⟩) g

theorem Ext.of_keep {n : Nat} {a b : Heap} (k : Keep n a b) (hn : a.size ≤ n) : Ext a b := k.mono hn

/-- Feed: what is certain of all that waited and came is told, the rest waits. -/
theorem c_Feed (M : Meth P S) {p : Addr} {enc : Int} (he : known enc) {ws b : Sl} {w x : List Int} (s : Strm S h p enc ws w) (hb : Lst .u8 h b x) (hl : w.length + x.length ≤ 1099511627776) :
    GivesP p P (F_Stream_Feed S (some p) b) [.one .sl] h fun y h' => ∃ (ws' : Sl) (v : Int), HeldR enc (w ++ x) v ∧ 0 ≤ v ∧ v ≤ (w ++ x).length ∧ Strm S h' p enc ws' ((w ++ x).drop ((w ++ x).length - v.toNat)) ∧
      (∀ a, ws'.base = some a → h.size ≤ a.block ∧ a.block < h'.size) ∧ OwnL h.size .i64 h' y.1 (dec enc ((w ++ x).take ((w ++ x).length - v.toNat))) ∧ (∀ a b, ws'.base = some a → y.1.base = some b → a.block ≠ b.block) := by
  have hwl := s.wait.len
  have hbl := hb.len
  have hby : isBytes (w ++ x) := bytes_append s.wait.wf hb.wf
  have hlen : (w ++ x).length = w.length + x.length := List.length_append
  unfold F_Stream_Feed GivesP
  refine s_getF (b := .sl) (x := ws) s.c1 ?_
  simp only [natI_def, hwl, hbl]
  rw [add_ok (by omega) (by omega)]
  refine s_mk0 (k := .u8) (by omega) (by omega) (by omega) fun h1 r1 e1 o1 => ?_
  have s1 := s.ext e1
  refine s_getF (b := .sl) (x := ws) s1.c1 (s_append o1 e1.1 s1.wait (by simp; omega) (by simp; omega) fun r2 h2 k2 o2 u2 b2 => ?_)
  have x2 : Ext h h2 := Keep.trans e1 k2
  rw [List.nil_append] at o2
  refine s_append o2 x2.1 (hb.ext x2) (by omega) (by omega) fun r3 h3 k3 o3 u3 b3 => ?_
  have x3 : Ext h h3 := Keep.trans x2 k3
  have s3 := s.ext x3
  have hl3 := o3.len
  have hp3 := s3.c0
  rw [← add_zero' p] at hp3
  refine s_getF (b := .any) (x := coder S enc) hp3 (i_held M he o3.lst (by omega) fun y h4 e4 hh => ?_)
  obtain ⟨v0, v3, vl⟩ := hh.small hby
  have hsub : subI .i64 (r3.len : Int) y.1 = (r3.len : Int) - y.1 := sub_ok (by omega) (by omega)
  rw [hsub]
  have hto : toN ((r3.len : Int) - y.1) = (w ++ x).length - (y.1 : Int).toNat := by rw [toN_def]; omega
  rw [hto]
  have x4 := x3.trans e4
  have o4 := o3.ext e4
  have ht := o4.lst.tail (i := (w ++ x).length - (y.1 : Int).toNat) (by omega)
  refine s_grd (leB_ok (by omega) (by omega)) (s_append (OwnL.nil h4.size .u8 h4) (Nat.le_refl _) ht (by rw [List.length_drop]; simp; omega) (by rw [List.length_drop]; simp; omega) fun r5 h5 k5 o5 u5 b5 => ?_)
  rw [List.nil_append] at o5
  have x5 := x4.trans k5
  have s5 := s.ext x5
  have hne5 : ∀ a, r5.base = some a → a.block ≠ p.block := fun a ha => by
    rcases b5 a ha with hb | hb
    · cases hb
    · have := s.lt; have := x4.1; omega
  refine s_setWait s5 o5.lst hne5 fun h6 s6 u6 z6 => ?_
  have hp6 := s6.c0
  rw [← add_zero' p] at hp6
  have o6 : OwnL h.size .u8 h6 r3 (w ++ x) := u6.own (o4.ext k5) fun a ha => by
    have := (o4.own.lt ha).1; have := s.lt; omega
  have hcap := o6.own.2.1
  refine s_getF (b := .any) (x := coder S enc) hp6 (s_grd (leB_ok (by omega) (by omega)) ?_)
  rw [cutBase_zero, subZero, subZero]
  refine wp_call (c_all M he (Lst.head o6.lst (i := (w ++ x).length - (y.1 : Int).toNat) (by omega)) (by rw [List.length_take]; omega)) fun z h7 e7 hz => ?_
  have u7 : UpdP p h h7 := ((UpdP.of_ext x5).trans u6).trans (UpdP.of_ext e7)
  refine s_ret ⟨rfl, u7, z, rfl, r5, y.1, hh, v0, vl, s6.ext e7, fun a ha => ?_, OwnL.mono hz (by have := x5.1; omega), fun a b' ha hb' => ?_⟩
  · refine ⟨?_, ?_⟩
    · rcases b5 a ha with hb | hb
      · cases hb
      · have := x4.1; omega
    · have := (o5.own.lt ha).2; have := e7.1; omega
  · have h1 := (o5.own.lt ha).2
    have h2 := (OwnL.own hz).lt hb'
    omega

theorem c_Held {p : Addr} {enc : Int} {ws : Sl} {w : List Int} (s : Strm S h p enc ws w) : Gives P (F_Stream_Held S (some p)) [.one (.int .i64)] h fun (x : Int × Unit) _ => x.1 = w.length := by
  unfold F_Stream_Held
  refine s_getF (b := .sl) (x := ws) s.c1 ?_
  rw [natI_def, s.wait.len]
  exact s_ret ⟨rfl, Ext.refl _, (_, ()), rfl, rfl⟩

theorem c_Close (M : Meth P S) {p : Addr} {enc : Int} (he : known enc) {ws : Sl} {w : List Int} (s : Strm S h p enc ws w) (hl : w.length ≤ 1099511627776) :
    GivesP p P (F_Stream_Close S (some p)) [.one .sl] h fun y h' => Strm S h' p enc ⟨none, 0, 0⟩ [] ∧ OwnL h.size .i64 h' y.1 (dec enc w) := by
  unfold F_Stream_Close GivesP
  have hp := s.c0
  rw [← add_zero' p] at hp
  refine s_getF (b := .any) (x := coder S enc) hp (s_getF (b := .sl) (x := ws) s.c1 (wp_call (c_all M he s.wait (by omega)) fun z h1 e1 hz => ?_))
  refine s_setWait (s.ext e1) (ws' := ⟨none, 0, 0⟩) (w' := []) (Lst.nil (by decide)) (fun a ha => by cases ha) fun h2 s2 u2 z2 => s_ret ⟨rfl, (UpdP.of_ext e1).trans u2, z, rfl, s2, ?_⟩
  exact u2.own hz fun a ha => by have := ((OwnL.own hz).lt ha).1; have := s.lt; omega

theorem c_NewStream {enc : Int} : Gives P (F_codec_NewStream S enc) [.one .ptr, .one (.int .i64)] h fun (x : Option Addr × Int × Unit) h' =>
    (¬ known enc ∧ x.1 = none ∧ x.2.1 = 10) ∨ (known enc ∧ x.2.1 = 0 ∧ ∃ p : Addr, x.1 = some p ∧ h.size ≤ p.block ∧ Strm S h' p enc ⟨none, 0, 0⟩ []) := by
  unfold F_codec_NewStream
  refine wp_call (c_of enc) fun c h1 e1 hc => ?_
  have hc : c.1 = coder S enc := hc
  rw [hc]
  by_cases hk : ¬ known enc
  · rw [coder_unknown hk]
    exact s_grd rfl (s_ifT (s_ret ⟨rfl, e1, (none, 10, ()), rfl, .inl ⟨hk, rfl, rfl⟩⟩))
  have hk := Classical.not_not.1 hk
  obtain ⟨k1, k2⟩ := coder_known (S := S) hk
  rw [k1, k2]
  have hfl : flatB (coder S enc) = true := by
    rcases known_cases hk with rfl | rfl | rfl | rfl <;> rfl
  refine s_grd rfl (s_ifF (s_grd hfl fun elem => ?_))
  refine s_ret ⟨rfl, e1.trans (Ext.push ..), (some ⟨h1.size, 0, none⟩, 0, ()), rfl, .inr ⟨hk, rfl, _, rfl, e1.1, ?_⟩⟩
  refine ⟨?_, ?_, ?_, Lst.nil (by decide), fun a ha => by cases ha⟩
  · simp [cell]
  · rw [add_mk]; simp [cell]
  · rw [add_mk]; simp [frz]

theorem UpdP.step {p : Addr} {a b c : Heap} {t : Sl} (u : UpdP p a b) (v : Upd t b c) (ht : ∀ x, t.base = some x → a.size ≤ x.block) : UpdP p a c :=
  ⟨Nat.le_trans u.1 v.1, fun i hi hn => (v.2.1 i (Nat.lt_of_lt_of_le hi u.1) fun x hx e => by have := ht x hx; omega).trans (u.2.1 i hi hn), fun x hx => v.2.2 x (u.2.2 x hx)⟩

theorem Lst.mid {k : IntKind} {s : Sl} {l : List Int} (hr : Lst k h s l) {i j : Nat} (hij : i ≤ j) (hj : j ≤ l.length) : Lst k h ⟨cutBase s.base s.cap i 1, subN j i, subN s.cap i⟩ ((l.drop i).take (j - i)) := by
  have h1 := hr.tail (i := i) (by omega)
  have := hr.cap
  have := hr.len
  have := hr.max
  exact h1.take (n := j - i) (by rw [List.length_drop]; omega) (by unfold subN; omega) (by unfold subN; omega)
theorem take_mid {l : List Int} {i j : Nat} (hij : i ≤ j) (hj : j ≤ l.length) : l.take i ++ (l.drop i).take (j - i) = l.take j := by
  rw [← List.drop_take]
  have := List.take_append_drop i (l.take j)
  rwa [List.take_take, Nat.min_eq_left hij] at this

theorem c_CodecParts (M : Meth P S) {enc : Int} {b cuts : Sl} {l cl : List Int} (hb : Lst .u8 h b l) (hcu : Lst .i64 h cuts cl) (hl : l.length ≤ 1099511627776) (hcl : cl.length < 2 ^ 62) : Gives P (F_law1_CodecParts S enc b cuts) [.one .bool] h fun (x : Bool × Unit) _ => x.1 = Bool.true := by
  have hlb := hb.len
  have hlc := hcu.len
  have hcap := hb.cap
  have hby : isBytes l := hb.wf
  have hk := wholeF_known enc
  unfold F_law1_CodecParts
  refine wp_call (c_whole enc) fun ⟨(k : Int), _⟩ h1 e1 hk' => ?_
  have hk' : k = wholeF enc := hk'
  subst hk'
  dsimp only
  generalize wholeF enc = k at *
  refine wp_call (c_copyBytes (hb.ext e1) (by omega)) fun c h2 e2 hc => wp_call (c_Decode M (OwnL.lst hc) (by omega)) fun x h3 e3 hx => ?_
  obtain ⟨ox, ex⟩ := DecA.known hk hx
  have hxl := ox.len
  have hdl := dec_len (enc := k) _ l rfl hby
  have hpos : 0 < l.length → 0 < (dec k l).length := fun hp => by rw [dec_cons hby hp]; simp
  refine wp_call c_NewStream fun ⟨sp, se, _⟩ h4 e4 hs => ?_
  rcases hs with ⟨hn, _⟩ | ⟨_, hse, p, hsp, hpb, hst⟩
  · exact absurd hk hn
  have hse : se = 0 := hse
  have hsp : sp = some p := hsp
  subst hse
  subst hsp
  dsimp only
  have e14 := ((e1.trans e2).trans e3).trans e4
  have hph : h.size ≤ p.block := by have := e1.1; have := e2.1; have := e3.1; omega
  refine bind_bool False ?_ fun c' h5 e5 hc' => wp_ifB (fun h => (hc'.1 h).elim) fun _ => ?_
  · refine wp_call (c_law1_num _) fun v h5 e5 hv => s_neF ((show v.1 = x.2.1 from hv).trans ex) (wp_call (c_law1_num _) fun v h6 e6 hv => s_neF hv ?_)
    refine wp_ifB (fun hn => by simp [noneB] at hn) fun _ => wp_ifB (fun hg => ?_) fun hg => ?_
    · rw [gtI_iff, natI_def, hlb] at hg
      refine s_ret ⟨rfl, e5.trans e6, _, rfl, ?_⟩
      rw [eqI_iff, natI_def, hxl]
      have := hpos (by omega)
      exact ⟨fun h => by omega, fun h => h.elim⟩
    · exact s_ret ⟨rfl, e5.trans e6, _, rfl, ⟨(fun h => by cases h), fun h => h.elim⟩⟩
  have st5 := hst.ext e5
  have ox5 := (ox.ext e4).ext e5
  have e05 := e14.trans e5
  have hp5 : p.block < h5.size := st5.lt
  have hxne : ∀ a, x.1.base = some a → a.block ≠ p.block := fun a ha => by have := (ox.own.lt ha).2; omega
  have old : ∀ {h'}, UpdP p h5 h' → Lst .u8 h' b l ∧ Lst .i64 h' cuts cl ∧ OwnL h2.size .i64 h' x.1 (dec k l) ∧ Keep h.size h h' := by
    intro h' u
    have hkp : Keep h.size h h' := Keep.trans e05 (u.keep hph e05.1)
    exact ⟨hb.ext hkp, hcu.ext hkp, u.own ox5 hxne, hkp⟩
  refine wp_while (fun (s : Int × Unit) h' => 0 ≤ s.1 ∧ s.1 ≤ 2 ∧ UpdP p h5 h' ∧ ∃ ws : Sl, Strm S h' p k ws [] ∧ (∀ a, ws.base = some a → h5.size ≤ a.block)) (fun s _ => (2 - s.1).toNat)
    (fun t vs h' => t = 2 ∧ vs = [] ∧ UpdP p h5 h') ⟨by simp, by simp, UpdP.refl _ _, _, st5, fun a ha => by cases ha⟩ ?_ ?_
  · rintro ⟨(rd : Int), u⟩ h6 ⟨r0, r1, u6, ws, st6, hws⟩
    dsimp only at r0 r1 ⊢
    refine wp_ifB (fun hi => ?_) fun hi => ?_
    · rw [ltI_iff] at hi
      refine wp_while (fun (s : Sl × Int × Int × Unit) h' => UpdP p h5 h' ∧ ∃ (at_ i : Nat) (ws : Sl) (q : Nat), s.2.1 = at_ ∧ s.2.2.1 = i ∧ i ≤ cl.length + 1 ∧ at_ ≤ l.length ∧ (i = cl.length + 1 → at_ = l.length) ∧
          Waits k (l.take at_) q ∧ Strm S h' p k ws ((l.take at_).drop q) ∧ (∀ a, ws.base = some a → h5.size ≤ a.block) ∧ OwnL h5.size .i64 h' s.1 (dec k ((l.take at_).take q)) ∧
          ∀ a b, ws.base = some a → s.1.base = some b → b.block ≠ a.block) (fun s _ => (cl.length + 1 - s.2.2.1).toNat)
        (fun t vs h' => t = 4 ∧ UpdP p h5 h' ∧ ∃ (g : Sl × Unit) (ws : Sl) (q : Nat), vs = Ts.inj [.one .sl] g ∧ Waits k l q ∧ Strm S h' p k ws (l.drop q) ∧ (∀ a, ws.base = some a → h5.size ≤ a.block) ∧ OwnL h5.size .i64 h' g.1 (dec k (l.take q)) ∧
          ∀ a b, ws.base = some a → g.1.base = some b → b.block ≠ a.block) ⟨u6, 0, 0, ws, 0, rfl, rfl, by omega, by omega, fun h => by omega, Waits.zero k, by simpa using st6, hws, OwnL.nil .., fun a b _ hb => by cases hb⟩ ?_ ?_
      · rintro ⟨g, (at' : Int), (i' : Int), u'⟩ h7 ⟨u7, at_, i, ws, q, ha, hi', hic, hat, hlast, hw, st7, hws, og, hne⟩
        dsimp only at ha hi' og hne ⊢
        subst ha
        subst hi'
        obtain ⟨b7, c7, x7, k7⟩ := old u7
        refine wp_ifB (fun hj => ?_) fun hj => ?_
        · rw [leI_iff, natI_def, hlc] at hj
          refine bind_val (tys := [.one (.int .i64)]) (fun (y : Int × Unit) _ => ∃ to : Nat, y.1 = to ∧ at_ ≤ to ∧ to ≤ l.length ∧ (i = cl.length → to = l.length)) ?_ fun ⟨(to' : Int), _⟩ h8 e8 ⟨to, hto, to1, to2, to3⟩ => ?_
          · refine wp_ifB (fun hc => ?_) fun hc => ?_
            · rw [ltI_iff, natI_def, hlc] at hc
              refine s_at c7 (by omega) (by omega) fun _ => ?_
              rw [and7, add_ok (by omega) (by omega), natI_def, hlb]
              refine s_ret ⟨rfl, Ext.refl _, (minI _ _, ()), rfl, (minI (l.length : Int) ((at_ : Int) + cl.getD (i : Int).toNat 0 % 8)).toNat, ?_, ?_, ?_, fun h => by omega⟩
              all_goals (unfold minI; (try dsimp only); split <;> omega)
            · rw [ltI_not, natI_def, hlc] at hc
              rw [natI_def, hlb]
              exact s_ret ⟨rfl, Ext.refl _, ((l.length : Int), ()), rfl, l.length, rfl, hat, Nat.le_refl _, fun _ => rfl⟩
          have hto : to' = (to : Int) := hto
          subst hto
          dsimp only
          have u8 : UpdP p h5 h8 := u7.trans (UpdP.of_ext e8)
          rw [toN_def, toN_def, Int.toNat_natCast, Int.toNat_natCast]
          refine s_grd (andB_iff.2 ⟨leB_ok (by omega) (by omega), leB_ok (by omega) (by omega)⟩) ?_
          have hmid := Lst.mid (b7.ext e8) to1 to2
          have hml : ((l.drop at_).take (to - at_)).length = to - at_ := by rw [List.length_take, List.length_drop]; omega
          refine wp_call (c_copyBytes hmid (by omega)) fun y h9 e9 hy => ?_
          have hy : OwnL h8.size .u8 h9 y.1 ((l.drop at_).take (to - at_)) := hy
          have st9 := (st7.ext e8).ext e9
          have og9 := (og.ext e8).ext e9
          have hwl : ((l.take at_).drop q).length = at_ - q := by rw [List.length_drop, List.length_take]; omega
          have hql := hw.bnd.le hw.bytes
          rw [List.length_take] at hql
          refine wp_callP (c_Feed M hk st9 hy.lst (by rw [hwl, hml]; omega)) fun z h10 u10 ⟨ws', v, hh, v0, vl, st10, hws', oz, hzn⟩ => ?_
          obtain ⟨hw2, _, _⟩ := Waits.of (bytes_append ((hby.take at_).drop q) ((hby.drop at_).take _)) hh
          have hall : isBytes (l.take at_ ++ (l.drop at_).take (to - at_)) := bytes_append (hby.take _) ((hby.drop _).take _)
          obtain ⟨hw3, hd3⟩ := hw.feed hall hw2
          rw [take_mid to1 to2] at hw3 hd3
          have u9 : UpdP p h5 h9 := u8.trans (UpdP.of_ext e9)
          have u10' : UpdP p h5 h10 := u9.trans u10
          have og10 : OwnL h5.size .i64 h10 g (dec k ((l.take at_).take q)) := u10.own og9 fun a ha => by have := (og9.own.lt ha).1; omega
          have d1 := dec_len (enc := k) _ ((l.take at_).take q) rfl ((hby.take _).take _)
          rw [List.length_take, List.length_take] at d1
          have d2 := dec_len (enc := k) _ ((((l.take at_).drop q) ++ (l.drop at_).take (to - at_)).take ((((l.take at_).drop q) ++ (l.drop at_).take (to - at_)).length - v.toNat)) rfl ((bytes_append ((hby.take at_).drop q) ((hby.drop at_).take _)).take _)
          have hLL : ((l.take at_).drop q ++ (l.drop at_).take (to - at_)).length = (at_ - q) + (to - at_) := by rw [List.length_append, hwl, hml]
          rw [List.length_take] at d2
          refine s_append og10 u10'.1 oz.lst (by omega) (by omega) fun r h11 k11 o11 up11 b11 => ?_
          have u11 : UpdP p h5 h11 := u10'.step up11 fun a ha => (og10.own.lt ha).1
          have hgw : ∀ a b, ws'.base = some a → g.base = some b → b.block ≠ a.block := fun a b' ha hb' => by
            have h1 := (hws' a ha).1
            have h2 := (og9.own.lt hb').2
            omega
          have st11 := Upd.strm up11 st10 (fun a ha => by have := (og10.own.lt ha).1; omega) hgw
          rw [← hd3] at o11
          refine wp_call (c_Held st11) fun ⟨(hv : Int), _⟩ h12 e12 hhv => ?_
          have hhv : hv = _ := hhv
          rw [List.length_drop] at hhv
          have hsm := hh.small (bytes_append ((hby.take at_).drop q) ((hby.drop at_).take _))
          rw [List.length_append, hwl, hml] at hhv hsm vl
          dsimp only
          refine bind_bool False ?_ fun c' h13 e13 hc' => wp_ifB (fun h => (hc'.1 h).elim) fun _ => ?_
          · refine wp_ifB (fun hn => by rw [ltI_iff] at hn; omega) fun _ => s_gtF (by omega) (s_ret ⟨rfl, Ext.refl _, _, rfl, ?_⟩)
            rw [gtI_iff]; exact ⟨fun h => by omega, fun h => h.elim⟩
          have hdr : ((l.take at_).drop q ++ (l.drop at_).take (to - at_)).drop ((at_ - q + (to - at_)) - v.toNat) = (l.take to).drop (q + ((at_ - q + (to - at_)) - v.toNat)) := by
            have hq1 : (l.take at_ ++ (l.drop at_).take (to - at_)).drop q = (l.take at_).drop q ++ (l.drop at_).take (to - at_) := List.drop_append_of_le_length (by rw [List.length_take]; omega)
            rw [← hq1, List.drop_drop, take_mid to1 to2]
          rw [List.length_append, hwl, hml] at st11 hw3 o11
          rw [hdr] at st11
          rw [add_ok (by omega) (by omega)]
          have st13 := (st11.ext e12).ext e13
          refine s_ret ⟨fun _ => ⟨(r, (to : Int), (i : Int) + 1, ()), rfl, ⟨(u11.trans (UpdP.of_ext e12)).trans (UpdP.of_ext e13), to, i + 1, ws', q + ((at_ - q + (to - at_)) - v.toNat), rfl, rfl, by omega, to2, fun h => to3 (by omega), hw3, st13, fun a ha => ?_, (o11.ext e12).ext e13, fun a b' ha hb' => ?_⟩, by dsimp only; omega⟩, fun h => absurd rfl h⟩
          · have := (hws' a ha).1; have := u9.1; omega
          · rcases b11 b' hb' with hb2 | hb2
            · exact hgw a b' ha hb2
            · have := (hws' a ha).2; omega
        · rw [leI_not, natI_def, hlc] at hj
          have : at_ = l.length := hlast (by omega)
          subst this
          rw [List.take_length] at hw st7 og
          exact s_ret ⟨fun h => absurd h (by decide), fun _ => ⟨rfl, u7, (g, ()), ws, q, rfl, hw, st7, hws, og, hne⟩⟩
      · rintro t vs h7 ⟨ht, u7, g, ws, q, hv, hw, st7, hws, og, hne⟩
        refine s_exit ht g hv ?_
        have hql := hw.bnd.le hw.bytes
        refine wp_callP (c_Close M hk st7 (by rw [List.length_drop]; omega)) fun z h8 u8 ⟨st8, oz⟩ => ?_
        have u8' := u7.trans u8
        have og8 : OwnL h5.size .i64 h8 g.1 (dec k (l.take q)) := u8.own og fun a ha => by have := (og.own.lt ha).1; omega
        have d1 := dec_len (enc := k) _ (l.take q) rfl (hby.take _)
        have d2 := dec_len (enc := k) _ (l.drop q) rfl (hby.drop _)
        rw [List.length_take] at d1
        rw [List.length_drop] at d2
        refine s_append og8 u8'.1 (OwnL.lst oz) (by omega) (by omega) fun r h9 k9 o9 up9 b9 => ?_
        rw [← dec_split hby hw.bnd] at o9
        have u9 : UpdP p h5 h9 := u8'.step up9 fun a ha => (og8.own.lt ha).1
        have st9 := Upd.strm up9 st8 (fun a ha => by have := (og8.own.lt ha).1; omega) (fun a b' ha => by cases ha)
        refine wp_call (c_Held st9) fun y h10 e10 hy => ?_
        obtain ⟨b9', c9', x9, k9'⟩ := old u9
        have u10 := u9.trans (UpdP.of_ext e10)
        refine bind_bool False ?_ fun c' h11 e11 hc' => wp_ifB (fun h => (hc'.1 h).elim) fun _ => ?_
        · refine s_neF hy (wp_call (c_sameInts (o9.ext e10).lst (x9.ext e10).lst) fun w h11 e11 hw' => s_ret ⟨rfl, e11, _, rfl, ?_⟩)
          have hw' : w.1 = decide (dec k l = dec k l) := hw'
          rw [hw']; simp [notB]
        rw [add_ok (by omega) (by omega)]
        exact s_ret ⟨fun _ => ⟨(rd + 1, ()), rfl, ⟨by dsimp only; omega, by dsimp only; omega, u10.trans (UpdP.of_ext e11), _, (st9.ext e10).ext e11, fun a ha => by cases ha⟩, by dsimp only; omega⟩, fun h => absurd rfl h⟩
    · exact s_ret ⟨fun h => absurd h (by decide), fun _ => ⟨rfl, rfl, u6⟩⟩
  · rintro t vs h6 ⟨ht, hv, u6⟩
    refine s_exit ht () hv ?_
    obtain ⟨_, _, _, k6⟩ := old u6
    refine s_allocL (k := .u8) [65, 65] (bytes_fit rfl) (by simp) fun h7 e7 o7 => wp_call (c_Decode M o7.lst (by simp)) fun y h8 e8 hy => ?_
    obtain ⟨oy, ey⟩ := DecA.known hk hy
    have hyl := oy.len
    have hpos2 : 0 < (dec k [65, 65]).length := by rw [dec_cons (bytes_fit rfl) (by simp)]; simp
    have k8 : Keep h.size h h8 := Keep.trans k6 ((e7.trans e8).keep k6.1)
    refine bind_bool True ?_ fun c' h10 e10 hc' => s_ret ⟨rfl, Keep.trans k8 (e10.keep k8.1), _, rfl, hc'.2 trivial⟩
    refine wp_call (c_law1_num _) fun v h9 e9 hv => s_eqT ((show v.1 = y.2.1 from hv).trans ey) (s_ret ⟨rfl, e9, _, rfl, ?_⟩)
    rw [gtI_iff, natI_def, hyl]; simp; omega
end Go.Sw.Codec
