/-
  Words: the law TreeWords.
-/
import Derived.Test.YteoloieadjeneaaSwW4
set_option linter.unusedVariables false
set_option linter.unusedSimpArgs false
set_option maxRecDepth 100000
namespace Go.Sw.Words
open Go.Sw.Any
open Go.Sw.Tree (iv slV s_putAll s_newP s_getP s_getT s_putP eqI_self Placed cell_own cell_upd1 upd_trans ext_upd bool_false s_newS minI_eq c_num TR s_ckP c_slot s_putTree)
variable {P : Program} {S : Ids} {h : Heap} {Q : Nat → List Value → Heap → Prop}

/-- A list of words of one's own. -/
abbrev OwnW (S : Ids) (n : Nat) (h : Heap) (s : Sl) (l : List W1) : Prop := Own n 1 h s (cI (word S) l)
theorem own_its {n : Nat} {s : Sl} {l : List W1} (o : OwnW S n h s l) : Its (word S) h s l := ⟨o.rd, o.2.1, o.2.2.1, fun _ _ => trivial⟩
theorem own_len {n : Nat} {s : Sl} {l : List W1} (o : OwnW S n h s l) : s.len = l.length := by
  have h1 := o.1
  rw [cI_len, show (word S).ni = 1 from rfl] at h1
  omega
theorem cW_flat (l : List W1) : ∀ v ∈ cI (word S) l, flat v = true := by
  intro v hv
  obtain ⟨r, _, hr⟩ := List.mem_flatMap.1 hv
  exact flat1 r v hr
theorem s_appW {n : Nat} {s x : Sl} {l m : List W1} {K : Sl → Prog} (ho : OwnW S n h s l) (hn : n ≤ h.size) (hx : Its (word S) h x m) (hroom : l.length + m.length ≤ 4398046511104)
    (hk : ∀ r h', Keep n h h' → OwnW S n h' r (l ++ m) → wp P (K r) h' Q) : wp P (.append 1 16 [.string (ByteArray.mk #[])] s x K) h Q := by
  have h1 := own_len ho
  have h2 := hx.rd.1
  rw [cI_len, show (word S).ni = 1 from rfl] at h2
  refine wp_append ho hn hx.rd (cW_flat m) rfl (by omega) (by omega) fun r h' a b c d => ?_
  exact hk r h' (Upd.keep ho hn c) (by show Own n 1 h' r _; rw [cI_append]; exact a)
theorem s_pushW {n : Nat} {s : Sl} {l : List W1} {x : ByteArray} {K : Sl → Prog} (ho : OwnW S n h s l) (hn : n ≤ h.size) (hroom : l.length + 1 ≤ 4398046511104)
    (hk : ∀ r h', Keep n h h' → OwnW S n h' r (l ++ [(x, ())]) → wp P (K r) h' Q) : wp P (.alloc [.string x] fun a => .append 1 16 [.string (ByteArray.mk #[])] s ⟨some a, 1, 1⟩ K) h Q := by
  have h1 := own_len ho
  refine wp_push ho hn rfl (flat1 (x, ())) rfl (by omega) (by omega) fun r h' a b c d => ?_
  exact hk r h' (Upd.keep ho hn c) (by show Own n 1 h' r _; rw [cI_append]; exact a)
theorem s_atS {s : Sl} {l : List W1} {K : ByteArray → Prog} {j : Int} (hr : Its (word S) h s l) (h0 : 0 ≤ j) (h1 : j < l.length)
    (hk : ∀ r, l[j.toNat]? = some r → wp P (K r.1) h Q) : wp P (grd (andB (someB s.base) (inB j s.len)) (.load (.one .str) (shiftTo s.base (mulN (toN j) 1)) K)) h Q := by
  have hj : l[j.toNat]? = some l[j.toNat] := List.getElem?_eq_getElem (by omega)
  obtain ⟨a, e, c⟩ := its_cells hr (Nat.le_refl 1) hj
  have h2 := hr.rd.1
  rw [cI_len, show (word S).ni = 1 from rfl] at h2
  have c0 := cells_iff.1 c 0 _ rfl
  rw [add_zero', show (word S).ni = 1 from rfl, Nat.mul_one] at c0
  refine wp_grd (andB_iff.2 ⟨by simp [someB, e], inB_is.2 ⟨h0, by omega⟩⟩) (wp_load1 (b := .str) _ l[j.toNat].1 (by simp [shiftTo, e, mulN, toN]) c0 (hk _ hj))

/-- How much text there is: whatever it is. -/
theorem w_text {tag : Nat} {s : Sl} {l : List W1} {x0 : Int} {K : Nat → List Value → Prog} {h0 : Heap} (hr : Its (word S) h0 s l) (e0 : Ext h0 h) (hlen : s.len = l.length) (hl : l.length ≤ 4398046511104) (ht : tag ≠ 0)
    (hk : ∀ h' x, Ext h h' → wp P (K tag [iv x]) h' Q) :
    wp P (.bind (.loop [.one (.int .i64), .one (.int .i64)] (x0, ((0 : Int), ())) fun (r10673 : Int × (Int × Unit)) =>
      .bind
        (ifB (ltI r10673.2.1 (natI s.len))
          (.ret 0 [.bool (leI r10673.1 4194304)]) <|
        .ret 0 [.bool false]) fun k10678 vs10679 =>
      ifB (eqN k10678 0)
        (.cast [.one .bool] vs10679 fun (r10680 : Bool × Unit) =>
        ifB r10680.1
          (grd (andB (someB s.base) (inB r10673.2.1 s.len)) <|
          .load (.one .str) (shiftTo s.base (mulN (toN r10673.2.1) 1)) fun (s10681 : ByteArray) =>
          .ret 0 [.int .i64 (addI .i64 r10673.1 (natI (sizeS s10681))), .int .i64 (addI .i64 r10673.2.1 1)]) <|
        .ret tag [.int .i64 r10673.1]) <|
      .fail) K) h Q := by
  refine wp_while (fun (r : Int × Int × Unit) h' => Ext h h' ∧ 0 ≤ r.2.1 ∧ r.2.1 ≤ l.length) (fun r _ => (l.length - r.2.1).toNat) (fun tg vs h' => tg = tag ∧ Ext h h' ∧ ∃ x, vs = [iv x]) ⟨Ext.refl _, by simp, by simp⟩ ?_ ?_
  · rintro ⟨(x : Int), (i : Int), u⟩ h1 ⟨e1, i0, i1⟩
    dsimp only at i0 i1 ⊢
    refine wp_bind (fun tg vs h' => tg = 0 ∧ Ext h h' ∧ ∃ b : Bool, vs = [.bool b] ∧ (b = true → i < l.length)) ?_ ?_
    · refine wp_ifB (fun hc => ?_) fun hc => s_ret ⟨rfl, e1, false, rfl, fun h => by cases h⟩
      rw [ltI_iff, natI_def, hlen] at hc
      exact s_ret ⟨rfl, e1, _, rfl, fun _ => hc⟩
    rintro tg vs h2 ⟨rfl, e2, b, rfl, hb⟩
    refine s_tag (s_castB (wp_ifB (fun hc => ?_) fun hc => s_ret ⟨fun h => absurd h ht, fun _ => ⟨rfl, e2, x, rfl⟩⟩))
    refine s_atS (hr.ext (e0.trans e2)) i0 (hb hc) fun r hr => ?_
    rw [add_ok (a := i) (by omega) (by have := hb hc; omega)]
    have := hb hc
    exact s_ret ⟨fun _ => ⟨(_, i + 1, ()), rfl, ⟨e2, by dsimp only; omega, by dsimp only; omega⟩, by dsimp only; omega⟩, fun h => absurd rfl h⟩
  · rintro tg vs h1 ⟨rfl, e1, x, rfl⟩
    exact hk h1 x e1

/-- Words made of strings, behind those there are. -/
theorem w_words {tag : Nat} {s s0 : Sl} {l l0 : List W1} {n : Nat} {K : Nat → List Value → Prog} {h0 : Heap} (hr : Its (word S) h0 s l) (hn0 : h0.size ≤ n) (e0 : Ext h0 h) (hlen : s.len = l.length) (hl : l0.length + l.length ≤ 4398046511103) (ht : tag ≠ 0)
    (ho : OwnW S n h s0 l0) (hn : n ≤ h.size) (hk : ∀ h' x, Keep n h h' → OwnW S n h' x (l0 ++ l) → wp P (K tag [slV x]) h' Q) :
    wp P (.bind (.loop [.one .sl, .one (.int .i64)] (s0, ((0 : Int), ())) fun (r20008 : Sl × (Int × Unit)) =>
            ifB (ltI r20008.2.1 (natI s.len))
              (grd (andB (someB s.base) (inB r20008.2.1 s.len)) <|
              .load (.one .str) (shiftTo s.base (mulN (toN r20008.2.1) 1)) fun (s20009 : ByteArray) =>
              .alloc [.string s20009] fun (a20010 : Addr) =>
              .append 1 16 [.string (ByteArray.mk #[])] r20008.1 (⟨some a20010, 1, 1⟩) fun (l20011 : Sl) =>
              .ret 0 [.slice l20011.base l20011.len l20011.cap, .int .i64 (addI .i64 r20008.2.1 1)]) <|
            .ret tag [.slice r20008.1.base r20008.1.len r20008.1.cap]) K) h Q := by
  refine wp_while (fun (r : Sl × Int × Unit) h' => Keep n h h' ∧ 0 ≤ r.2.1 ∧ r.2.1 ≤ l.length ∧ OwnW S n h' r.1 (l0 ++ l.take r.2.1.toNat)) (fun r _ => (l.length - r.2.1).toNat) (fun tg vs h' => tg = tag ∧ Keep n h h' ∧ ∃ x, vs = [slV x] ∧ OwnW S n h' x (l0 ++ l))
    ⟨Keep.refl _ _, by simp, by simp, by simpa using ho⟩ ?_ ?_
  · rintro ⟨x, (i : Int), u⟩ h1 ⟨k1, i0, i1, ho⟩
    dsimp only at i0 i1 ho ⊢
    have e01 : Ext h0 h1 := Keep.trans e0 (k1.mono hn0)
    refine wp_ifB (fun hc => ?_) fun hc => ?_
    · rw [ltI_iff, natI_def, hlen] at hc
      refine s_atS (hr.ext e01) i0 hc fun r hj => s_pushW ho (Nat.le_trans hn k1.size) (by rw [List.length_append, List.length_take]; omega) fun x' h2 k2 o2 => ?_
      rw [add_ok (a := i) (by omega) (by omega)]
      refine s_ret ⟨fun _ => ⟨(x', i + 1, ()), rfl, ⟨Keep.trans k1 k2, by dsimp only; omega, by dsimp only; omega, ?_⟩, by dsimp only; omega⟩, fun h => absurd rfl h⟩
      dsimp only
      have htk : l.take (i + 1).toNat = l.take i.toNat ++ [r] := by rw [show (i + 1).toNat = i.toNat + 1 by omega, List.take_add_one, hj]; rfl
      rw [htk, ← List.append_assoc]; exact o2
    · rw [ltI_not, natI_def, hlen] at hc
      rw [show l.take i.toNat = l from List.take_of_length_le (by omega)] at ho
      exact s_ret ⟨fun h => absurd h ht, fun _ => ⟨rfl, k1, x, rfl, ho⟩⟩
  · rintro tg vs h1 ⟨rfl, k1, x, rfl, ho⟩
    exact hk h1 x k1 ho

/-- One of a pair in an object of pairs. -/
theorem s_pair {a : Addr} {L : List Int} {N q : Nat} {i f : Int} {K : Int → Prog} (hc : Cells h a (L.map iv)) (h0 : 0 ≤ i) (h1 : i < N) (hf : L[i.toNat * 2 + q]? = some f) (hk : wp P (K f) h Q) :
    wp P (grd (inB i N) <| grd (andB (someB (shiftTo (some a) (mulN (toN i) 2))) true) <| .load (.one (.int .i64)) (shiftTo (shiftTo (some a) (mulN (toN i) 2)) q) K) h Q := by
  refine wp_grd (inB_is.2 ⟨h0, h1⟩) (wp_grd (by simp [someB, shiftTo, andB]) (wp_load1 (b := .int .i64) (a.add (i.toNat * 2 + q)) f (by simp [shiftTo, mulN, toN, add_add]) (cells_iff.1 hc _ _ ?_) hk))
  rw [List.getElem?_map, hf]; rfl
theorem s_pairCk {a : Addr} {L : List Int} {q : Nat} {i f : Int} {K : Prog} (hc : Cells h a (L.map iv)) (hf : L[i.toNat * 2 + q]? = some f) (hk : wp P K h Q) : wp P (.check (shiftTo (shiftTo (some a) (mulN (toN i) 2)) q) [iv f] K) h Q := by
  refine s_check0 (a := a.add (i.toNat * 2 + q)) (by simp [shiftTo, mulN, toN, add_add]) (cells_iff.2 fun z v hz => ?_) hk
  match z, hz with
  | 0, hz => simp at hz; subst hz; rw [add_zero']; exact cells_iff.1 hc _ _ (by rw [List.getElem?_map, hf]; rfl)
  | z + 1, hz => simp at hz

theorem c_TreeWords (D : ClosW P S) {ws ms : Sl} {L M : List W1} {from_ to k n : Int} (hL : Its (word S) h ws L) (hM : Its (word S) h ms M) (hb : (word S).W L + (word S).W M ≤ 4194304) :
    Gives P (F_law4_TreeWords S ws from_ to ms k n) [.one .bool] h fun (y : Bool × Unit) _ => y.1 = true := by
  have hlL := hL.len (word_ok (P := P))
  have hlM := hM.len (word_ok (P := P))
  have hWL := W_len (word_ok (P := P) (S := S)) L
  have hWM := W_len (word_ok (P := P) (S := S)) M
  unfold F_law4_TreeWords Gives
  refine w_text hL (Ext.refl _) hlL (by omega) (by decide) fun h1 x1 e1 => s_tag (s_castI ?_)
  refine w_text hM e1 hlM (by omega) (by decide) fun h2 x2 e2 => s_tag (s_castI ?_)
  have e02 := e1.trans e2
  refine wp_bind (fun tg vs h' => tg = 0 ∧ Ext h h' ∧ ∃ b : Bool, vs = [.bool b]) ?_ ?_
  · exact wp_ifB (fun _ => s_ret ⟨rfl, e02, _, rfl⟩) fun _ => wp_ifB (fun _ => s_ret ⟨rfl, e02, _, rfl⟩) fun _ => s_ret ⟨rfl, e02, _, rfl⟩
  rintro tg vs h3 ⟨rfl, e3, b, rfl⟩
  refine s_tag (s_castB (wp_ifB (fun _ => s_ret ⟨rfl, e3, (true, ()), rfl, rfl⟩) fun _ => ?_))
  generalize hone : ByteArray.mk #[_, _, _] = one
  have hone3 : one.size = 3 := by rw [← hone]; rfl
  clear hone
  refine s_newO (bs := [.str]) (one, ()) (by decide) fun h4 e4 o4 => ?_
  have s3 := e3.size
  have e04 := e3.trans e4
  have o4' : OwnW S h3.size h4 ⟨some ⟨h3.size, 0, none⟩, 1, 1⟩ [(one, ())] := o4
  refine w_words hL s3 e04 hlL (by simp; omega) (by decide) o4' e4.size fun h5 lw k5 ol => s_tag (s_castS ?_)
  have s5 := k5.size
  have s4 := e4.size
  have e05 : Ext h h5 := Keep.trans e04 (k5.mono s3)
  refine w_words (l0 := []) hM (e05.size) e05 hlM (by simp; omega) (by decide) (Own.nil h5.size 1 h5) (Nat.le_refl _) fun h6 mw k6 om => s_tag (s_castS ?_)
  have e56 : Ext h5 h6 := k6
  rw [List.nil_append] at om
  have ol6 : OwnW S h3.size h6 lw ([(one, ())] ++ L) := ol.ext e56
  have iL := own_its ol6
  have iM := own_its om
  have lenL : lw.len = L.length + 1 := by rw [own_len ol6]; simp
  have lenM := own_len om
  have WL : (word S).W ([(one, ())] ++ L) = 4 + (word S).W L := by rw [W_append]; show one.size + 1 + 0 + _ = _; omega
  have e06 := e05.trans e56
  generalize hLL : [(one, ())] ++ L = LL at iL WL ol6
  have lenLL : LL.length = L.length + 1 := by rw [← hLL]; simp
  have hnl : natI lw.len = (LL.length : Int) := by rw [natI_def, lenL, lenLL]
  rw [hnl]
  refine wp_call (c_slot (by omega) (by omega)) fun y h7 e7 hy => ?_
  obtain ⟨(i : Int), w1⟩ := y
  obtain ⟨i0, i1⟩ := hy
  dsimp only at i0 i1 ⊢
  rw [sub_ok (by omega) (by omega)]
  refine wp_call (c_slot (by omega) (by omega)) fun y h8 e8 hy => ?_
  obtain ⟨(d : Int), w2⟩ := y
  obtain ⟨d0, d1⟩ := hy
  dsimp only at d0 d1 ⊢
  have e68 := e7.trans e8
  refine wp_call (w_Of (iL.ext e68) (by omega)) fun y h9 e9 hy => ?_
  obtain ⟨⟨(p : Option Addr), w3⟩, w4⟩ := y
  obtain ⟨t, nt, lt, _⟩ := hy
  dsimp only at nt ⊢
  have hWt : (word S).W t.list = 4 + (word S).W L := by rw [lt]; exact WL
  have hlt : t.list.length = LL.length := by rw [lt]
  have pT : ∀ {p : Option Addr} {K : Addr → Prog} {h : Heap} {Q : Nat → List Value → Heap → Prop}, (∀ h', Ext h h' → Own h.size 1 h' ⟨some ⟨h.size, 0, none⟩, 1, 1⟩ [.pointer p] → wp P (K ⟨h.size, 0, none⟩) h' Q) → wp P (.alloc [.pointer none] fun a => .store (some a) [.pointer p] (K a)) h Q :=
    fun hk => s_newP none fun h1 e1 o1 => s_putP _ o1 fun h2 o2 u2 => hk h2 (Upd.extN e1 u2 (by intro a ha; cases ha; exact Nat.le_refl _)) o2
  refine pT fun h10 e10 oT => s_getT oT ?_
  rw [add_ok (a := i) (b := d) (by omega) (by omega)]
  have e610 := (e68.trans e9).trans e10
  refine wp_call (w_Replace (i := i) (j := i + d) (nt.ext e10) (iM.ext e610) i0 (by omega) (by omega) (by omega)) fun y h11 e11 hy => ?_
  obtain ⟨⟨(pu : Option Addr), w5⟩, (eu : Int), w6⟩ := y
  obtain ⟨heu, u, nu, lu⟩ := hy
  dsimp only at heu nu ⊢
  subst eu
  refine pT fun h12 e12 oU => ?_
  have e612 := (e610.trans e11).trans e12
  have e1012 := e11.trans e12
  refine s_grd (leB_ok (by omega) (by have := iL.cap; omega)) ?_
  have hti : toN i = i.toNat := rfl
  have hcap := iL.cap
  have hmax := iL.max
  rw [hti, cutBase_zero, show subN i.toNat 0 = i.toNat from rfl, show subN lw.cap 0 = lw.cap from rfl]
  have iLt := (iL.ext e612).take (word_ok (P := P)) (n := i.toNat) (m := lw.cap) (by omega) (by omega) hmax
  refine s_appW (l := []) (Own.nil h12.size 1 h12) (Nat.le_refl _) iLt (by rw [List.length_take]; simp; omega) fun r1 h13 k13 or1 => ?_
  have e13 : Ext h12 h13 := k13
  rw [List.nil_append] at or1
  refine s_appW or1 e13.size (iM.ext (e612.trans e13)) (by rw [List.length_take]; omega) fun r2 h14 k14 or2 => ?_
  have e14 : Ext h12 h14 := Keep.trans k13 k14
  refine s_grd (leB_ok (by omega) (by omega)) ?_
  have htd : toN (i + d) = (i + d).toNat := rfl
  rw [htd]
  have iLd := (iL.ext (e612.trans e14)).drop (word_ok (P := P)) (i := (i + d).toNat) (m := subN lw.cap (i + d).toNat) (by omega) (by unfold subN; omega) (by unfold subN; omega)
  refine s_appW or2 e14.size iLd (by rw [List.length_append, List.length_take, List.length_drop]; omega) fun r3 h15 k15 or3 => ?_
  have e15 : Ext h12 h15 := Keep.trans e14 k15
  have hwant : LL.take i.toNat ++ M ++ LL.drop (i + d).toNat = u.list := by rw [lu, lt]
  have hWu : (word S).W u.list ≤ 4 + (word S).W L + (word S).W M := by
    rw [← hwant, W_append, W_append]
    have := W_two (I := word S) LL (i := i.toNat) (j := (i + d).toNat) (by omega)
    omega
  have or3' : OwnW S h12.size h15 r3 u.list := by rw [← hwant]; exact or3
  have iU := own_its or3'
  have e1015 := e1012.trans e15
  refine s_getT (oT.ext e1015) ?_
  rw [add_ok (a := (LL.length : Int)) (by omega) (by omega)]
  refine wp_call (w_ReplaceNo (i := Int.ofNat 0) (j := (LL.length : Int) + 1) (nt.ext (e10.trans e1015)) (by unfold Placed; omega)) fun y h16 e16 hy => ?_
  obtain ⟨⟨(pz : Option Addr), w7⟩, (ez : Int), w8⟩ := y
  obtain ⟨hez, _⟩ := hy
  dsimp only at hez ⊢
  subst ez
  refine pT fun h17 e17 oZ => ?_
  have e1517 := e16.trans e17
  have e0_17 : Ext h h17 := e06.trans (e612.trans (e15.trans e1517))
  have nT17 : Nd (word S) h17 p t := nt.ext (e10.trans (e1015.trans e1517))
  have oT17 := oT.ext (e1015.trans e1517)
  have iL17 : Its (word S) h17 lw t.list := by rw [lt]; exact iL.ext (e612.trans (e15.trans e1517))
  have wT : ∀ {h'} {g m : Int}, Ext h17 h' → Gives P (F_law4_wordy S (p, ()) lw g m) [.one .bool] h' fun (y : Bool × Unit) _ => y.1 = true := fun e => c_wordy D (nT17.ext e) (iL17.ext e) (by omega)
  refine bind_bool False ?_ fun b h18 e18 hb18 => ?_
  · refine wp_call c_num fun y k1 d1 hy => ?_
    obtain ⟨(y : Int), w⟩ := y
    dsimp only at hy ⊢
    subst y
    refine s_ifF (wp_call c_num fun y k2 d2 hy => ?_)
    obtain ⟨(y : Int), w⟩ := y
    dsimp only at hy ⊢
    subst y
    have d12 := d1.trans d2
    refine s_ifF (s_getT (oU.ext (e15.trans (e1517.trans d12))) (wp_call (c_wordy D (nu.ext (e12.trans (e15.trans (e1517.trans d12)))) (iU.ext (e1517.trans d12)) (by omega)) fun y k3 d3 hy => ?_))
    obtain ⟨(y : Bool), w⟩ := y
    dsimp only at hy ⊢
    subst y
    exact s_ret ⟨rfl, d12.trans d3, false, rfl, Iff.intro (fun x => by cases x) False.elim⟩
  obtain rfl := bool_false hb18.1
  dsimp only
  refine s_ifF ?_
  rw [sub_ok (a := (LL.length : Int)) (by omega) (by omega)]
  refine s_newL [-1, 0, -9223372036854775808, 1, 1, 0, (LL.length : Int), (LL.length : Int) - 1, (LL.length : Int) + 1, (LL.length : Int) + 1, 0, 9223372036854775807, 9223372036854775807, -9223372036854775808] (by simp) fun h19 e19 c19 => ?_
  have hends : ∀ z : Nat, z < 7 → ∃ f g, ([-1, 0, -9223372036854775808, 1, 1, 0, (LL.length : Int), (LL.length : Int) - 1, (LL.length : Int) + 1, (LL.length : Int) + 1, 0, 9223372036854775807, 9223372036854775807, -9223372036854775808] : List Int)[z * 2 + 0]? = some f ∧
      ([-1, 0, -9223372036854775808, 1, 1, 0, (LL.length : Int), (LL.length : Int) - 1, (LL.length : Int) + 1, (LL.length : Int) + 1, 0, 9223372036854775807, 9223372036854775807, -9223372036854775808] : List Int)[z * 2 + 1]? = some g ∧ ¬ Placed f g t.list.length := by
    intro z hz
    unfold Placed
    match z, hz with
    | 0, _ => exact ⟨_, _, rfl, rfl, by omega⟩
    | 1, _ => exact ⟨_, _, rfl, rfl, by omega⟩
    | 2, _ => exact ⟨_, _, rfl, rfl, by omega⟩
    | 3, _ => exact ⟨_, _, rfl, rfl, by omega⟩
    | 4, _ => exact ⟨_, _, rfl, rfl, by omega⟩
    | 5, _ => exact ⟨_, _, rfl, rfl, by omega⟩
    | 6, _ => exact ⟨_, _, rfl, rfl, by omega⟩
  generalize ([-1, 0, -9223372036854775808, 1, 1, 0, (LL.length : Int), (LL.length : Int) - 1, (LL.length : Int) + 1, (LL.length : Int) + 1, 0, 9223372036854775807, 9223372036854775807, -9223372036854775808] : List Int) = ends at c19 hends
  have e1719 := e18.trans e19
  refine wp_while (fun (r : Int × Unit) h' => Ext h19 h' ∧ 0 ≤ r.1 ∧ r.1 ≤ 7) (fun r _ => (7 - r.1).toNat) (fun tg vs h' => tg = 10 ∧ vs = [] ∧ Ext h19 h') ⟨Ext.refl _, by simp, by simp⟩ ?_ ?_
  · rintro ⟨(z : Int), u'⟩ h20 ⟨e20, z0, z1⟩
    dsimp only at z0 z1 ⊢
    refine wp_ifB (fun hd => ?_) fun hd => s_ret ⟨fun h => absurd h (by decide), fun _ => ⟨rfl, rfl, e20⟩⟩
    rw [ltI_iff] at hd
    obtain ⟨f, g, hf, hg, hno⟩ := hends z.toNat (by omega)
    have c20 := e20.cells c19
    have oT20 := oT17.ext (e1719.trans e20)
    have n20 := nT17.ext (e1719.trans e20)
    refine bind_val (tys := [.one .ptr, .one (.int .i64)]) (fun (y : Option Addr × Int × Unit) h' => ∃ a m, y.1 = some a ∧ y.2.1 = 1 ∧ Own m 1 h' ⟨some a, 1, 1⟩ [.pointer none]) ⟨?_, ?_⟩ fun y h21 e21 hy => ?_
    · refine s_getT oT20 (s_pair c20 z0 hd hf (s_pair c20 z0 hd hg (wp_call (w_ReplaceNo n20 hno) fun y k1 d1 hy => ?_)))
      obtain ⟨⟨(q : Option Addr), w⟩, (e : Int), w'⟩ := y
      obtain ⟨he, hq⟩ := hy
      dsimp only at he hq ⊢
      subst e; subst q
      refine s_newP none fun k2 d2 oN => s_pairCk ((d1.trans d2).cells c20) hg (s_pairCk ((d1.trans d2).cells c20) hf (s_ckP (oT20.ext (d1.trans d2)) (s_putP none oN fun k3 o3 u3 => ?_)))
      exact s_ret ⟨rfl, Upd.extN (d1.trans d2) u3 (by intro a ha; cases ha; exact d1.size), (some ⟨k1.size, 0, none⟩, 1, ()), rfl, _, _, rfl, rfl, o3⟩
    · refine s_getT oT20 (s_pair c20 z0 hd hf (s_pair c20 z0 hd hg (s_newP none fun k1 d1 oN => s_pairCk (d1.cells c20) hg (s_pairCk (d1.cells c20) hf (s_ckP (oT20.ext d1) (wp_call (w_ReplaceNo (n20.ext d1) hno) fun y k2 d2 hy => ?_))))))
      obtain ⟨⟨(q : Option Addr), w⟩, (e : Int), w'⟩ := y
      obtain ⟨he, hq⟩ := hy
      dsimp only at he hq ⊢
      subst e; subst q
      refine s_putP none (oN.ext d2) fun k3 o3 u3 => ?_
      exact s_ret ⟨rfl, Upd.extN (d1.trans d2) u3 (by intro a ha; cases ha; exact Nat.le_refl _), (some ⟨h20.size, 0, none⟩, 1, ()), rfl, _, _, rfl, rfl, o3⟩
    obtain ⟨y1, (y2 : Int), w⟩ := y
    obtain ⟨a, m, hy1, hy2, oN⟩ := hy
    dsimp only at hy1 hy2 ⊢
    subst y1; subst y2
    refine bind_bool False ?_ fun b h22 e22 hb22 => ?_
    · refine wp_call c_num fun y k1 d1 hy => ?_
      obtain ⟨(y : Int), w⟩ := y
      dsimp only at hy ⊢
      subst y
      refine s_ifF (s_getT (oN.ext d1) (wp_call (w_Size (t := .nil) (p := none) rfl) fun y k2 d2 hy => ?_))
      obtain ⟨(y : Int), w⟩ := y
      dsimp only at hy ⊢
      refine s_ret ⟨rfl, d1.trans d2, _, rfl, Iff.intro (fun hx => absurd ?_ (neI_iff.1 hx)) False.elim⟩
      rw [hy]; rfl
    obtain rfl := bool_false hb22.1
    dsimp only
    refine s_ifF ?_
    rw [add_ok (a := z) (by omega) (by omega)]
    exact s_ret ⟨fun _ => ⟨(z + 1, ()), rfl, ⟨(e20.trans e21).trans e22, by dsimp only; omega, by dsimp only; omega⟩, by dsimp only; omega⟩, fun h => absurd rfl h⟩
  rintro tg vs h20 ⟨rfl, rfl, e20⟩
  have e1720 := e1719.trans e20
  refine s_tag (s_cast0 (wp_while (fun (r : Int × Unit) h' => Ext h20 h' ∧ -2 ≤ r.1 ∧ r.1 ≤ 13) (fun r _ => (13 - r.1).toNat) (fun tg vs h' => tg = 12 ∧ vs = [] ∧ Ext h20 h') ⟨Ext.refl _, by simp, by simp⟩ ?_ ?_))
  · rintro ⟨(g : Int), u'⟩ h21 ⟨e21, g0, g1⟩
    dsimp only at g0 g1 ⊢
    refine wp_ifB (fun hd => ?_) fun hd => s_ret ⟨fun h => absurd h (by decide), fun _ => ⟨rfl, rfl, e21⟩⟩
    rw [ltI_iff] at hd
    refine s_getT (oT17.ext (e1720.trans e21)) (wp_call (wT (e1720.trans e21)) fun y h22 e22 hy => ?_)
    obtain ⟨(y : Bool), w⟩ := y
    dsimp only at hy ⊢
    subst y
    refine s_ifF ?_
    rw [add_ok (a := g) (by omega) (by omega)]
    exact s_ret ⟨fun _ => ⟨(g + 1, ()), rfl, ⟨e21.trans e22, by dsimp only; omega, by dsimp only; omega⟩, by dsimp only; omega⟩, fun h => absurd rfl h⟩
  rintro tg vs h21 ⟨rfl, rfl, e21⟩
  have e1721 := e1720.trans e21
  refine s_tag (s_cast0 (bind_val (tys := [.one .bool]) (fun (x : Bool × Unit) _ => x.1 = true) ?_ fun x h22 e22 hx => s_ret ⟨rfl, (e0_17.trans e1721).trans e22, (x.1, ()), rfl, hx⟩))
  refine s_getT (oT17.ext e1721) (wp_call (wT e1721) fun y k1 d1 hy => ?_)
  obtain ⟨(y : Bool), w⟩ := y
  dsimp only at hy ⊢
  subst y
  refine s_ifT (s_getT (oT17.ext (e1721.trans d1)) (wp_call (wT (e1721.trans d1)) fun y k2 d2 hy => ?_))
  exact s_ret ⟨rfl, d1.trans d2, (y.1, ()), rfl, hy⟩

end Go.Sw.Words
