/-
  Codec: plain laws: what was read is put as it was; what was put is read as it was.
-/
import Derived.Test.YtfgknhffpccamaaSwC10
set_option linter.unusedVariables false
set_option linter.unusedSimpArgs false
set_option maxRecDepth 100000
namespace Go.Sw.Codec

theorem begF_take {l m : List Int} (h : begF l 0 m = true) : m = l.take m.length := by
  unfold begF at h; simpa using (of_decide_eq_true h).symm

/-- UTF-8's first atom, either way. -/
theorem first8_cases {l : List Int} (hb : isBytes l) (hl : 0 < l.length) :
    (∃ m : Nat, 1 ≤ m ∧ m ≤ 4 ∧ m ≤ l.length ∧ rowF l = ((m : Int), (m : Int)) ∧ cand m l ∧ first8 l = (meantF m l, (m : Int))) ∨
    ((∀ m : Nat, 1 ≤ m → m ≤ 4 → m ≤ l.length → rowF l ≠ ((m : Int), (m : Int))) ∧ first8 l = (-1 - l.getD 0 0, 1)) := by
  by_cases h : ∃ m : Nat, 1 ≤ m ∧ m ≤ 4 ∧ m ≤ l.length ∧ rowF l = ((m : Int), (m : Int))
  · obtain ⟨m, h1, h4, hm, hr⟩ := h
    exact .inl ⟨m, h1, h4, hm, hr, (cand_iff hb h1 h4 hm).2 hr, meant_val hb h1 h4 hr⟩
  · have hn : ∀ m : Nat, 1 ≤ m → m ≤ 4 → m ≤ l.length → rowF l ≠ ((m : Int), (m : Int)) := fun m h1 h4 hm hr => h ⟨m, h1, h4, hm, hr⟩
    exact .inr ⟨hn, raw_val hb hl hn⟩

theorem raw_high {l : List Int} (hb : isBytes l) (hl : 0 < l.length) (hn : ∀ m : Nat, 1 ≤ m → m ≤ 4 → m ≤ l.length → rowF l ≠ ((m : Int), (m : Int))) : 128 ≤ l.getD 0 0 := by
  have b0 := hb.at 0
  by_cases h : l.getD 0 0 < 128
  · exfalso
    refine hn 1 (by omega) (by omega) (by omega) ?_
    unfold rowF
    rw [row_is b0.1 b0.2 _ (by omega)]
    exact .inl ⟨rfl, h⟩
  · omega

theorem take_one {l : List Int} (hl : 0 < l.length) : l.take 1 = [l.getD 0 0] := by
  match l, hl with
  | x :: r, _ => rfl
theorem take_two {l : List Int} (hl : 2 ≤ l.length) : l.take 2 = [l.getD 0 0, l.getD 1 0] := by
  match l, hl with
  | x :: y :: r, _ => rfl
theorem take_four {l : List Int} (hl : 4 ≤ l.length) : l.take 4 = [l.getD 0 0, l.getD 1 0, l.getD 2 0, l.getD 3 0] := by
  match l, hl with
  | x :: y :: z :: w :: r, _ => rfl

/-- What is read is put as it was. -/
theorem first_put {enc : Int} (he : known enc) {l : List Int} (hb : isBytes l) (hl : 0 < l.length) :
    0 < sizeF enc (firstF enc l).1 ∧ putF enc (firstF enc l).1 = l.take (firstF enc l).2.toNat := by
  have b0 := hb.at 0
  have b1 := hb.at 1
  have b2 := hb.at 2
  have b3 := hb.at 3
  unfold firstF
  rcases known_cases he with rfl | h23 | h23 | rfl
  · rw [if_pos rfl]
    rcases first8_cases hb hl with ⟨m, h1, h4, hm, hr, hc, hf⟩ | ⟨hn, hf⟩
    · rw [hf]
      dsimp only
      obtain ⟨c1, c2, c3⟩ := hc
      unfold scalarF at c1
      refine ⟨(fits_iff _ _).2 (by omega), ?_⟩
      unfold putF
      rw [if_neg (by omega), if_pos rfl, Int.toNat_natCast]
      have := begF_take c3
      rwa [c2] at this
    · have h128 := raw_high hb hl hn
      rw [hf]
      dsimp only
      refine ⟨(fits_iff _ _).2 (by omega), ?_⟩
      unfold putF
      rw [if_pos (by omega), show (1 : Int).toNat = 1 from rfl, take_one hl]
      congr 1; omega
  · subst h23
    rw [if_neg (by decide), if_neg (by decide)]
    unfold first16
    by_cases h1 : l.length = 1
    · rw [if_pos h1]
      dsimp only
      refine ⟨(fits_iff _ _).2 (by omega), ?_⟩
      unfold putF
      rw [if_pos (by omega), show (1 : Int).toNat = 1 from rfl, take_one hl]
      congr 1; omega
    rw [if_neg h1]
    have u0 := unit_bound (enc := 2) hb 0
    have u2 := unit_bound (enc := 2) hb 2
    by_cases hp : 55296 ≤ unitF 2 l 0 ∧ unitF 2 l 0 < 56320 ∧ 4 ≤ l.length ∧ 56320 ≤ unitF 2 l 2 ∧ unitF 2 l 2 < 57344
    · rw [if_pos hp]
      dsimp only
      refine ⟨(fits_iff _ _).2 (by omega), ?_⟩
      unfold putF
      rw [if_neg (by omega), if_neg (by decide), if_neg (by decide), if_pos (by omega), show (4 : Int).toNat = 4 from rfl, take_four hp.2.2.1]
      have e1 : 55296 + (65536 + (unitF 2 l 0 - 55296) * 1024 + (unitF 2 l 2 - 56320) - 65536) / 1024 = unitF 2 l 0 := by omega
      have e2 : 56320 + (65536 + (unitF 2 l 0 - 55296) * 1024 + (unitF 2 l 2 - 56320)) % 1024 = unitF 2 l 2 := by omega
      rw [e1, e2]
      simp only [unitF, unitB, Int.reduceEq, if_true, if_false, List.cons_append, List.nil_append, Nat.reduceAdd]
      congr 1; omega
      congr 1; omega
      congr 1; omega
      congr 1; omega
    · rw [if_neg hp]
      dsimp only
      refine ⟨(fits_iff _ _).2 (by omega), ?_⟩
      unfold putF
      rw [if_neg (by omega), if_neg (by decide), if_neg (by decide), if_neg (by omega), show (2 : Int).toNat = 2 from rfl, take_two (by omega)]
      simp only [unitF, unitB, Int.reduceEq, if_true, if_false, Nat.reduceAdd]
      congr 1; omega
      congr 1; omega
  · subst h23
    rw [if_neg (by decide), if_neg (by decide)]
    unfold first16
    by_cases h1 : l.length = 1
    · rw [if_pos h1]
      dsimp only
      refine ⟨(fits_iff _ _).2 (by omega), ?_⟩
      unfold putF
      rw [if_pos (by omega), show (1 : Int).toNat = 1 from rfl, take_one hl]
      congr 1; omega
    rw [if_neg h1]
    have u0 := unit_bound (enc := 3) hb 0
    have u2 := unit_bound (enc := 3) hb 2
    by_cases hp : 55296 ≤ unitF 3 l 0 ∧ unitF 3 l 0 < 56320 ∧ 4 ≤ l.length ∧ 56320 ≤ unitF 3 l 2 ∧ unitF 3 l 2 < 57344
    · rw [if_pos hp]
      dsimp only
      refine ⟨(fits_iff _ _).2 (by omega), ?_⟩
      unfold putF
      rw [if_neg (by omega), if_neg (by decide), if_neg (by decide), if_pos (by omega), show (4 : Int).toNat = 4 from rfl, take_four hp.2.2.1]
      have e1 : 55296 + (65536 + (unitF 3 l 0 - 55296) * 1024 + (unitF 3 l 2 - 56320) - 65536) / 1024 = unitF 3 l 0 := by omega
      have e2 : 56320 + (65536 + (unitF 3 l 0 - 55296) * 1024 + (unitF 3 l 2 - 56320)) % 1024 = unitF 3 l 2 := by omega
      rw [e1, e2]
      simp only [unitF, unitB, Int.reduceEq, if_true, if_false, List.cons_append, List.nil_append, Nat.reduceAdd]
      congr 1; omega
      congr 1; omega
      congr 1; omega
      congr 1; omega
    · rw [if_neg hp]
      dsimp only
      refine ⟨(fits_iff _ _).2 (by omega), ?_⟩
      unfold putF
      rw [if_neg (by omega), if_neg (by decide), if_neg (by decide), if_neg (by omega), show (2 : Int).toNat = 2 from rfl, take_two (by omega)]
      simp only [unitF, unitB, Int.reduceEq, if_true, if_false, Nat.reduceAdd]
      congr 1; omega
      congr 1; omega
  · rw [if_neg (by decide), if_pos rfl]
    dsimp only
    refine ⟨(fits_iff _ _).2 (by omega), ?_⟩
    unfold putF
    rw [if_neg (by omega), if_neg (by decide), if_pos rfl, show (1 : Int).toNat = 1 from rfl, take_one hl]

/-- All that is read is put as it was. -/
theorem dec_put {enc : Int} (he : known enc) : ∀ (n : Nat) (l : List Int), l.length = n → isBytes l → (∀ a, a ∈ dec enc l → 0 < sizeF enc a) ∧ (dec enc l).flatMap (putF enc) = l := by
  intro n
  induction n using Nat.strongRecOn with
  | ind n ih =>
    intro l hn hb
    by_cases hz : l.length = 0
    · rw [dec_nil hz]
      have : l = [] := List.length_eq_zero_iff.1 hz
      subst this
      simp
    · have hs := firstF_size (enc := enc) (l := l) (by omega) hb
      obtain ⟨f1, f2⟩ := first_put he hb (l := l) (by omega)
      obtain ⟨i1, i2⟩ := ih (l.drop (firstF enc l).2.toNat).length (by rw [List.length_drop]; omega) _ rfl (hb.drop _)
      rw [dec_cons hb (by omega)]
      refine ⟨fun a ha => ?_, ?_⟩
      · rcases List.mem_cons.1 ha with rfl | ha
        · exact f1
        · exact i1 a ha
      · rw [List.flatMap_cons, i2, f2, List.take_append_drop]

theorem bytes_put {enc a : Int} (hf : 0 < sizeF enc a) : isBytes (putF enc a) := by
  have hu := (fits_iff enc a).1 hf
  intro x hx
  rw [fits_u8]
  unfold putF eightB unitB at hx
  (repeat' split at hx) <;> simp at hx <;> omega
theorem bytes_append {l m : List Int} (hl : isBytes l) (hm : isBytes m) : isBytes (l ++ m) := fun x hx => (List.mem_append.1 hx).elim (hl x) (hm x)
theorem bytes_flat {enc : Int} {l : List Int} (hf : ∀ a, a ∈ l → 0 < sizeF enc a) : isBytes (l.flatMap (putF enc)) := by
  intro x hx
  obtain ⟨a, ha, hx⟩ := List.mem_flatMap.1 hx
  exact bytes_put (hf a ha) x hx

/-- A scalar that was put is read, whatever comes behind it. -/
theorem first_of_put {enc a : Int} (he : known enc) (hf : 0 < sizeF enc a) (hs : scalarF a) {r : List Int} (hr : isBytes r) : firstF enc (putF enc a ++ r) = (a, sizeF enc a) := by
  have hb := bytes_append (bytes_put hf) hr
  have hlen := putF_len hf
  have hu := (fits_iff enc a).1 hf
  unfold scalarF at hs
  unfold firstF
  rcases known_cases he with rfl | h23 | h23 | rfl
  · rw [if_pos rfl]
    have hput : putF 1 a = eightB a := by unfold putF; rw [if_neg (by omega), if_pos rfl]
    rw [hput] at hb hlen ⊢
    have hll := len_eight a
    have hm : meantF (eightB a).length (eightB a ++ r) = a := by
      unfold meantF eightB
      by_cases h1 : a < 128
      · simp [h1, mtP, leadF]
      by_cases h2 : a < 2048
      · simp [h1, h2, mtP, leadF]; omega
      by_cases h3 : a < 65536
      · simp [h1, h2, h3, mtP, leadF]; omega
      · simp [h1, h2, h3, mtP, leadF]; omega
    have hlb : 1 ≤ (eightB a).length ∧ (eightB a).length ≤ 4 := by rw [hll]; (repeat' split) <;> omega
    have hc : cand (eightB a).length (eightB a ++ r) := by
      refine ⟨by rw [hm]; unfold scalarF; omega, by rw [hm], ?_⟩
      rw [hm]; unfold begF; rw [decide_eq_true_eq, List.drop_zero]; exact List.take_left' rfl
    have hrow := (cand_iff hb hlb.1 hlb.2 (by rw [List.length_append]; omega)).1 hc
    rw [meant_val hb hlb.1 hlb.2 hrow, hm, hlen]
  · subst h23
    rw [if_neg (by decide), if_neg (by decide)]
    by_cases h4 : 65536 ≤ a
    · have hput : putF 2 a = unitB 2 (55296 + (a - 65536) / 1024) ++ unitB 2 (56320 + a % 1024) := by
        unfold putF; rw [if_neg (by omega), if_neg (by decide), if_neg (by decide), if_pos h4]
      rw [hput] at hlen ⊢
      rw [← hlen]
      have e0 : unitF 2 (unitB 2 (55296 + (a - 65536) / 1024) ++ unitB 2 (56320 + a % 1024) ++ r) 0 = 55296 + (a - 65536) / 1024 := by
        simp [unitF, unitB]; omega
      have e2 : unitF 2 (unitB 2 (55296 + (a - 65536) / 1024) ++ unitB 2 (56320 + a % 1024) ++ r) 2 = 56320 + a % 1024 := by
        simp [unitF, unitB]; omega
      unfold first16
      rw [e0, e2, List.length_append, List.length_append, unitB_len, unitB_len, if_neg (by omega), if_pos (by omega)]
      refine Prod.ext ?_ rfl
      dsimp only; omega
    · have hput : putF 2 a = unitB 2 a := by
        unfold putF; rw [if_neg (by omega), if_neg (by decide), if_neg (by decide), if_neg h4]
      rw [hput] at hlen ⊢
      rw [← hlen]
      have e0 : unitF 2 (unitB 2 a ++ r) 0 = a := by
        simp [unitF, unitB]; omega
      unfold first16
      rw [e0, List.length_append, unitB_len, if_neg (by omega), if_neg (by omega)]
      rfl
  · subst h23
    rw [if_neg (by decide), if_neg (by decide)]
    by_cases h4 : 65536 ≤ a
    · have hput : putF 3 a = unitB 3 (55296 + (a - 65536) / 1024) ++ unitB 3 (56320 + a % 1024) := by
        unfold putF; rw [if_neg (by omega), if_neg (by decide), if_neg (by decide), if_pos h4]
      rw [hput] at hlen ⊢
      rw [← hlen]
      have e0 : unitF 3 (unitB 3 (55296 + (a - 65536) / 1024) ++ unitB 3 (56320 + a % 1024) ++ r) 0 = 55296 + (a - 65536) / 1024 := by
        simp [unitF, unitB]; omega
      have e2 : unitF 3 (unitB 3 (55296 + (a - 65536) / 1024) ++ unitB 3 (56320 + a % 1024) ++ r) 2 = 56320 + a % 1024 := by
        simp [unitF, unitB]; omega
      unfold first16
      rw [e0, e2, List.length_append, List.length_append, unitB_len, unitB_len, if_neg (by omega), if_pos (by omega)]
      refine Prod.ext ?_ rfl
      dsimp only; omega
    · have hput : putF 3 a = unitB 3 a := by
        unfold putF; rw [if_neg (by omega), if_neg (by decide), if_neg (by decide), if_neg h4]
      rw [hput] at hlen ⊢
      rw [← hlen]
      have e0 : unitF 3 (unitB 3 a ++ r) 0 = a := by
        simp [unitF, unitB]; omega
      unfold first16
      rw [e0, List.length_append, unitB_len, if_neg (by omega), if_neg (by omega)]
      rfl
  · rw [if_neg (by decide), if_pos rfl]
    have hput : putF 4 a = [a] := by unfold putF; rw [if_neg (by omega), if_neg (by decide), if_pos rfl]
    rw [hput] at hlen ⊢
    rw [← hlen]; rfl

theorem dec_of_put {enc : Int} (he : known enc) : ∀ {l : List Int}, (∀ a, a ∈ l → 0 < sizeF enc a ∧ scalarF a) → dec enc (l.flatMap (putF enc)) = l := by
  intro l
  induction l with
  | nil => intro _; rfl
  | cons a l ih =>
    intro h
    obtain ⟨h1, h2⟩ := h a (List.mem_cons_self ..)
    have hl := ih fun b hb => h b (List.mem_cons_of_mem _ hb)
    have hbl : isBytes (l.flatMap (putF enc)) := bytes_flat fun b hb => (h b (List.mem_cons_of_mem _ hb)).1
    have hp := size_of_fits h1
    rw [List.flatMap_cons, dec_cons (bytes_append (bytes_put h1) hbl) (by rw [List.length_append]; omega), first_of_put he h1 h2 hbl]
    dsimp only
    rw [← hp, List.drop_left' rfl, hl]
end Go.Sw.Codec
