/-
  Codec: the first atom of bytes: plain laws.
-/
import Derived.Test.YtfgknhffpccamaaSwC7
set_option linter.unusedVariables false
set_option linter.unusedSimpArgs false
set_option maxRecDepth 100000
namespace Go.Sw.Codec

def boundsF (c : Int) : Int × Int × Int :=
  if c < 128 then (1, 0, 0) else if c < 194 then (0, 0, 0) else if c < 224 then (2, 128, 191) else if c = 224 then (3, 160, 191) else if c = 237 then (3, 128, 159)
  else if c < 240 then (3, 128, 191) else if c = 240 then (4, 144, 191) else if c < 244 then (4, 128, 191) else if c = 244 then (4, 128, 143) else (0, 0, 0)
def contF (x : Int) : Prop := 128 ≤ x ∧ x ≤ 191
instance (x : Int) : Decidable (contF x) := inferInstanceAs (Decidable (_ ∧ _))

/-- How many of the first bytes go with the row, how long the row is. -/
def rowG (b0 b1 b2 b3 : Int) : Int × Int :=
  if (boundsF b0).1 < 2 then ((boundsF b0).1, (boundsF b0).1)
  else if ¬ ((boundsF b0).2.1 ≤ b1 ∧ b1 ≤ (boundsF b0).2.2) then (1, (boundsF b0).1)
  else if (boundsF b0).1 = 2 ∨ ¬ contF b2 then (2, (boundsF b0).1)
  else if (boundsF b0).1 = 3 ∨ ¬ contF b3 then (3, (boundsF b0).1)
  else (4, (boundsF b0).1)
def rowF (l : List Int) : Int × Int := rowG (l.getD 0 0) (l.getD 1 0) (l.getD 2 0) (l.getD 3 0)

def maskF (n b0 : Int) : Int := if n = 2 then b0 % 32 else if n = 3 then b0 % 16 else if n = 4 then b0 % 8 else b0
def valP (a : Int) (l : List Int) : Nat → Int
  | 0 => a
  | i + 1 => valP a l i * 64 + l.getD (i + 1) 0 % 64

def first8 (l : List Int) : Int × Int :=
  if (rowF l).2 = 0 ∨ (rowF l).1 < (rowF l).2 then (-1 - l.getD 0 0, 1) else (valP (maskF (rowF l).2 (l.getD 0 0)) l ((rowF l).2 - 1).toNat, (rowF l).2)

def unitF (enc : Int) (l : List Int) (i : Nat) : Int := if enc = 2 then l.getD i 0 + 256 * l.getD (i + 1) 0 else 256 * l.getD i 0 + l.getD (i + 1) 0
def first16 (enc : Int) (l : List Int) : Int × Int :=
  if l.length = 1 then (-1 - l.getD 0 0, 1)
  else if 55296 ≤ unitF enc l 0 ∧ unitF enc l 0 < 56320 ∧ 4 ≤ l.length ∧ 56320 ≤ unitF enc l 2 ∧ unitF enc l 2 < 57344 then (65536 + (unitF enc l 0 - 55296) * 1024 + (unitF enc l 2 - 56320), 4)
  else (unitF enc l 0, 2)

def firstF (enc : Int) (l : List Int) : Int × Int := if enc = 1 then first8 l else if enc = 4 then (l.getD 0 0, 1) else first16 enc l

def isBytes (l : List Int) : Prop := ∀ x, x ∈ l → fitsI .u8 x
theorem isBytes.at {l : List Int} (h : isBytes l) (i : Nat) : 0 ≤ l.getD i 0 ∧ l.getD i 0 ≤ 255 := by
  rw [List.getD_eq_getElem?_getD]
  cases hi : l[i]? with
  | none => exact ⟨by decide, by decide⟩
  | some x => exact fits_u8.1 (h x (List.mem_of_getElem? hi))
theorem isBytes.drop {l : List Int} (h : isBytes l) (i : Nat) : isBytes (l.drop i) := fun x hx => h x (List.mem_of_mem_drop hx)
theorem isBytes.take {l : List Int} (h : isBytes l) (i : Nat) : isBytes (l.take i) := fun x hx => h x (List.mem_of_mem_take hx)
theorem getD_drop (l : List Int) (a i : Nat) : (l.drop a).getD i 0 = l.getD (a + i) 0 := by
  rw [List.getD_eq_getElem?_getD, List.getD_eq_getElem?_getD, List.getElem?_drop]
theorem lt_of_getD {l : List Int} {i : Nat} (h : l.getD i 0 ≠ 0) : i < l.length := by
  by_cases hlt : i < l.length
  · exact hlt
  · rw [List.getD_eq_getElem?_getD, List.getElem?_eq_none (by omega)] at h; exact absurd rfl h

theorem bounds_n (c : Int) (h0 : 0 ≤ c) (h1 : c ≤ 255) : 0 ≤ (boundsF c).1 ∧ (boundsF c).1 ≤ 4 ∧ ((boundsF c).1 < 2 ∨ 128 ≤ (boundsF c).2.1) := by
  unfold boundsF; (repeat' split) <;> simp

theorem rowG_le (b0 b1 b2 b3 : Int) (h0 : 0 ≤ b0) (h1 : b0 ≤ 255) : (rowG b0 b1 b2 b3).2 = (boundsF b0).1 ∧ (rowG b0 b1 b2 b3).1 ≤ (rowG b0 b1 b2 b3).2 ∧ 0 ≤ (rowG b0 b1 b2 b3).1 := by
  have := bounds_n b0 h0 h1
  unfold rowG
  generalize (boundsF b0).1 = n at *
  generalize (boundsF b0).2.1 = lo at *
  generalize (boundsF b0).2.2 = hi at *
  (repeat' split) <;> simp <;> omega

/-- What a whole row has. -/
theorem row_whole {b0 b1 b2 b3 : Int} (h : (rowG b0 b1 b2 b3).1 = (rowG b0 b1 b2 b3).2) : (2 ≤ (rowG b0 b1 b2 b3).2 → 128 ≤ b1) ∧ (3 ≤ (rowG b0 b1 b2 b3).2 → 128 ≤ b2) ∧ (4 ≤ (rowG b0 b1 b2 b3).2 → 128 ≤ b3) := by
  have hb : (boundsF b0).1 < 2 ∨ 128 ≤ (boundsF b0).2.1 := by unfold boundsF; (repeat' split) <;> simp
  unfold rowG contF at *
  generalize (boundsF b0).1 = n at *
  generalize (boundsF b0).2.1 = lo at *
  generalize (boundsF b0).2.2 = hi at *
  (repeat' split at h) <;> (repeat' split) <;> simp at * <;> omega

theorem row_have {b0 b1 b2 b3 : Int} (hn : 2 ≤ (rowG b0 b1 b2 b3).2) : (2 ≤ (rowG b0 b1 b2 b3).1 → 128 ≤ b1) ∧ (3 ≤ (rowG b0 b1 b2 b3).1 → 128 ≤ b2) ∧ (4 ≤ (rowG b0 b1 b2 b3).1 → 128 ≤ b3) ∧ 1 ≤ (rowG b0 b1 b2 b3).1 := by
  have hb : (boundsF b0).1 < 2 ∨ 128 ≤ (boundsF b0).2.1 := by unfold boundsF; (repeat' split) <;> simp
  unfold rowG contF at *
  generalize (boundsF b0).1 = n at *
  generalize (boundsF b0).2.1 = lo at *
  generalize (boundsF b0).2.2 = hi at *
  (repeat' split at hn) <;> (repeat' split) <;> simp at * <;> omega

theorem row_len {l : List Int} (hl : 0 < l.length) (hb : isBytes l) : (rowF l).1 ≤ l.length ∨ (rowF l).2 < 2 := by
  by_cases hn : 2 ≤ (rowF l).2
  · left
    unfold rowF at *
    obtain ⟨h1, h2, h3, h4⟩ := row_have hn
    have h01 := hb.at 0
    have hle := rowG_le (l.getD 0 0) (l.getD 1 0) (l.getD 2 0) (l.getD 3 0) h01.1 h01.2
    have hbn := bounds_n (l.getD 0 0) h01.1 h01.2
    generalize hr : rowG (l.getD 0 0) (l.getD 1 0) (l.getD 2 0) (l.getD 3 0) = r at *
    have k1 : 2 ≤ r.1 → 1 < l.length := fun h => lt_of_getD (by have := h1 h; omega)
    have k2 : 3 ≤ r.1 → 2 < l.length := fun h => lt_of_getD (by have := h2 h; omega)
    have k3 : 4 ≤ r.1 → 3 < l.length := fun h => lt_of_getD (by have := h3 h; omega)
    omega
  · right; omega

theorem first8_size {l : List Int} (hl : 0 < l.length) (hb : isBytes l) : 1 ≤ (first8 l).2 ∧ (first8 l).2 ≤ 4 ∧ (first8 l).2 ≤ l.length := by
  have h01 := hb.at 0
  have hle := rowG_le (l.getD 0 0) (l.getD 1 0) (l.getD 2 0) (l.getD 3 0) h01.1 h01.2
  have hbn := bounds_n (l.getD 0 0) h01.1 h01.2
  have hrl := row_len hl hb
  unfold first8
  have hr : rowF l = rowG (l.getD 0 0) (l.getD 1 0) (l.getD 2 0) (l.getD 3 0) := rfl
  rw [← hr] at hle
  split
  · simp; omega
  · dsimp only; omega
theorem first16_size {enc : Int} {l : List Int} (hl : 0 < l.length) : 1 ≤ (first16 enc l).2 ∧ (first16 enc l).2 ≤ 4 ∧ (first16 enc l).2 ≤ l.length := by
  unfold first16; (repeat' split) <;> simp <;> omega
theorem firstF_size {enc : Int} {l : List Int} (hl : 0 < l.length) (hb : isBytes l) : 1 ≤ (firstF enc l).2 ∧ (firstF enc l).2 ≤ 4 ∧ (firstF enc l).2 ≤ l.length := by
  unfold firstF
  (repeat' split)
  · exact first8_size hl hb
  · simp; omega
  · exact first16_size hl

theorem valP_bound {a : Int} {l : List Int} (h0 : 0 ≤ a) (h1 : a < 256) : ∀ i : Nat, 0 ≤ valP a l i ∧ valP a l i < 256 * 64 ^ i := by
  intro i
  induction i with
  | zero => simp [valP]; omega
  | succ i ih =>
    simp only [valP]
    have e : (64 : Int) ^ (i + 1) = 64 ^ i * 64 := by rw [Int.pow_succ]
    rw [e]
    generalize (64 : Int) ^ i = p at *
    omega
theorem valP_small {a : Int} {l : List Int} (h0 : 0 ≤ a) (h1 : a < 256) {i : Nat} (hi : i ≤ 3) : 0 ≤ valP a l i ∧ valP a l i < 67108864 := by
  have := valP_bound (l := l) h0 h1 i
  have : i = 0 ∨ i = 1 ∨ i = 2 ∨ i = 3 := by omega
  rcases this with rfl | rfl | rfl | rfl <;> simp at this ⊢ <;> omega

/-! ### All atoms -/

def decN (enc : Int) : Nat → List Int → List Int
  | 0, _ => []
  | n + 1, l => if l.length = 0 then [] else (firstF enc l).1 :: decN enc n (l.drop (firstF enc l).2.toNat)
def dec (enc : Int) (l : List Int) : List Int := decN enc l.length l

theorem decN_enough {enc : Int} : ∀ (n m : Nat) (l : List Int), isBytes l → l.length ≤ n → l.length ≤ m → decN enc n l = decN enc m l := by
  intro n
  induction n with
  | zero =>
    intro m l hb hn hm
    cases m with
    | zero => rfl
    | succ m => simp only [decN]; rw [if_pos (by omega)]
  | succ n ih =>
    intro m l hb hn hm
    cases m with
    | zero => simp only [decN]; rw [if_pos (by omega)]
    | succ m =>
      simp only [decN]
      by_cases hz : l.length = 0
      · rw [if_pos hz, if_pos hz]
      · rw [if_neg hz, if_neg hz]
        have := firstF_size (enc := enc) (l := l) (by omega) hb
        rw [ih m _ (hb.drop _) (by rw [List.length_drop]; omega) (by rw [List.length_drop]; omega)]
theorem dec_nil {enc : Int} {l : List Int} (h : l.length = 0) : dec enc l = [] := by unfold dec; rw [h]; rfl
theorem dec_cons {enc : Int} {l : List Int} (hb : isBytes l) (h : 0 < l.length) : dec enc l = (firstF enc l).1 :: dec enc (l.drop (firstF enc l).2.toNat) := by
  have := firstF_size (enc := enc) h hb
  unfold dec
  rw [decN_enough l.length (l.length - 1 + 1) l hb (by omega) (by omega)]
  simp only [decN]
  rw [if_neg (by omega), decN_enough (l.length - 1) (l.drop (firstF enc l).2.toNat).length _ (hb.drop _) (by rw [List.length_drop]; omega) (by omega)]
theorem dec_len {enc : Int} : ∀ (n : Nat) (l : List Int), l.length = n → isBytes l → (dec enc l).length ≤ l.length := by
  intro n
  induction n using Nat.strongRecOn with
  | ind n ih =>
    intro l hn hb
    by_cases hz : l.length = 0
    · rw [dec_nil hz]; simp
    · have hs := firstF_size (enc := enc) (l := l) (by omega) hb
      rw [dec_cons hb (by omega)]
      have := ih (l.drop (firstF enc l).2.toNat).length (by rw [List.length_drop]; omega) _ rfl (hb.drop _)
      rw [List.length_drop] at this
      simp only [List.length_cons]; omega

/-! ### The document's way: which scalar has these bytes -/

def leadF (m : Nat) : Int := if m = 2 then 192 else if m = 3 then 224 else if m = 4 then 240 else 0
def mtP (a : Int) (l : List Int) : Nat → Int
  | 0 => a
  | i + 1 => mtP a l i * 64 + l.getD (i + 1) 0 - 128
def meantF (m : Nat) (l : List Int) : Int := mtP (l.getD 0 0 - leadF m) l (m - 1)
def scalarF (a : Int) : Prop := (0 ≤ a ∧ a < 55296) ∨ (57343 < a ∧ a ≤ 1114111)
instance (x : Int) : Decidable (scalarF x) := inferInstanceAs (Decidable (_ ∨ _))
def cand (m : Nat) (l : List Int) : Prop := scalarF (meantF m l) ∧ (eightB (meantF m l)).length = m ∧ begF l 0 (eightB (meantF m l)) = true

theorem beg1 (l : List Int) (a : Int) : begF l 0 [a] = decide (1 ≤ l.length ∧ l.getD 0 0 = a) := by
  unfold begF
  match l with
  | [] => simp
  | x :: r => simp
theorem beg4 (l : List Int) (a b c d : Int) : begF l 0 [a, b, c, d] = decide (4 ≤ l.length ∧ l.getD 0 0 = a ∧ l.getD 1 0 = b ∧ l.getD 2 0 = c ∧ l.getD 3 0 = d) := by
  unfold begF
  match l with
  | [] => simp
  | [x] => simp
  | [x, y] => simp
  | [x, y, z] => simp
  | x :: y :: z :: w :: r => simp

theorem beg_eight {l : List Int} {a : Int} : begF l 0 (eightB a) = true ↔
    (a < 128 ∧ 1 ≤ l.length ∧ l.getD 0 0 = a) ∨ (128 ≤ a ∧ a < 2048 ∧ 2 ≤ l.length ∧ l.getD 0 0 = 192 + a / 64 ∧ l.getD 1 0 = 128 + a % 64) ∨
    (2048 ≤ a ∧ a < 65536 ∧ 3 ≤ l.length ∧ l.getD 0 0 = 224 + a / 4096 ∧ l.getD 1 0 = 128 + a / 64 % 64 ∧ l.getD 2 0 = 128 + a % 64) ∨
    (65536 ≤ a ∧ 4 ≤ l.length ∧ l.getD 0 0 = 240 + a / 262144 ∧ l.getD 1 0 = 128 + a / 4096 % 64 ∧ l.getD 2 0 = 128 + a / 64 % 64 ∧ l.getD 3 0 = 128 + a % 64) := by
  unfold eightB
  by_cases h1 : a < 128
  · rw [if_pos h1, beg1, decide_eq_true_eq]; omega
  rw [if_neg h1]
  by_cases h2 : a < 2048
  · rw [if_pos h2, beg2, decide_eq_true_eq]; omega
  rw [if_neg h2]
  by_cases h3 : a < 65536
  · rw [if_pos h3, beg3, decide_eq_true_eq]; omega
  rw [if_neg h3, beg4, decide_eq_true_eq]; omega
theorem len_eight (a : Int) : (eightB a).length = if a < 128 then 1 else if a < 2048 then 2 else if a < 65536 then 3 else 4 := by
  unfold eightB; (repeat' split) <;> rfl

theorem bounds_cases (x : Int) (h0 : 0 ≤ x) (h1 : x ≤ 255) :
    (x < 128 ∧ boundsF x = (1, 0, 0)) ∨ (128 ≤ x ∧ x < 194 ∧ boundsF x = (0, 0, 0)) ∨ (194 ≤ x ∧ x < 224 ∧ boundsF x = (2, 128, 191)) ∨ (x = 224 ∧ boundsF x = (3, 160, 191)) ∨ (x = 237 ∧ boundsF x = (3, 128, 159)) ∨
    (224 < x ∧ x < 240 ∧ x ≠ 237 ∧ boundsF x = (3, 128, 191)) ∨ (x = 240 ∧ boundsF x = (4, 144, 191)) ∨ (240 < x ∧ x < 244 ∧ boundsF x = (4, 128, 191)) ∨ (x = 244 ∧ boundsF x = (4, 128, 143)) ∨ (244 < x ∧ boundsF x = (0, 0, 0)) := by
  unfold boundsF
  (repeat' split) <;> simp <;> omega

/-- A row that is whole: its bytes. -/
theorem row_is {x0 x1 x2 x3 : Int} (h0 : 0 ≤ x0) (h1 : x0 ≤ 255) (m : Int) (hm : 1 ≤ m) : rowG x0 x1 x2 x3 = (m, m) ↔
    (m = 1 ∧ x0 < 128) ∨ (m = 2 ∧ 194 ≤ x0 ∧ x0 < 224 ∧ contF x1) ∨
    (m = 3 ∧ 224 ≤ x0 ∧ x0 < 240 ∧ contF x1 ∧ contF x2 ∧ (x0 = 224 → 160 ≤ x1) ∧ (x0 = 237 → x1 ≤ 159)) ∨
    (m = 4 ∧ 240 ≤ x0 ∧ x0 ≤ 244 ∧ contF x1 ∧ contF x2 ∧ contF x3 ∧ (x0 = 240 → 144 ≤ x1) ∧ (x0 = 244 → x1 ≤ 143)) := by
  unfold rowG contF
  rcases bounds_cases x0 h0 h1 with ⟨c, e⟩ | ⟨c, d, e⟩ | ⟨c, d, e⟩ | ⟨c, e⟩ | ⟨c, e⟩ | ⟨c, d, d', e⟩ | ⟨c, e⟩ | ⟨c, d, e⟩ | ⟨c, e⟩ | ⟨c, e⟩
  all_goals rw [e]
  all_goals dsimp only
  all_goals (repeat' split)
  all_goals simp only [Prod.mk.injEq]
  all_goals omega

theorem len_iff (a : Int) (m : Nat) : (eightB a).length = m ↔ (m = 1 ∧ a < 128) ∨ (m = 2 ∧ 128 ≤ a ∧ a < 2048) ∨ (m = 3 ∧ 2048 ≤ a ∧ a < 65536) ∨ (m = 4 ∧ 65536 ≤ a) := by
  rw [len_eight]; (repeat' split) <;> omega

/-- A row that is whole is one of a scalar with just these bytes, and the other way round. -/
theorem cand_iff {l : List Int} (hb : isBytes l) {m : Nat} (h1 : 1 ≤ m) (h4 : m ≤ 4) (hm : m ≤ l.length) : cand m l ↔ rowF l = ((m : Int), (m : Int)) := by
  have b0 := hb.at 0
  have b1 := hb.at 1
  have b2 := hb.at 2
  have b3 := hb.at 3
  unfold cand
  rw [beg_eight, len_iff]
  unfold rowF
  rw [row_is b0.1 b0.2 _ (by omega)]
  unfold scalarF meantF contF
  have hcase : m = 1 ∨ m = 2 ∨ m = 3 ∨ m = 4 := by omega
  rcases hcase with rfl | rfl | rfl | rfl
  · simp only [mtP, leadF, Nat.reduceSub, if_false, Nat.reduceEqDiff, Int.reduceEq, Nat.reduceEqDiff, true_and, false_and, or_false, false_or, Int.cast_ofNat_Int, reduceCtorEq, Int.natCast_one]
    generalize l.getD 0 0 = x0 at *
    clear b1 b2 b3
    constructor
    · rintro ⟨h, h', h''⟩; omega
    · intro h; exact ⟨by omega, by omega, by omega⟩
  · simp only [mtP, leadF, Nat.reduceSub, if_true, if_false, Nat.reduceEqDiff, Nat.reduceAdd, Int.reduceEq, Nat.reduceEqDiff, true_and, false_and, or_false, false_or, Int.cast_ofNat_Int, reduceCtorEq]
    generalize l.getD 0 0 = x0 at *
    generalize l.getD 1 0 = x1 at *
    obtain ⟨a, ha⟩ : ∃ a, a = (x0 - 192) * 64 + x1 - 128 := ⟨_, rfl⟩
    rw [← ha]
    clear b2 b3
    constructor
    · rintro ⟨h, h', h''⟩
      have h' : 128 ≤ a ∧ a < 2048 := by omega
      have h'' : x0 = 192 + a / 64 ∧ x1 = 128 + a % 64 := by omega
      omega
    · intro h
      have h : 194 ≤ x0 ∧ x0 < 224 ∧ 128 ≤ x1 ∧ x1 ≤ 191 := by omega
      exact ⟨by omega, by omega, .inr (.inl (by omega))⟩
  · simp only [mtP, leadF, Nat.reduceSub, if_true, if_false, Nat.reduceEqDiff, Nat.reduceAdd, Int.reduceEq, Nat.reduceEqDiff, true_and, false_and, or_false, false_or, Int.cast_ofNat_Int, reduceCtorEq]
    generalize l.getD 0 0 = x0 at *
    generalize l.getD 1 0 = x1 at *
    generalize l.getD 2 0 = x2 at *
    obtain ⟨a, ha⟩ : ∃ a, a = ((x0 - 224) * 64 + x1 - 128) * 64 + x2 - 128 := ⟨_, rfl⟩
    rw [← ha]
    clear b3
    constructor
    · rintro ⟨h, h', h''⟩
      have h' : 2048 ≤ a ∧ a < 65536 := by omega
      rcases h'' with h'' | h'' | h'' | h''
      · omega
      · omega
      · obtain ⟨_, _, _, e0, e1, e2⟩ := h''
        exact ⟨by omega, by omega, by omega, by omega, by omega, by omega⟩
      · omega
    · intro h
      have h : 224 ≤ x0 ∧ x0 < 240 ∧ (128 ≤ x1 ∧ x1 ≤ 191) ∧ (128 ≤ x2 ∧ x2 ≤ 191) ∧ (x0 = 224 → 160 ≤ x1) ∧ (x0 = 237 → x1 ≤ 159) := by omega
      obtain ⟨g1, g2, g3, g4, g5, g6⟩ := h
      have e0 : a / 4096 = x0 - 224 := by omega
      have e1 : a / 64 = (x0 - 224) * 64 + x1 - 128 := by omega
      refine ⟨by omega, ⟨by omega, by omega⟩, .inr (.inr (.inl ⟨by omega, by omega, hm, by omega, by omega, by omega⟩))⟩
  · simp only [mtP, leadF, Nat.reduceSub, if_true, if_false, Nat.reduceEqDiff, Nat.reduceAdd, Int.reduceEq, Nat.reduceEqDiff, true_and, false_and, or_false, false_or, Int.cast_ofNat_Int, reduceCtorEq]
    generalize l.getD 0 0 = x0 at *
    generalize l.getD 1 0 = x1 at *
    generalize l.getD 2 0 = x2 at *
    generalize l.getD 3 0 = x3 at *
    obtain ⟨a, ha⟩ : ∃ a, a = (((x0 - 240) * 64 + x1 - 128) * 64 + x2 - 128) * 64 + x3 - 128 := ⟨_, rfl⟩
    rw [← ha]
    constructor
    · rintro ⟨h, h', h''⟩
      have h' : 65536 ≤ a := by omega
      have h : a ≤ 1114111 := by omega
      rcases h'' with h'' | h'' | h'' | h''
      · omega
      · omega
      · omega
      · obtain ⟨_, _, e0, e1, e2, e3⟩ := h''
        exact ⟨by omega, by omega, by omega, by omega, by omega, by omega, by omega⟩
    · intro h
      have h : 240 ≤ x0 ∧ x0 ≤ 244 ∧ (128 ≤ x1 ∧ x1 ≤ 191) ∧ (128 ≤ x2 ∧ x2 ≤ 191) ∧ (128 ≤ x3 ∧ x3 ≤ 191) ∧ (x0 = 240 → 144 ≤ x1) ∧ (x0 = 244 → x1 ≤ 143) := by omega
      obtain ⟨g1, g2, g3, g4, g4', g5, g6⟩ := h
      have e0 : a / 262144 = x0 - 240 := by omega
      have e1 : a / 4096 = (x0 - 240) * 64 + x1 - 128 := by omega
      have e2 : a / 64 = ((x0 - 240) * 64 + x1 - 128) * 64 + x2 - 128 := by omega
      refine ⟨by omega, by omega, .inr (.inr (.inr ⟨by omega, hm, by omega, by omega, by omega, by omega⟩))⟩

theorem meant_val {l : List Int} (hb : isBytes l) {m : Nat} (h1 : 1 ≤ m) (h4 : m ≤ 4) (hr : rowF l = ((m : Int), (m : Int))) : first8 l = (meantF m l, (m : Int)) := by
  have b0 := hb.at 0
  have hr' := hr
  unfold rowF at hr'
  rw [row_is b0.1 b0.2 _ (by omega)] at hr'
  unfold first8
  rw [hr, if_neg (by dsimp only; omega)]
  unfold meantF maskF contF at *
  have hcase : m = 1 ∨ m = 2 ∨ m = 3 ∨ m = 4 := by omega
  rcases hcase with rfl | rfl | rfl | rfl
  all_goals simp [valP, mtP, leadF]
  all_goals simp at hr' b0
  all_goals generalize l[0]?.getD 0 = x0 at *
  all_goals generalize l[1]?.getD 0 = x1 at *
  all_goals generalize l[2]?.getD 0 = x2 at *
  all_goals generalize l[3]?.getD 0 = x3 at *
  all_goals omega
theorem raw_val {l : List Int} (hb : isBytes l) (hl : 0 < l.length) (hr : ∀ m : Nat, 1 ≤ m → m ≤ 4 → m ≤ l.length → rowF l ≠ ((m : Int), (m : Int))) : first8 l = (-1 - l.getD 0 0, 1) := by
  have b0 := hb.at 0
  have hle := rowG_le (l.getD 0 0) (l.getD 1 0) (l.getD 2 0) (l.getD 3 0) b0.1 b0.2
  have hbn := bounds_n (l.getD 0 0) b0.1 b0.2
  have hrl := row_len hl hb
  unfold first8
  split
  · rfl
  · rename_i hn
    exfalso
    have hr2 : rowF l = rowG (l.getD 0 0) (l.getD 1 0) (l.getD 2 0) (l.getD 3 0) := rfl
    rw [← hr2] at hle
    refine hr (rowF l).2.toNat (by omega) (by omega) (by omega) ?_
    refine Prod.ext ?_ ?_ <;> dsimp only <;> omega
end Go.Sw.Codec
