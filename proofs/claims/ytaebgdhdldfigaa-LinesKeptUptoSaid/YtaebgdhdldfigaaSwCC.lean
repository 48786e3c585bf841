/-
  Codec: sizes: what Fits and Size answer, the program's and the document's.
-/
import Derived.Test.YtaebgdhdldfigaaSwFcodec
import Derived.Test.YtaebgdhdldfigaaSwU2
import Derived.Test.YtaebgdhdldfigaaSwU3
set_option linter.unusedVariables false
set_option linter.unusedSimpArgs false
set_option maxRecDepth 100000
namespace Go.Sw.Codec
variable {P : Program} {S : Ids} {h : Heap} {Q : Nat → List Value → Heap → Prop}
def sizeF (enc a : Int) : Int :=
  if enc = 1 then (if a < -256 ∨ (-129 < a ∧ a < 0) ∨ 1114111 < a ∨ (55296 ≤ a ∧ a ≤ 57343) then 0 else if a < 128 then 1 else if a < 2048 then 2 else if a < 65536 then 3 else 4)
  else if enc = 2 ∨ enc = 3 then (if a < -256 ∨ 1114111 < a then 0 else if a < 0 then 1 else if a < 65536 then 2 else 4)
  else if enc = 4 then (if a < 0 ∨ 255 < a then 0 else 1)
  else 0
def coder (S : Ids) (enc : Int) : Value :=
  if enc = 1 then .iface S.t_codec_eight (.agg #[])
  else if enc = 2 then .iface S.t_codec_sixteen (.agg #[.int .i64 0])
  else if enc = 3 then .iface S.t_codec_sixteen (.agg #[.int .i64 1])
  else if enc = 4 then .iface S.t_codec_latin (.agg #[])
  else .nilIface
theorem c_of (enc : Int) : Gives P (F_codec_of S enc) [.one .any] h fun (x : Value × Unit) h' => x.1 = coder S enc := by
  refine gives_pure (coder S enc, ()) (fun Q hq => ?_) fun _ => rfl
  unfold F_codec_of coder at *
  simp only [e_if, e_ret, eqI_iff]
  have := hq h (Ext.refl h)
  repeat' split
  all_goals simp_all [Ts.inj, Ty.inj, B.inj]
end Go.Sw.Codec
set_option linter.unusedVariables false
set_option linter.unusedSimpArgs false
set_option maxRecDepth 100000
namespace Go.Sw.Codec
variable {P : Program} {S : Ids} {h : Heap} {Q : Nat → List Value → Heap → Prop}
def eightB (a : Int) : List Int :=
  if a < 128 then [a] else if a < 2048 then [192 + a / 64, 128 + a % 64] else if a < 65536 then [224 + a / 4096, 128 + a / 64 % 64, 128 + a % 64]
  else [240 + a / 262144, 128 + a / 4096 % 64, 128 + a / 64 % 64, 128 + a % 64]
def unitB (enc u : Int) : List Int := if enc = 2 then [u % 256, u / 256] else [u / 256, u % 256]
def putF (enc a : Int) : List Int :=
  if a < 0 then [-1 - a] else if enc = 1 then eightB a else if enc = 4 then [a]
  else if 65536 ≤ a then unitB enc (55296 + (a - 65536) / 1024) ++ unitB enc (56320 + a % 1024) else unitB enc a
end Go.Sw.Codec
set_option linter.unusedVariables false
set_option linter.unusedSimpArgs false
set_option maxRecDepth 100000
namespace Go.Sw.Codec
variable {P : Program} {S : Ids} {h : Heap} {Q : Nat → List Value → Heap → Prop}
theorem take_eq_succ {l m : List Int} {i : Nat} (hl : i < l.length) (hm : i < m.length) (h : l.take i = m.take i) (he : l.getD i 0 = m.getD i 0) : l.take (i + 1) = m.take (i + 1) := by
  rw [List.take_add_one, List.take_add_one, h]
  rw [List.getD_eq_getElem?_getD, List.getD_eq_getElem?_getD, List.getElem?_eq_getElem hl, List.getElem?_eq_getElem hm] at he
  rw [List.getElem?_eq_getElem hl, List.getElem?_eq_getElem hm]
  simp at he
  rw [he]
end Go.Sw.Codec
set_option linter.unusedVariables false
set_option linter.unusedSimpArgs false
set_option maxRecDepth 100000
namespace Go.Sw.Codec
variable {P : Program} {S : Ids} {h : Heap} {Q : Nat → List Value → Heap → Prop}
def begF (l : List Int) (at_ : Nat) (m : List Int) : Bool := decide ((l.drop at_).take m.length = m)
theorem beg3 (l : List Int) (a b c : Int) : begF l 0 [a, b, c] = decide (3 ≤ l.length ∧ l.getD 0 0 = a ∧ l.getD 1 0 = b ∧ l.getD 2 0 = c) := by
  unfold begF
  match l with
  | [] => simp
  | [x] => simp
  | [x, y] => simp
  | x :: y :: z :: r => simp
theorem beg2 (l : List Int) (a b : Int) : begF l 0 [a, b] = decide (2 ≤ l.length ∧ l.getD 0 0 = a ∧ l.getD 1 0 = b) := by
  unfold begF
  match l with
  | [] => simp
  | [x] => simp
  | x :: y :: r => simp
end Go.Sw.Codec
set_option linter.unusedVariables false
set_option linter.unusedSimpArgs false
set_option maxRecDepth 100000
namespace Go.Sw.Codec
variable {P : Program} {S : Ids} {h : Heap} {Q : Nat → List Value → Heap → Prop}
end Go.Sw.Codec
set_option linter.unusedVariables false
set_option linter.unusedSimpArgs false
set_option maxRecDepth 100000
namespace Go.Sw.Codec
variable {P : Program} {S : Ids} {h : Heap} {Q : Nat → List Value → Heap → Prop}
end Go.Sw.Codec
set_option linter.unusedVariables false
set_option linter.unusedSimpArgs false
set_option maxRecDepth 100000
namespace Go.Sw.Codec
variable {P : Program} {S : Ids} {h : Heap} {Q : Nat → List Value → Heap → Prop}
def known (enc : Int) : Prop := 1 ≤ enc ∧ enc ≤ 4
theorem coder_known {enc : Int} (he : known enc) : isIface (coder S enc) = true ∧ isNilIface (coder S enc) = false := by
  unfold known at he
  have : enc = 1 ∨ enc = 2 ∨ enc = 3 ∨ enc = 4 := by omega
  rcases this with rfl | rfl | rfl | rfl <;> exact ⟨rfl, rfl⟩
theorem coder_unknown {enc : Int} (he : ¬ known enc) : coder S enc = .nilIface := by
  unfold known at he
  unfold coder
  rw [if_neg (by omega), if_neg (by omega), if_neg (by omega), if_neg (by omega)]
structure Meth0 (P : Program) (S : Ids) : Prop where
  size8 : ∀ a, Inv P (.iface S.t_codec_eight (.agg #[])) S.m_size [.int .i64 a] (F_eight_size S () a)
  size16 : ∀ r a, Inv P (.iface S.t_codec_sixteen (.agg #[.int .i64 r])) S.m_size [.int .i64 a] (F_sixteen_size S (r, ()) a)
  size1 : ∀ a, Inv P (.iface S.t_codec_latin (.agg #[])) S.m_size [.int .i64 a] (F_latin_size S () a)
  put8 : ∀ (s : Sl) a, Inv P (.iface S.t_codec_eight (.agg #[])) S.m_put [.slice s.base s.len s.cap, .int .i64 a] (F_eight_put S () s a)
  put16 : ∀ r (s : Sl) a, Inv P (.iface S.t_codec_sixteen (.agg #[.int .i64 r])) S.m_put [.slice s.base s.len s.cap, .int .i64 a] (F_sixteen_put S (r, ()) s a)
  put1 : ∀ (s : Sl) a, Inv P (.iface S.t_codec_latin (.agg #[])) S.m_put [.slice s.base s.len s.cap, .int .i64 a] (F_latin_put S () s a)
  first8 : ∀ (s : Sl), Inv P (.iface S.t_codec_eight (.agg #[])) S.m_first [.slice s.base s.len s.cap] (F_eight_first S () s)
  first16 : ∀ r (s : Sl), Inv P (.iface S.t_codec_sixteen (.agg #[.int .i64 r])) S.m_first [.slice s.base s.len s.cap] (F_sixteen_first S (r, ()) s)
  first1 : ∀ (s : Sl), Inv P (.iface S.t_codec_latin (.agg #[])) S.m_first [.slice s.base s.len s.cap] (F_latin_first S () s)
  nilf : ∀ enc, known enc → NilOk P (.func (.method S.m_first) #[coder S enc] #[])
theorem known_cases {enc : Int} (he : known enc) : enc = 1 ∨ enc = 2 ∨ enc = 3 ∨ enc = 4 := by unfold known at he; omega
end Go.Sw.Codec
set_option linter.unusedVariables false
set_option linter.unusedSimpArgs false
set_option maxRecDepth 100000
namespace Go.Sw.Codec
def boundsF (c : Int) : Int × Int × Int :=
  if c < 128 then (1, 0, 0) else if c < 194 then (0, 0, 0) else if c < 224 then (2, 128, 191) else if c = 224 then (3, 160, 191) else if c = 237 then (3, 128, 159)
  else if c < 240 then (3, 128, 191) else if c = 240 then (4, 144, 191) else if c < 244 then (4, 128, 191) else if c = 244 then (4, 128, 143) else (0, 0, 0)
def contF (x : Int) : Prop := 128 ≤ x ∧ x ≤ 191
instance (x : Int) : Decidable (contF x) := inferInstanceAs (Decidable (_ ∧ _))
def rowG (b0 b1 b2 b3 : Int) : Int × Int :=
  if (boundsF b0).1 < 2 then ((boundsF b0).1, (boundsF b0).1)
  else if ¬ ((boundsF b0).2.1 ≤ b1 ∧ b1 ≤ (boundsF b0).2.2) then (1, (boundsF b0).1)
  else if (boundsF b0).1 = 2 ∨ ¬ contF b2 then (2, (boundsF b0).1)
  else if (boundsF b0).1 = 3 ∨ ¬ contF b3 then (3, (boundsF b0).1)
  else (4, (boundsF b0).1)
def rowF (l : List Int) : Int × Int := rowG (l.getD 0 0) (l.getD 1 0) (l.getD 2 0) (l.getD 3 0)
def maskF (n b0 : Int) : Int := if n = 2 then b0 % 32 else if n = 3 then b0 % 16 else if n = 4 then b0 % 8 else b0
def valP (a : Int) (l : List Int) : Nat → Int
  | 0 => a
  | i + 1 => valP a l i * 64 + l.getD (i + 1) 0 % 64
def first8 (l : List Int) : Int × Int :=
  if (rowF l).2 = 0 ∨ (rowF l).1 < (rowF l).2 then (-1 - l.getD 0 0, 1) else (valP (maskF (rowF l).2 (l.getD 0 0)) l ((rowF l).2 - 1).toNat, (rowF l).2)
def unitF (enc : Int) (l : List Int) (i : Nat) : Int := if enc = 2 then l.getD i 0 + 256 * l.getD (i + 1) 0 else 256 * l.getD i 0 + l.getD (i + 1) 0
def first16 (enc : Int) (l : List Int) : Int × Int :=
  if l.length = 1 then (-1 - l.getD 0 0, 1)
  else if 55296 ≤ unitF enc l 0 ∧ unitF enc l 0 < 56320 ∧ 4 ≤ l.length ∧ 56320 ≤ unitF enc l 2 ∧ unitF enc l 2 < 57344 then (65536 + (unitF enc l 0 - 55296) * 1024 + (unitF enc l 2 - 56320), 4)
  else (unitF enc l 0, 2)
def firstF (enc : Int) (l : List Int) : Int × Int := if enc = 1 then first8 l else if enc = 4 then (l.getD 0 0, 1) else first16 enc l
def isBytes (l : List Int) : Prop := ∀ x, x ∈ l → fitsI .u8 x
theorem isBytes.at {l : List Int} (h : isBytes l) (i : Nat) : 0 ≤ l.getD i 0 ∧ l.getD i 0 ≤ 255 := by
  rw [List.getD_eq_getElem?_getD]
  cases hi : l[i]? with
  | none => exact ⟨by decide, by decide⟩
  | some x => exact fits_u8.1 (h x (List.mem_of_getElem? hi))
theorem isBytes.drop {l : List Int} (h : isBytes l) (i : Nat) : isBytes (l.drop i) := fun x hx => h x (List.mem_of_mem_drop hx)
theorem isBytes.take {l : List Int} (h : isBytes l) (i : Nat) : isBytes (l.take i) := fun x hx => h x (List.mem_of_mem_take hx)
theorem getD_drop (l : List Int) (a i : Nat) : (l.drop a).getD i 0 = l.getD (a + i) 0 := by
  rw [List.getD_eq_getElem?_getD, List.getD_eq_getElem?_getD, List.getElem?_drop]
theorem lt_of_getD {l : List Int} {i : Nat} (h : l.getD i 0 ≠ 0) : i < l.length := by
  by_cases hlt : i < l.length
  · exact hlt
  · rw [List.getD_eq_getElem?_getD, List.getElem?_eq_none (by omega)] at h; exact absurd rfl h
theorem bounds_n (c : Int) (h0 : 0 ≤ c) (h1 : c ≤ 255) : 0 ≤ (boundsF c).1 ∧ (boundsF c).1 ≤ 4 ∧ ((boundsF c).1 < 2 ∨ 128 ≤ (boundsF c).2.1) := by
  unfold boundsF; (repeat' split) <;> simp
theorem rowG_le (b0 b1 b2 b3 : Int) (h0 : 0 ≤ b0) (h1 : b0 ≤ 255) : (rowG b0 b1 b2 b3).2 = (boundsF b0).1 ∧ (rowG b0 b1 b2 b3).1 ≤ (rowG b0 b1 b2 b3).2 ∧ 0 ≤ (rowG b0 b1 b2 b3).1 := by
  have := bounds_n b0 h0 h1
  unfold rowG
  generalize (boundsF b0).1 = n at *
  generalize (boundsF b0).2.1 = lo at *
  generalize (boundsF b0).2.2 = hi at *
  (repeat' split) <;> simp <;> omega
theorem row_have {b0 b1 b2 b3 : Int} (hn : 2 ≤ (rowG b0 b1 b2 b3).2) : (2 ≤ (rowG b0 b1 b2 b3).1 → 128 ≤ b1) ∧ (3 ≤ (rowG b0 b1 b2 b3).1 → 128 ≤ b2) ∧ (4 ≤ (rowG b0 b1 b2 b3).1 → 128 ≤ b3) ∧ 1 ≤ (rowG b0 b1 b2 b3).1 := by
  have hb : (boundsF b0).1 < 2 ∨ 128 ≤ (boundsF b0).2.1 := by unfold boundsF; (repeat' split) <;> simp
  unfold rowG contF at *
  generalize (boundsF b0).1 = n at *
  generalize (boundsF b0).2.1 = lo at *
  generalize (boundsF b0).2.2 = hi at *
  (repeat' split at hn) <;> (repeat' split) <;> simp at * <;> omega
theorem row_len {l : List Int} (hl : 0 < l.length) (hb : isBytes l) : (rowF l).1 ≤ l.length ∨ (rowF l).2 < 2 := by
  by_cases hn : 2 ≤ (rowF l).2
  · left
    unfold rowF at *
    obtain ⟨h1, h2, h3, h4⟩ := row_have hn
    have h01 := hb.at 0
    have hle := rowG_le (l.getD 0 0) (l.getD 1 0) (l.getD 2 0) (l.getD 3 0) h01.1 h01.2
    have hbn := bounds_n (l.getD 0 0) h01.1 h01.2
    generalize hr : rowG (l.getD 0 0) (l.getD 1 0) (l.getD 2 0) (l.getD 3 0) = r at *
    have k1 : 2 ≤ r.1 → 1 < l.length := fun h => lt_of_getD (by have := h1 h; omega)
    have k2 : 3 ≤ r.1 → 2 < l.length := fun h => lt_of_getD (by have := h2 h; omega)
    have k3 : 4 ≤ r.1 → 3 < l.length := fun h => lt_of_getD (by have := h3 h; omega)
    omega
  · right; omega
theorem first8_size {l : List Int} (hl : 0 < l.length) (hb : isBytes l) : 1 ≤ (first8 l).2 ∧ (first8 l).2 ≤ 4 ∧ (first8 l).2 ≤ l.length := by
  have h01 := hb.at 0
  have hle := rowG_le (l.getD 0 0) (l.getD 1 0) (l.getD 2 0) (l.getD 3 0) h01.1 h01.2
  have hbn := bounds_n (l.getD 0 0) h01.1 h01.2
  have hrl := row_len hl hb
  unfold first8
  have hr : rowF l = rowG (l.getD 0 0) (l.getD 1 0) (l.getD 2 0) (l.getD 3 0) := rfl
  rw [← hr] at hle
  split
  · simp; omega
  · dsimp only; omega
theorem first16_size {enc : Int} {l : List Int} (hl : 0 < l.length) : 1 ≤ (first16 enc l).2 ∧ (first16 enc l).2 ≤ 4 ∧ (first16 enc l).2 ≤ l.length := by
  unfold first16; (repeat' split) <;> simp <;> omega
theorem firstF_size {enc : Int} {l : List Int} (hl : 0 < l.length) (hb : isBytes l) : 1 ≤ (firstF enc l).2 ∧ (firstF enc l).2 ≤ 4 ∧ (firstF enc l).2 ≤ l.length := by
  unfold firstF
  (repeat' split)
  · exact first8_size hl hb
  · simp; omega
  · exact first16_size hl
theorem valP_bound {a : Int} {l : List Int} (h0 : 0 ≤ a) (h1 : a < 256) : ∀ i : Nat, 0 ≤ valP a l i ∧ valP a l i < 256 * 64 ^ i := by
  intro i
  induction i with
  | zero => simp [valP]; omega
  | succ i ih =>
    simp only [valP]
    have e : (64 : Int) ^ (i + 1) = 64 ^ i * 64 := by rw [Int.pow_succ]
    rw [e]
    generalize (64 : Int) ^ i = p at *
    omega
theorem valP_small {a : Int} {l : List Int} (h0 : 0 ≤ a) (h1 : a < 256) {i : Nat} (hi : i ≤ 3) : 0 ≤ valP a l i ∧ valP a l i < 67108864 := by
  have := valP_bound (l := l) h0 h1 i
  have : i = 0 ∨ i = 1 ∨ i = 2 ∨ i = 3 := by omega
  rcases this with rfl | rfl | rfl | rfl <;> simp at this ⊢ <;> omega
def decN (enc : Int) : Nat → List Int → List Int
  | 0, _ => []
  | n + 1, l => if l.length = 0 then [] else (firstF enc l).1 :: decN enc n (l.drop (firstF enc l).2.toNat)
def dec (enc : Int) (l : List Int) : List Int := decN enc l.length l
theorem decN_enough {enc : Int} : ∀ (n m : Nat) (l : List Int), isBytes l → l.length ≤ n → l.length ≤ m → decN enc n l = decN enc m l := by
  intro n
  induction n with
  | zero =>
    intro m l hb hn hm
    cases m with
    | zero => rfl
    | succ m => simp only [decN]; rw [if_pos (by omega)]
  | succ n ih =>
    intro m l hb hn hm
    cases m with
    | zero => simp only [decN]; rw [if_pos (by omega)]
    | succ m =>
      simp only [decN]
      by_cases hz : l.length = 0
      · rw [if_pos hz, if_pos hz]
      · rw [if_neg hz, if_neg hz]
        have := firstF_size (enc := enc) (l := l) (by omega) hb
        rw [ih m _ (hb.drop _) (by rw [List.length_drop]; omega) (by rw [List.length_drop]; omega)]
theorem dec_nil {enc : Int} {l : List Int} (h : l.length = 0) : dec enc l = [] := by unfold dec; rw [h]; rfl
theorem dec_cons {enc : Int} {l : List Int} (hb : isBytes l) (h : 0 < l.length) : dec enc l = (firstF enc l).1 :: dec enc (l.drop (firstF enc l).2.toNat) := by
  have := firstF_size (enc := enc) h hb
  unfold dec
  rw [decN_enough l.length (l.length - 1 + 1) l hb (by omega) (by omega)]
  simp only [decN]
  rw [if_neg (by omega), decN_enough (l.length - 1) (l.drop (firstF enc l).2.toNat).length _ (hb.drop _) (by rw [List.length_drop]; omega) (by omega)]
def leadF (m : Nat) : Int := if m = 2 then 192 else if m = 3 then 224 else if m = 4 then 240 else 0
def mtP (a : Int) (l : List Int) : Nat → Int
  | 0 => a
  | i + 1 => mtP a l i * 64 + l.getD (i + 1) 0 - 128
def meantF (m : Nat) (l : List Int) : Int := mtP (l.getD 0 0 - leadF m) l (m - 1)
def scalarF (a : Int) : Prop := (0 ≤ a ∧ a < 55296) ∨ (57343 < a ∧ a ≤ 1114111)
instance (x : Int) : Decidable (scalarF x) := inferInstanceAs (Decidable (_ ∨ _))
def cand (m : Nat) (l : List Int) : Prop := scalarF (meantF m l) ∧ (eightB (meantF m l)).length = m ∧ begF l 0 (eightB (meantF m l)) = true
theorem beg1 (l : List Int) (a : Int) : begF l 0 [a] = decide (1 ≤ l.length ∧ l.getD 0 0 = a) := by
  unfold begF
  match l with
  | [] => simp
  | x :: r => simp
theorem beg4 (l : List Int) (a b c d : Int) : begF l 0 [a, b, c, d] = decide (4 ≤ l.length ∧ l.getD 0 0 = a ∧ l.getD 1 0 = b ∧ l.getD 2 0 = c ∧ l.getD 3 0 = d) := by
  unfold begF
  match l with
  | [] => simp
  | [x] => simp
  | [x, y] => simp
  | [x, y, z] => simp
  | x :: y :: z :: w :: r => simp
theorem beg_eight {l : List Int} {a : Int} : begF l 0 (eightB a) = true ↔
    (a < 128 ∧ 1 ≤ l.length ∧ l.getD 0 0 = a) ∨ (128 ≤ a ∧ a < 2048 ∧ 2 ≤ l.length ∧ l.getD 0 0 = 192 + a / 64 ∧ l.getD 1 0 = 128 + a % 64) ∨
    (2048 ≤ a ∧ a < 65536 ∧ 3 ≤ l.length ∧ l.getD 0 0 = 224 + a / 4096 ∧ l.getD 1 0 = 128 + a / 64 % 64 ∧ l.getD 2 0 = 128 + a % 64) ∨
    (65536 ≤ a ∧ 4 ≤ l.length ∧ l.getD 0 0 = 240 + a / 262144 ∧ l.getD 1 0 = 128 + a / 4096 % 64 ∧ l.getD 2 0 = 128 + a / 64 % 64 ∧ l.getD 3 0 = 128 + a % 64) := by
  unfold eightB
  by_cases h1 : a < 128
  · rw [if_pos h1, beg1, decide_eq_true_eq]; omega
  rw [if_neg h1]
  by_cases h2 : a < 2048
  · rw [if_pos h2, beg2, decide_eq_true_eq]; omega
  rw [if_neg h2]
  by_cases h3 : a < 65536
  · rw [if_pos h3, beg3, decide_eq_true_eq]; omega
  rw [if_neg h3, beg4, decide_eq_true_eq]; omega
theorem len_eight (a : Int) : (eightB a).length = if a < 128 then 1 else if a < 2048 then 2 else if a < 65536 then 3 else 4 := by
  unfold eightB; (repeat' split) <;> rfl
theorem bounds_cases (x : Int) (h0 : 0 ≤ x) (h1 : x ≤ 255) :
    (x < 128 ∧ boundsF x = (1, 0, 0)) ∨ (128 ≤ x ∧ x < 194 ∧ boundsF x = (0, 0, 0)) ∨ (194 ≤ x ∧ x < 224 ∧ boundsF x = (2, 128, 191)) ∨ (x = 224 ∧ boundsF x = (3, 160, 191)) ∨ (x = 237 ∧ boundsF x = (3, 128, 159)) ∨
    (224 < x ∧ x < 240 ∧ x ≠ 237 ∧ boundsF x = (3, 128, 191)) ∨ (x = 240 ∧ boundsF x = (4, 144, 191)) ∨ (240 < x ∧ x < 244 ∧ boundsF x = (4, 128, 191)) ∨ (x = 244 ∧ boundsF x = (4, 128, 143)) ∨ (244 < x ∧ boundsF x = (0, 0, 0)) := by
  unfold boundsF
  (repeat' split) <;> simp <;> omega
theorem row_is {x0 x1 x2 x3 : Int} (h0 : 0 ≤ x0) (h1 : x0 ≤ 255) (m : Int) (hm : 1 ≤ m) : rowG x0 x1 x2 x3 = (m, m) ↔
    (m = 1 ∧ x0 < 128) ∨ (m = 2 ∧ 194 ≤ x0 ∧ x0 < 224 ∧ contF x1) ∨
    (m = 3 ∧ 224 ≤ x0 ∧ x0 < 240 ∧ contF x1 ∧ contF x2 ∧ (x0 = 224 → 160 ≤ x1) ∧ (x0 = 237 → x1 ≤ 159)) ∨
    (m = 4 ∧ 240 ≤ x0 ∧ x0 ≤ 244 ∧ contF x1 ∧ contF x2 ∧ contF x3 ∧ (x0 = 240 → 144 ≤ x1) ∧ (x0 = 244 → x1 ≤ 143)) := by
  unfold rowG contF
  rcases bounds_cases x0 h0 h1 with ⟨c, e⟩ | ⟨c, d, e⟩ | ⟨c, d, e⟩ | ⟨c, e⟩ | ⟨c, e⟩ | ⟨c, d, d', e⟩ | ⟨c, e⟩ | ⟨c, d, e⟩ | ⟨c, e⟩ | ⟨c, e⟩
  all_goals rw [e]
  all_goals dsimp only
  all_goals (repeat' split)
  all_goals simp only [Prod.mk.injEq]
  all_goals omega
theorem len_iff (a : Int) (m : Nat) : (eightB a).length = m ↔ (m = 1 ∧ a < 128) ∨ (m = 2 ∧ 128 ≤ a ∧ a < 2048) ∨ (m = 3 ∧ 2048 ≤ a ∧ a < 65536) ∨ (m = 4 ∧ 65536 ≤ a) := by
  rw [len_eight]; (repeat' split) <;> omega
theorem cand_iff {l : List Int} (hb : isBytes l) {m : Nat} (h1 : 1 ≤ m) (h4 : m ≤ 4) (hm : m ≤ l.length) : cand m l ↔ rowF l = ((m : Int), (m : Int)) := by
  have b0 := hb.at 0
  have b1 := hb.at 1
  have b2 := hb.at 2
  have b3 := hb.at 3
  unfold cand
  rw [beg_eight, len_iff]
  unfold rowF
  rw [row_is b0.1 b0.2 _ (by omega)]
  unfold scalarF meantF contF
  have hcase : m = 1 ∨ m = 2 ∨ m = 3 ∨ m = 4 := by omega
  rcases hcase with rfl | rfl | rfl | rfl
  · simp only [mtP, leadF, Nat.reduceSub, if_false, Nat.reduceEqDiff, Int.reduceEq, Nat.reduceEqDiff, true_and, false_and, or_false, false_or, Int.cast_ofNat_Int, reduceCtorEq, Int.natCast_one]
    generalize l.getD 0 0 = x0 at *
    clear b1 b2 b3
    constructor
    · rintro ⟨h, h', h''⟩; omega
    · intro h; exact ⟨by omega, by omega, by omega⟩
  · simp only [mtP, leadF, Nat.reduceSub, if_true, if_false, Nat.reduceEqDiff, Nat.reduceAdd, Int.reduceEq, Nat.reduceEqDiff, true_and, false_and, or_false, false_or, Int.cast_ofNat_Int, reduceCtorEq]
    generalize l.getD 0 0 = x0 at *
    generalize l.getD 1 0 = x1 at *
    obtain ⟨a, ha⟩ : ∃ a, a = (x0 - 192) * 64 + x1 - 128 := ⟨_, rfl⟩
    rw [← ha]
    clear b2 b3
    constructor
    · rintro ⟨h, h', h''⟩
      have h' : 128 ≤ a ∧ a < 2048 := by omega
      have h'' : x0 = 192 + a / 64 ∧ x1 = 128 + a % 64 := by omega
      omega
    · intro h
      have h : 194 ≤ x0 ∧ x0 < 224 ∧ 128 ≤ x1 ∧ x1 ≤ 191 := by omega
      exact ⟨by omega, by omega, .inr (.inl (by omega))⟩
  · simp only [mtP, leadF, Nat.reduceSub, if_true, if_false, Nat.reduceEqDiff, Nat.reduceAdd, Int.reduceEq, Nat.reduceEqDiff, true_and, false_and, or_false, false_or, Int.cast_ofNat_Int, reduceCtorEq]
    generalize l.getD 0 0 = x0 at *
    generalize l.getD 1 0 = x1 at *
    generalize l.getD 2 0 = x2 at *
    obtain ⟨a, ha⟩ : ∃ a, a = ((x0 - 224) * 64 + x1 - 128) * 64 + x2 - 128 := ⟨_, rfl⟩
    rw [← ha]
    clear b3
    constructor
    · rintro ⟨h, h', h''⟩
      have h' : 2048 ≤ a ∧ a < 65536 := by omega
      rcases h'' with h'' | h'' | h'' | h''
      · omega
      · omega
      · obtain ⟨_, _, _, e0, e1, e2⟩ := h''
        exact ⟨by omega, by omega, by omega, by omega, by omega, by omega⟩
      · omega
    · intro h
      have h : 224 ≤ x0 ∧ x0 < 240 ∧ (128 ≤ x1 ∧ x1 ≤ 191) ∧ (128 ≤ x2 ∧ x2 ≤ 191) ∧ (x0 = 224 → 160 ≤ x1) ∧ (x0 = 237 → x1 ≤ 159) := by omega
      obtain ⟨g1, g2, g3, g4, g5, g6⟩ := h
      have e0 : a / 4096 = x0 - 224 := by omega
      have e1 : a / 64 = (x0 - 224) * 64 + x1 - 128 := by omega
      refine ⟨by omega, ⟨by omega, by omega⟩, .inr (.inr (.inl ⟨by omega, by omega, hm, by omega, by omega, by omega⟩))⟩
  · simp only [mtP, leadF, Nat.reduceSub, if_true, if_false, Nat.reduceEqDiff, Nat.reduceAdd, Int.reduceEq, Nat.reduceEqDiff, true_and, false_and, or_false, false_or, Int.cast_ofNat_Int, reduceCtorEq]
    generalize l.getD 0 0 = x0 at *
    generalize l.getD 1 0 = x1 at *
    generalize l.getD 2 0 = x2 at *
    generalize l.getD 3 0 = x3 at *
    obtain ⟨a, ha⟩ : ∃ a, a = (((x0 - 240) * 64 + x1 - 128) * 64 + x2 - 128) * 64 + x3 - 128 := ⟨_, rfl⟩
    rw [← ha]
    constructor
    · rintro ⟨h, h', h''⟩
      have h' : 65536 ≤ a := by omega
      have h : a ≤ 1114111 := by omega
      rcases h'' with h'' | h'' | h'' | h''
      · omega
      · omega
      · omega
      · obtain ⟨_, _, e0, e1, e2, e3⟩ := h''
        exact ⟨by omega, by omega, by omega, by omega, by omega, by omega, by omega⟩
    · intro h
      have h : 240 ≤ x0 ∧ x0 ≤ 244 ∧ (128 ≤ x1 ∧ x1 ≤ 191) ∧ (128 ≤ x2 ∧ x2 ≤ 191) ∧ (128 ≤ x3 ∧ x3 ≤ 191) ∧ (x0 = 240 → 144 ≤ x1) ∧ (x0 = 244 → x1 ≤ 143) := by omega
      obtain ⟨g1, g2, g3, g4, g4', g5, g6⟩ := h
      have e0 : a / 262144 = x0 - 240 := by omega
      have e1 : a / 4096 = (x0 - 240) * 64 + x1 - 128 := by omega
      have e2 : a / 64 = ((x0 - 240) * 64 + x1 - 128) * 64 + x2 - 128 := by omega
      refine ⟨by omega, by omega, .inr (.inr (.inr ⟨by omega, hm, by omega, by omega, by omega, by omega⟩))⟩
theorem meant_val {l : List Int} (hb : isBytes l) {m : Nat} (h1 : 1 ≤ m) (h4 : m ≤ 4) (hr : rowF l = ((m : Int), (m : Int))) : first8 l = (meantF m l, (m : Int)) := by
  have b0 := hb.at 0
  have hr' := hr
  unfold rowF at hr'
  rw [row_is b0.1 b0.2 _ (by omega)] at hr'
  unfold first8
  rw [hr, if_neg (by dsimp only; omega)]
  unfold meantF maskF contF at *
  have hcase : m = 1 ∨ m = 2 ∨ m = 3 ∨ m = 4 := by omega
  rcases hcase with rfl | rfl | rfl | rfl
  all_goals simp [valP, mtP, leadF]
  all_goals simp at hr' b0
  all_goals generalize l[0]?.getD 0 = x0 at *
  all_goals generalize l[1]?.getD 0 = x1 at *
  all_goals generalize l[2]?.getD 0 = x2 at *
  all_goals generalize l[3]?.getD 0 = x3 at *
  all_goals omega
theorem raw_val {l : List Int} (hb : isBytes l) (hl : 0 < l.length) (hr : ∀ m : Nat, 1 ≤ m → m ≤ 4 → m ≤ l.length → rowF l ≠ ((m : Int), (m : Int))) : first8 l = (-1 - l.getD 0 0, 1) := by
  have b0 := hb.at 0
  have hle := rowG_le (l.getD 0 0) (l.getD 1 0) (l.getD 2 0) (l.getD 3 0) b0.1 b0.2
  have hbn := bounds_n (l.getD 0 0) b0.1 b0.2
  have hrl := row_len hl hb
  unfold first8
  split
  · rfl
  · rename_i hn
    exfalso
    have hr2 : rowF l = rowG (l.getD 0 0) (l.getD 1 0) (l.getD 2 0) (l.getD 3 0) := rfl
    rw [← hr2] at hle
    refine hr (rowF l).2.toNat (by omega) (by omega) (by omega) ?_
    refine Prod.ext ?_ ?_ <;> dsimp only <;> omega
end Go.Sw.Codec
set_option linter.unusedVariables false
set_option linter.unusedSimpArgs false
set_option maxRecDepth 100000
namespace Go.Sw.Codec
variable {P : Program} {S : Ids} {h : Heap} {Q : Nat → List Value → Heap → Prop}
theorem c_bounds {c : Int} : Gives P (F_codec_bounds S c) [.one (.int .i64), .one (.int .u8), .one (.int .u8)] h fun (x : Int × Int × Int × Unit) _ => (x.1, x.2.1, x.2.2.1) = boundsF c := by
  refine gives_pure ((boundsF c).1, (boundsF c).2.1, (boundsF c).2.2, ()) (fun Q hq => ?_) fun _ => rfl
  unfold F_codec_bounds boundsF at *
  simp only [e_if, e_ret, eqI_iff, ltI_iff]
  have := hq h (Ext.refl h)
  repeat' split
  all_goals simp_all [Ts.inj, Ty.inj, B.inj]
theorem c_row {b : Sl} {l : List Int} (hb : Lst .u8 h b l) (hl : 0 < l.length) : Gives P (F_codec_row S b) [.one (.int .i64), .one (.int .i64)] h fun (x : Int × Int × Unit) _ => (x.1, x.2.1) = rowF l := by
  have hlb := hb.len
  have hbd := hb.bound
  have b0 := hb.byte 0
  have hbn := bounds_n (l.getD 0 0) b0.1 b0.2
  unfold F_codec_row rowF rowG
  refine s_at0 (n := 0) hb hl fun _ => wp_call c_bounds fun ⟨(n : Int), (lo : Int), (hi : Int), _⟩ h1 e1 hx => ?_
  have hx : (n, lo, hi) = boundsF (l.getD 0 0) := hx
  rw [← hx] at hbn ⊢
  dsimp only at hbn ⊢
  refine wp_ifB (fun hc => ?_) fun hc => ?_
  · rw [ltI_iff] at hc
    rw [if_pos hc]
    exact s_ret ⟨rfl, e1, (n, n, ()), rfl, rfl⟩
  rw [ltI_not] at hc
  rw [if_neg (by omega)]
  have hb1 := hb.ext e1
  have at1 : ∀ {h' K Q}, Ext h1 h' → 1 < l.length → wp P (K (l.getD 1 0)) h' Q → wp P (grd (andB (someB b.base) (inB 1 b.len)) (.load (.one (.int .u8)) (shiftTo b.base 1) K)) h' Q := fun e h1 hk => s_at0 (n := 1) (hb1.ext e) h1 fun _ => hk
  have hz : ∀ i, l.length ≤ i → l.getD i 0 = 0 := fun i hi => by rw [List.getD_eq_getElem?_getD, List.getElem?_eq_none hi]; rfl
  refine bind_bool (¬ (lo ≤ l.getD 1 0 ∧ l.getD 1 0 ≤ hi)) ?_ fun c h2 e2 hc2 => wp_ifB (fun h3 => ?_) fun h3 => ?_
  · refine wp_ifB (fun hc => ?_) fun hc => ?_
    · rw [ltI_iff, natI_def, hlb] at hc
      refine s_ret ⟨rfl, Ext.refl _, _, rfl, ?_⟩
      rw [hz 1 (by omega)]; exact ⟨fun _ => by omega, fun _ => rfl⟩
    rw [ltI_not, natI_def, hlb] at hc
    refine at1 (Ext.refl _) (by omega) (wp_ifB (fun hc => ?_) fun hc => ?_)
    · rw [ltI_iff] at hc
      exact s_ret ⟨rfl, Ext.refl _, _, rfl, ⟨fun _ => by omega, fun _ => rfl⟩⟩
    rw [ltI_not] at hc
    refine at1 (Ext.refl _) (by omega) (s_ret ⟨rfl, Ext.refl _, _, rfl, ?_⟩)
    rw [gtI_iff]; omega
  · rw [if_pos (hc2.1 h3)]
    exact s_ret ⟨rfl, e1.trans e2, (1, n, ()), rfl, rfl⟩
  have hc3 : lo ≤ l.getD 1 0 ∧ l.getD 1 0 ≤ hi := Classical.not_not.1 fun hn => by rw [hc2.2 hn] at h3; cases h3
  rw [if_neg (fun hn => hn hc3)]
  have hb2 := hb1.ext e2
  refine wp_while (fun (s : Int × Unit) h' => Ext h h' ∧ 2 ≤ s.1 ∧ s.1 ≤ n ∧ ∀ j : Nat, 2 ≤ j → (j : Int) < s.1 → contF (l.getD j 0)) (fun s _ => 4 - s.1.toNat)
    (fun t vs h' => t = 2 ∧ ∃ k : Int, vs = [.int .i64 k] ∧ Ext h h' ∧ 2 ≤ k ∧ k ≤ n ∧ (∀ j : Nat, 2 ≤ j → (j : Int) < k → contF (l.getD j 0)) ∧ (k < n → ¬ contF (l.getD k.toNat 0))) ⟨e1.trans e2, by simp, by dsimp only; omega, fun j h1 h2 => by dsimp only at h2; omega⟩ ?_ ?_
  · rintro ⟨(k : Int), u⟩ h' ⟨e, k0, k1, hk⟩
    dsimp only at k0 k1 hk ⊢
    refine bind_bool (k < n ∧ contF (l.getD k.toNat 0)) ?_ fun c h3 e3 hc => wp_ifB (fun h3 => ?_) fun h3 => ?_
    · refine wp_ifB (fun hc => ?_) fun hc => ?_
      · rw [ltI_iff] at hc
        refine wp_ifB (fun hd => ?_) fun hd => ?_
        · rw [ltI_iff, natI_def, hlb] at hd
          refine s_at (hb.ext e) (by omega) (by omega) fun hf => s_ret ⟨rfl, Ext.refl _, _, rfl, ?_⟩
          rw [fits_u8] at hf
          rw [eqI_iff, and8_192 hf.1 (by omega)]
          unfold contF
          omega
        · rw [ltI_not, natI_def, hlb] at hd
          refine s_ret ⟨rfl, Ext.refl _, _, rfl, ?_⟩
          rw [hz _ (by omega)]; simp [contF]
      · rw [ltI_not] at hc
        exact s_ret ⟨rfl, Ext.refl _, _, rfl, by constructor; · intro h; cases h
                                                 · intro h; omega⟩
    · obtain ⟨q1, q2⟩ := hc.1 h3
      rw [add_ok (by omega) (by omega)]
      refine s_ret ⟨fun _ => ⟨(k + 1, ()), rfl, ⟨e.trans e3, by dsimp only; omega, by dsimp only; omega, fun j j1 j2 => ?_⟩, by dsimp only; omega⟩, fun h => absurd rfl h⟩
      dsimp only at j2
      by_cases hj : (j : Int) = k
      · rw [show j = k.toNat by omega]; exact q2
      · exact hk j j1 (by omega)
    · refine s_ret ⟨fun h => absurd h (by decide), fun _ => ⟨rfl, k, rfl, e.trans e3, k0, k1, hk, fun hlt hcn => ?_⟩⟩
      rw [hc.2 ⟨hlt, hcn⟩] at h3; cases h3
  · rintro t vs h' ⟨ht, k, hv, e, k0, k1, hk, hlast⟩
    refine s_exit ht (k, ()) hv (s_ret ⟨rfl, e, (k, n, ()), rfl, ?_⟩)
    dsimp only
    have c2 : 2 < k → contF (l.getD 2 0) := fun h => hk 2 (by omega) (by omega)
    have c3 : 3 < k → contF (l.getD 3 0) := fun h => hk 3 (by omega) (by omega)
    have d2 : k = 2 → 2 < n → ¬ contF (l.getD 2 0) := fun h h' => by have := hlast (by omega); rwa [h] at this
    have d3 : k = 3 → 3 < n → ¬ contF (l.getD 3 0) := fun h h' => by have := hlast (by omega); rwa [h] at this
    have hkc : k = 2 ∨ k = 3 ∨ k = 4 := by omega
    rcases hkc with rfl | rfl | rfl
    · rw [if_pos]
      by_cases hn : n = 2
      · exact .inl hn
      · exact .inr (d2 rfl (by omega))
    · rw [if_neg (by intro hx; rcases hx with hx | hx; omega; exact hx (c2 (by omega))), if_pos]
      by_cases hn : n = 3
      · exact .inl hn
      · exact .inr (d3 rfl (by omega))
    · rw [if_neg (by intro hx; rcases hx with hx | hx; omega; exact hx (c2 (by omega))), if_neg (by intro hx; rcases hx with hx | hx; omega; exact hx (c3 (by omega)))]
def duo : List Ty := [.one (.int .i64), .one (.int .i64)]
theorem c_eight_first {b : Sl} {l : List Int} (hb : Lst .u8 h b l) (hl : 0 < l.length) : Gives P (F_eight_first S () b) duo h fun (x : Int × Int × Unit) _ => (x.1, x.2.1) = first8 l := by
  have hlb := hb.len
  have hbd := hb.bound
  have hby : isBytes l := hb.wf
  have b0 := hb.byte 0
  have hle := rowG_le (l.getD 0 0) (l.getD 1 0) (l.getD 2 0) (l.getD 3 0) b0.1 b0.2
  have hbn := bounds_n (l.getD 0 0) b0.1 b0.2
  have hrl := row_len hl hby
  have hrf : rowF l = rowG (l.getD 0 0) (l.getD 1 0) (l.getD 2 0) (l.getD 3 0) := rfl
  rw [← hrf] at hle
  unfold F_eight_first first8
  refine s_alloc0 fun h1 e1 => wp_call (c_row (hb.ext e1) hl) fun ⟨(hv : Int), (n : Int), _⟩ h2 e2 hx => ?_
  have hx : (hv, n) = rowF l := hx
  rw [← hx] at hle hrl ⊢
  dsimp only at hle hrl ⊢
  have e12 := e1.trans e2
  refine bind_bool (n = 0 ∨ hv < n) ?_ fun c h3 e3 hc => wp_ifB (fun hc3 => ?_) fun hc3 => ?_
  · refine wp_ifB (fun hn => ?_) fun hn => ?_
    · rw [eqI_iff] at hn
      exact s_ret ⟨rfl, Ext.refl _, _, rfl, by simp [hn]⟩
    · rw [eqI_not] at hn
      exact s_ret ⟨rfl, Ext.refl _, _, rfl, by rw [ltI_iff]; omega⟩
  · rw [if_pos (hc.1 hc3)]
    refine s_at0 (n := 0) ((hb.ext e12).ext e3) hl fun _ => ?_
    rw [wrap_ok (by omega) (by omega), sub_ok (by omega) (by omega)]
    exact s_ret ⟨rfl, e12.trans e3, (_, 1, ()), rfl, rfl⟩
  have hnn : ¬ (n = 0 ∨ hv < n) := fun h => by rw [hc.2 h] at hc3; cases hc3
  rw [if_neg hnn]
  have e13 := e12.trans e3
  refine s_at0 (n := 0) (hb.ext e13) hl fun _ => ?_
  rw [wrap_ok (by omega) (by omega), and31, and15, and7]
  refine bind_val (tys := [.one (.int .i64)]) (fun (x : Int × Unit) _ => x.1 = maskF n (l.getD 0 0)) ?_ fun ⟨(m : Int), _⟩ h4 e4 hm => ?_
  · unfold maskF
    refine wp_ifB (fun hn => ?_) fun hn => ?_
    · rw [eqI_iff] at hn
      exact s_ret ⟨rfl, Ext.refl _, (_, ()), rfl, by rw [if_pos hn]⟩
    rw [eqI_not] at hn
    rw [if_neg hn]
    refine wp_ifB (fun hn => ?_) fun hn => ?_
    · rw [eqI_iff] at hn
      exact s_ret ⟨rfl, Ext.refl _, (_, ()), rfl, by rw [if_pos hn]⟩
    rw [eqI_not] at hn
    rw [if_neg hn]
    refine wp_ifB (fun hn => ?_) fun hn => ?_
    · rw [eqI_iff] at hn
      exact s_ret ⟨rfl, Ext.refl _, (_, ()), rfl, by rw [if_pos hn]⟩
    rw [eqI_not] at hn
    exact s_ret ⟨rfl, Ext.refl _, (l.getD 0 0, ()), rfl, by rw [if_neg hn]⟩
  have hm : m = maskF n (l.getD 0 0) := hm
  subst hm
  have hm0 : 0 ≤ maskF n (l.getD 0 0) ∧ maskF n (l.getD 0 0) < 256 := by unfold maskF; (repeat' split) <;> omega
  dsimp only
  have hcap := hb.cap
  refine s_grd (andB_iff.2 ⟨leB_ok (by omega) (by omega), leB_ok (by omega) (by rw [toN_def]; omega)⟩) ?_
  have e14 := e13.trans e4
  have hd : Lst .u8 h4 ⟨cutBase b.base b.cap 1 1, subN (toN n) 1, b.cap - 1⟩ ((l.drop 1).take (n - 1).toNat) := by
    have h1 := (hb.ext e14).drop (i := 1) (m := b.cap - 1) (by omega) (by omega) (by have := hb.max; omega)
    have h2 := h1.take (n := (n - 1).toNat) (m := b.cap - 1) (by rw [List.length_drop]; omega) (by omega) (by have := hb.max; omega)
    have : subN (toN n) 1 = (n - 1).toNat := by rw [toN_def]; unfold subN; omega
    rw [this]; exact h2
  have hdl := hd.len
  dsimp only at hdl
  rw [List.length_take, List.length_drop] at hdl
  rw [hdl]
  have hmin : min (n - 1).toNat (l.length - 1) = (n - 1).toNat := by omega
  rw [hmin]
  rw [hdl, hmin] at hd
  refine wp_while (fun (s : Int × Int × Unit) h' => Ext h h' ∧ Ext h4 h' ∧ 0 ≤ s.2.1 ∧ s.2.1 ≤ n - 1 ∧ s.1 = valP (maskF n (l.getD 0 0)) l s.2.1.toNat) (fun s _ => (n - 1 - s.2.1).toNat)
    (fun t vs h' => t = 3 ∧ Ext h h' ∧ vs = [.int .i64 (valP (maskF n (l.getD 0 0)) l (n - 1).toNat)]) ⟨e14, Ext.refl _, by simp, by dsimp only; omega, rfl⟩ ?_ ?_
  · rintro ⟨(a : Int), (i : Int), u⟩ h' ⟨e, e5, i0, i1, ha⟩
    dsimp only at i0 i1 ha ⊢
    refine wp_ifB (fun hi => ?_) fun hi => ?_
    · rw [ltI_iff, natI_def] at hi
      have hvs := valP_small (l := l) hm0.1 hm0.2 (i := i.toNat) (by omega)
      rw [← ha] at hvs
      have hbi := hby.at (i.toNat + 1)
      have hgd : ((l.drop 1).take (n - 1).toNat).getD i.toNat 0 = l.getD (i.toNat + 1) 0 := by
        rw [List.getD_eq_getElem?_getD, List.getElem?_take, if_pos (by omega), List.getElem?_drop, ← List.getD_eq_getElem?_getD, Nat.add_comm]
      refine s_at (hd.ext e5) i0 (by rw [List.length_take, List.length_drop]; omega) fun _ => s_not ?_
      rw [hgd, shl6 hvs.1 (by omega), and8_63 hbi.1 (by omega), wrap_ok (by omega) (by omega)]
      rw [or64_join (a := a * 64) (b := l.getD (i.toNat + 1) 0 % 64) 6 (by omega) (by omega) (by simp) (by omega) (by simp; omega) (by decide)]
      rw [add_ok (by omega) (by omega)]
      refine s_ret ⟨fun _ => ⟨(a * 64 + l.getD (i.toNat + 1) 0 % 64, i + 1, ()), rfl, ⟨e, e5, by dsimp only; omega, by dsimp only; omega, ?_⟩, by dsimp only; omega⟩, fun h => absurd rfl h⟩
      dsimp only
      rw [show (i + 1).toNat = i.toNat + 1 by omega]
      show _ = valP _ l i.toNat * 64 + _
      rw [ha]
    · rw [ltI_not, natI_def] at hi
      refine s_ret ⟨fun h => absurd h (by decide), fun _ => ⟨rfl, e, ?_⟩⟩
      rw [ha, show i.toNat = (n - 1).toNat by omega]
  · rintro t vs h' ⟨ht, e, hv⟩
    exact s_exit ht (_, ()) hv (s_ret ⟨rfl, e, (_, n, ()), rfl, rfl⟩)
theorem c_latin_first {b : Sl} {l : List Int} (hb : Lst .u8 h b l) (hl : 0 < l.length) : Gives P (F_latin_first S () b) duo h fun (x : Int × Int × Unit) _ => (x.1, x.2.1) = (l.getD 0 0, 1) := by
  have b0 := hb.byte 0
  unfold F_latin_first
  refine s_alloc0 fun h1 e1 => s_at0 (n := 0) (hb.ext e1) hl fun _ => ?_
  rw [wrap_ok (by omega) (by omega)]
  exact s_ret ⟨rfl, e1, (l.getD 0 0, 1, ()), rfl, rfl⟩
def le16 (r enc : Int) : Prop := r = 0 ∧ enc = 2 ∨ r = 1 ∧ enc = 3
theorem c_unit {b : Sl} {l : List Int} {r enc : Int} (hr : le16 r enc) (hb : Lst .u8 h b l) (hl : 2 ≤ l.length) : Gives P (F_sixteen_unit S (r, ()) b) [.one (.int .i64)] h fun (x : Int × Unit) _ => x.1 = unitF enc l 0 := by
  have b0 := hb.byte 0
  have b1 := hb.byte 1
  unfold le16 at hr
  unfold F_sixteen_unit
  dsimp only
  refine s_allocL [r] (fun x hx => by rw [List.mem_singleton.1 hx, fits_i64]; omega) (by simp) fun h1 e1 o1 => ?_
  refine s_loadL o1.lst (j := 0) (by simp) ?_
  simp only [List.getD_cons_zero]
  refine s_at (hb.ext e1) (by omega) (by omega) fun _ => s_loadL o1.lst (j := 0) (by simp) ?_
  simp only [List.getD_cons_zero]
  rw [sub_ok (by omega) (by omega)]
  refine s_at (hb.ext e1) (by omega) (by omega) fun _ => s_not ?_
  have key : orI .i64 (wrapI .i64 (l.getD r.toNat 0)) (shlI .i64 (wrapI .i64 (l.getD (1 - r).toNat 0)) 8) = unitF enc l 0 := by
    have j : ∀ x y : Int, 0 ≤ x → x ≤ 255 → 0 ≤ y → y ≤ 255 → orI .i64 (wrapI .i64 x) (shlI .i64 (wrapI .i64 y) 8) = x + 256 * y := by
      intro x y x0 x1 y0 y1
      rw [wrap_ok (by omega) (by omega), wrap_ok (by omega) (by omega), shl8 y0 (by omega)]
      have : orI .i64 x (y * 256) = orI .i64 (y * 256) x := by
        unfold orI; rw [BitVec.or_comm]
      rw [this, or64_join (a := y * 256) (b := x) 8 (by omega) (by omega) (by simp) (by omega) (by simp; omega) (by decide)]; omega
    rcases hr with ⟨rfl, rfl⟩ | ⟨rfl, rfl⟩
    · rw [j _ _ (hb.byte _).1 (hb.byte _).2 (hb.byte _).1 (hb.byte _).2]; rfl
    · rw [j _ _ (hb.byte _).1 (hb.byte _).2 (hb.byte _).1 (hb.byte _).2]
      show l.getD 1 0 + 256 * l.getD 0 0 = 256 * l.getD 0 0 + l.getD 1 0
      omega
  rw [key]
  exact s_ret ⟨rfl, e1, (unitF enc l 0, ()), rfl, rfl⟩
theorem unit_bound {enc : Int} {l : List Int} (hb : isBytes l) (i : Nat) : 0 ≤ unitF enc l i ∧ unitF enc l i < 65536 := by
  have h0 := hb.at i
  have h1 := hb.at (i + 1)
  unfold unitF; split <;> omega
theorem c_high {u : Int} (h0 : 0 ≤ u) (h1 : u < 65536) : Gives P (F_codec_high S u) [.one .bool] h fun (x : Bool × Unit) _ => (x.1 = true ↔ 55296 ≤ u ∧ u < 56320) := by
  unfold F_codec_high
  rw [andNot1023 h0 (by omega)]
  exact s_ret ⟨rfl, Ext.refl _, (eqI _ 55296, ()), rfl, by show eqI _ _ = true ↔ _; rw [eqI_iff]; omega⟩
theorem c_low {u : Int} (h0 : 0 ≤ u) (h1 : u < 65536) : Gives P (F_codec_low S u) [.one .bool] h fun (x : Bool × Unit) _ => (x.1 = true ↔ 56320 ≤ u ∧ u < 57344) := by
  unfold F_codec_low
  rw [andNot1023 h0 (by omega)]
  exact s_ret ⟨rfl, Ext.refl _, (eqI _ 56320, ()), rfl, by show eqI _ _ = true ↔ _; rw [eqI_iff]; omega⟩
theorem unitF_drop (enc : Int) (l : List Int) (i : Nat) : unitF enc (l.drop i) 0 = unitF enc l i := by
  unfold unitF; rw [getD_drop, getD_drop]; simp
end Go.Sw.Codec
namespace Go.Sw
open Go.Sw.Codec
variable {P : Program} {S : Ids} {h : Heap} {Q : Nat → List Value → Heap → Prop}
theorem Lst.tail {k : IntKind} {s : Sl} {l : List Int} (hr : Lst k h s l) {i : Nat} (hi : i ≤ l.length) : Lst k h ⟨cutBase s.base s.cap i 1, subN s.len i, subN s.cap i⟩ (l.drop i) :=
  hr.drop hi (by have := hr.cap; unfold subN; omega) (by have := hr.max; unfold subN; omega)
end Go.Sw
namespace Go.Sw.Codec
variable {P : Program} {S : Ids} {h : Heap} {Q : Nat → List Value → Heap → Prop}
theorem c_sixteen_first {b : Sl} {l : List Int} {r enc : Int} (hr : le16 r enc) (hb : Lst .u8 h b l) (hl : 0 < l.length) : Gives P (F_sixteen_first S (r, ()) b) duo h fun (x : Int × Int × Unit) _ => (x.1, x.2.1) = first16 enc l := by
  have hlb := hb.len
  have hby : isBytes l := hb.wf
  have b0 := hb.byte 0
  have hr0 : fitsI .i64 r := by unfold le16 at hr; rw [fits_i64]; omega
  have u0 := unit_bound (enc := enc) hby 0
  have u2 := unit_bound (enc := enc) hby 2
  unfold F_sixteen_first first16
  dsimp only
  refine s_allocL [r] (fun x hx => by rw [List.mem_singleton.1 hx]; exact hr0) (by simp) fun h1 e1 o1 => ?_
  refine wp_ifB (fun hc => ?_) fun hc => ?_
  · rw [eqI_iff, natI_def, hlb] at hc
    rw [if_pos (by omega)]
    refine s_at0 (n := 0) (hb.ext e1) hl fun _ => ?_
    rw [wrap_ok (by omega) (by omega), sub_ok (by omega) (by omega)]
    exact s_ret ⟨rfl, e1, (_, 1, ()), rfl, rfl⟩
  rw [eqI_not, natI_def, hlb] at hc
  rw [if_neg (by omega)]
  refine s_loadA o1.lst (wp_call (c_unit hr (hb.ext e1) (by omega)) fun ⟨(u : Int), _⟩ h2 e2 hu => ?_)
  have hu : u = unitF enc l 0 := hu
  subst hu
  dsimp only
  have e12 := e1.trans e2
  have hb2 := hb.ext e12
  refine wp_bind (fun t vs h' => Ext h h' ∧ (t = 0 ∧ vs = [] ∧ ¬ (55296 ≤ unitF enc l 0 ∧ unitF enc l 0 < 56320 ∧ 4 ≤ l.length ∧ 56320 ≤ unitF enc l 2 ∧ unitF enc l 2 < 57344) ∨
    t = 1 ∧ (55296 ≤ unitF enc l 0 ∧ unitF enc l 0 < 56320 ∧ 4 ≤ l.length ∧ 56320 ≤ unitF enc l 2 ∧ unitF enc l 2 < 57344) ∧ vs = [.int .i64 (65536 + (unitF enc l 0 - 55296) * 1024 + (unitF enc l 2 - 56320)), .int .i64 4])) ?_ ?_
  · refine bind_bool (55296 ≤ unitF enc l 0 ∧ unitF enc l 0 < 56320 ∧ 4 ≤ l.length) ?_ fun c h3 e3 hc3 => wp_ifB (fun h4 => ?_) fun h4 => ?_
    · refine wp_call (c_high u0.1 u0.2) fun x h3 e3 hx => wp_ifB (fun h4 => ?_) fun h4 => ?_
      · refine s_ret ⟨rfl, e3, _, rfl, ?_⟩
        have := hx.1 h4
        rw [geI_iff, natI_def, hlb]; omega
      · refine s_ret ⟨rfl, e3, _, rfl, ?_⟩
        have : ¬ (55296 ≤ unitF enc l 0 ∧ unitF enc l 0 < 56320) := fun h => by rw [hx.2 h] at h4; cases h4
        exact ⟨(fun h => by cases h), fun h => absurd ⟨h.1, h.2.1⟩ this⟩
    · obtain ⟨q1, q2, q3⟩ := hc3.1 h4
      refine s_loadA (o1.ext (e2.trans e3)).lst (s_grd (leB_ok (by decide) (by omega)) (wp_call (c_unit hr ((hb2.ext e3).tail (i := 2) (by omega)) (by rw [List.length_drop]; omega)) fun ⟨(v : Int), _⟩ h5 e5 hv => ?_))
      have hv : v = unitF enc (l.drop 2) 0 := hv
      rw [unitF_drop] at hv
      subst hv
      dsimp only
      refine wp_call (c_low u2.1 u2.2) fun x h6 e6 hx => wp_ifB (fun h4 => s_not ?_) fun h4 => ?_
      · have q4 := hx.1 h4
        rw [and1023, and1023, shl10 (by omega) (by omega), add_ok (a := 65536) (by omega) (by omega), add_ok (by omega) (by omega)]
        refine s_ret ⟨((e12.trans e3).trans e5).trans e6, .inr ⟨rfl, ⟨q1, q2, q3, q4.1, q4.2⟩, ?_⟩⟩
        congr 2; omega
      · have : ¬ (56320 ≤ unitF enc l 2 ∧ unitF enc l 2 < 57344) := fun h => by rw [hx.2 h] at h4; cases h4
        exact s_ret ⟨((e12.trans e3).trans e5).trans e6, .inl ⟨rfl, rfl, fun h => this h.2.2.2⟩⟩
    · have : ¬ (55296 ≤ unitF enc l 0 ∧ unitF enc l 0 < 56320 ∧ 4 ≤ l.length) := fun h => by rw [hc3.2 h] at h4; cases h4
      exact s_ret ⟨e12.trans e3, .inl ⟨rfl, rfl, fun h => this ⟨h.1, h.2.1, h.2.2.1⟩⟩⟩
  · rintro t vs h' ⟨e, ⟨ht, hv, hn⟩ | ⟨ht, hp, hv⟩⟩
    · rw [if_neg hn]
      exact s_skip (by omega) (s_exit ht () hv (s_ret ⟨rfl, e, (unitF enc l 0, 2, ()), rfl, rfl⟩))
    · rw [if_pos hp]
      exact s_exit ht (_, 4, ()) hv (s_ret ⟨rfl, e, (_, 4, ()), rfl, rfl⟩)
theorem i_first (M : Meth0 P S) {enc : Int} (he : known enc) {s : Sl} {l : List Int} (hs : Lst .u8 h s l) (hl : 0 < l.length)
    {K : Int × Int × Unit → Prog} (hk : ∀ (x : Int × Int × Unit) h', Ext h h' → (x.1, x.2.1) = firstF enc l → wp P (K x) h' Q) :
    wp P (.invoke (coder S enc) S.m_first [.slice s.base s.len s.cap] duo K) h Q := by
  rcases known_cases he with rfl | rfl | rfl | rfl
  · exact wp_inv (M.first8 s) (c_eight_first hs hl) hk
  · exact wp_inv (M.first16 0 s) (c_sixteen_first (.inl ⟨rfl, rfl⟩) hs hl) hk
  · exact wp_inv (M.first16 1 s) (c_sixteen_first (.inr ⟨rfl, rfl⟩) hs hl) hk
  · exact wp_inv (M.first1 s) (c_latin_first hs hl) hk
end Go.Sw.Codec
set_option linter.unusedVariables false
set_option linter.unusedSimpArgs false
set_option maxRecDepth 100000
namespace Go.Sw.Codec
variable {P : Program} {S : Ids} {h : Heap} {Q : Nat → List Value → Heap → Prop}
theorem zeros_one {v : Value} : ∀ n, zeros [v] n = List.replicate n v := by
  intro n; induction n with
  | zero => rfl
  | succ n ih => simp [zeros, ih, List.replicate_succ]
theorem firstF_fits {enc : Int} {l : List Int} (hb : isBytes l) : fitsI .i64 (firstF enc l).1 := by
  rw [fits_i64]
  have b0 := hb.at 0
  have u0 := unit_bound (enc := enc) hb 0
  have u2 := unit_bound (enc := enc) hb 2
  have hle := rowG_le (l.getD 0 0) (l.getD 1 0) (l.getD 2 0) (l.getD 3 0) b0.1 b0.2
  have hbn := bounds_n (l.getD 0 0) b0.1 b0.2
  have hm0 : 0 ≤ maskF (rowF l).2 (l.getD 0 0) ∧ maskF (rowF l).2 (l.getD 0 0) < 256 := by unfold maskF; (repeat' split) <;> omega
  have hrf : rowF l = rowG (l.getD 0 0) (l.getD 1 0) (l.getD 2 0) (l.getD 3 0) := rfl
  rw [← hrf] at hle
  have hv := valP_small (l := l) hm0.1 hm0.2 (i := ((rowF l).2 - 1).toNat) (by omega)
  unfold firstF first8 first16
  (repeat' split) <;> dsimp only <;> omega
def DecA (n : Nat) (enc : Int) (l : List Int) (x : Sl × Int × Unit) (h' : Heap) : Prop :=
  (known enc ∧ OwnL n .i64 h' x.1 (dec enc l) ∧ x.2.1 = 0) ∨ (¬ known enc ∧ OwnL n .i64 h' x.1 [] ∧ x.2.1 = 10)
end Go.Sw.Codec
set_option linter.unusedVariables false
set_option linter.unusedSimpArgs false
set_option maxRecDepth 100000
namespace Go.Sw.Codec
theorem first8_cases {l : List Int} (hb : isBytes l) (hl : 0 < l.length) :
    (∃ m : Nat, 1 ≤ m ∧ m ≤ 4 ∧ m ≤ l.length ∧ rowF l = ((m : Int), (m : Int)) ∧ cand m l ∧ first8 l = (meantF m l, (m : Int))) ∨
    ((∀ m : Nat, 1 ≤ m → m ≤ 4 → m ≤ l.length → rowF l ≠ ((m : Int), (m : Int))) ∧ first8 l = (-1 - l.getD 0 0, 1)) := by
  by_cases h : ∃ m : Nat, 1 ≤ m ∧ m ≤ 4 ∧ m ≤ l.length ∧ rowF l = ((m : Int), (m : Int))
  · obtain ⟨m, h1, h4, hm, hr⟩ := h
    exact .inl ⟨m, h1, h4, hm, hr, (cand_iff hb h1 h4 hm).2 hr, meant_val hb h1 h4 hr⟩
  · have hn : ∀ m : Nat, 1 ≤ m → m ≤ 4 → m ≤ l.length → rowF l ≠ ((m : Int), (m : Int)) := fun m h1 h4 hm hr => h ⟨m, h1, h4, hm, hr⟩
    exact .inr ⟨hn, raw_val hb hl hn⟩
end Go.Sw.Codec
set_option linter.unusedVariables false
set_option linter.unusedSimpArgs false
set_option maxRecDepth 100000
namespace Go.Sw.Codec
variable {P : Program} {S : Ids} {h : Heap} {Q : Nat → List Value → Heap → Prop}
theorem DecA.known {n : Nat} {enc : Int} {l : List Int} {x : Sl × Int × Unit} {h1 : Heap} (hk : known enc) (hx : DecA n enc l x h1) : OwnL n .i64 h1 x.1 (dec enc l) ∧ x.2.1 = 0 := by
  rcases hx with ⟨_, o, e⟩ | ⟨k, _⟩
  · exact ⟨o, e⟩
  · exact absurd hk k
end Go.Sw.Codec
set_option linter.unusedVariables false
set_option linter.unusedSimpArgs false
set_option maxRecDepth 100000
namespace Go.Sw.Codec
theorem getD_take {l : List Int} {m i : Nat} (h : i < m) : (l.take m).getD i 0 = l.getD i 0 := by
  rw [List.getD_eq_getElem?_getD, List.getD_eq_getElem?_getD, List.getElem?_take, if_pos h]
theorem row_take {l : List Int} (hb : isBytes l) {m j : Nat} (h1 : 1 ≤ j) (hj : j ≤ m) (hl : j ≤ l.length) : rowF (l.take m) = ((j : Int), (j : Int)) ↔ rowF l = ((j : Int), (j : Int)) := by
  have b0 := hb.at 0
  have c0 := (hb.take m).at 0
  unfold rowF
  rw [row_is b0.1 b0.2 _ (by omega), row_is c0.1 c0.2 _ (by omega)]
  unfold contF
  have g0 : (l.take m).getD 0 0 = l.getD 0 0 := getD_take (by omega)
  have g1 : 2 ≤ j → (l.take m).getD 1 0 = l.getD 1 0 := fun h => getD_take (by omega)
  have g2 : 3 ≤ j → (l.take m).getD 2 0 = l.getD 2 0 := fun h => getD_take (by omega)
  have g3 : 4 ≤ j → (l.take m).getD 3 0 = l.getD 3 0 := fun h => getD_take (by omega)
  rw [g0]
  by_cases j1 : j = 1
  · subst j1; constructor <;> intro h <;> omega
  have g1 := g1 (by omega)
  rw [g1]
  by_cases j2 : j = 2
  · subst j2; constructor <;> intro h <;> omega
  have g2 := g2 (by omega)
  rw [g2]
  by_cases j3 : j = 3
  · subst j3; constructor <;> intro h <;> omega
  have g3 := g3 (by omega)
  rw [g3]
theorem meant_take {l : List Int} {m j : Nat} (h1 : 1 ≤ j) (hj : j ≤ m) (h4 : j ≤ 4) : meantF j (l.take m) = meantF j l := by
  have : j = 1 ∨ j = 2 ∨ j = 3 ∨ j = 4 := by omega
  rcases this with rfl | rfl | rfl | rfl
  · simp only [meantF, mtP, Nat.reduceSub]; rw [getD_take (by omega)]
  · simp only [meantF, mtP, Nat.reduceSub, Nat.reduceAdd]; rw [getD_take (by omega), getD_take (by omega)]
  · simp only [meantF, mtP, Nat.reduceSub, Nat.reduceAdd]; rw [getD_take (by omega), getD_take (by omega), getD_take (by omega)]
  · simp only [meantF, mtP, Nat.reduceSub, Nat.reduceAdd]; rw [getD_take (by omega), getD_take (by omega), getD_take (by omega), getD_take (by omega)]
theorem first_take {enc : Int} {l : List Int} (hb : isBytes l) (hl : 0 < l.length) {m : Nat} (hm : (firstF enc l).2 ≤ m) (hr : enc = 1 ∨ enc = 4 ∨ (2 ≤ m ∨ l.length = 1)) : firstF enc (l.take m) = firstF enc l := by
  have hs := firstF_size (enc := enc) hl hb
  have hml : 0 < (l.take m).length := by rw [List.length_take]; omega
  unfold firstF at hm hs ⊢
  by_cases h1 : enc = 1
  · rw [if_pos h1] at hm hs ⊢
    rw [if_pos h1]
    rcases first8_cases hb hl with ⟨j, j1, j4, jl, hrow, _, hf⟩ | ⟨hn, hf⟩
    · rw [hf] at hm hs ⊢
      dsimp only at hm
      have := (row_take hb (m := m) j1 (by omega) jl).2 hrow
      rw [meant_val (hb.take m) j1 j4 this, meant_take j1 (by omega) j4]
    · rw [hf, raw_val (hb.take m) hml fun j j1 j4 jl hrow => ?_, getD_take (by rw [List.length_take] at hml; omega)]
      rw [List.length_take] at jl
      exact hn j j1 j4 (by omega) ((row_take hb (m := m) j1 (by omega) (by omega)).1 hrow)
  rw [if_neg h1] at hm hs ⊢
  rw [if_neg h1]
  by_cases h4 : enc = 4
  · rw [if_pos h4] at hm hs ⊢
    rw [if_pos h4]
    dsimp only at hm
    rw [getD_take (by omega)]
  rw [if_neg h4] at hm hs ⊢
  rw [if_neg h4]
  unfold first16 at hm hs ⊢
  by_cases hl1 : l.length = 1
  · have : l.take m = l := List.take_of_length_le (by rw [hl1]; rw [if_pos hl1] at hm; dsimp only at hm; omega)
    rw [this]
  rw [if_neg hl1] at hm hs ⊢
  have hm2 : 2 ≤ m := by omega
  rw [List.length_take, if_neg (by omega)]
  have u0 : unitF enc (l.take m) 0 = unitF enc l 0 := by unfold unitF; rw [getD_take (by omega), getD_take (by omega)]
  rw [u0]
  by_cases hp : 55296 ≤ unitF enc l 0 ∧ unitF enc l 0 < 56320 ∧ 4 ≤ l.length ∧ 56320 ≤ unitF enc l 2 ∧ unitF enc l 2 < 57344
  · rw [if_pos hp] at hm ⊢
    dsimp only at hm
    have u2 : unitF enc (l.take m) 2 = unitF enc l 2 := by unfold unitF; rw [getD_take (by omega), getD_take (by omega)]
    rw [u2, if_pos (by omega)]
  · rw [if_neg hp] at hm ⊢
    by_cases h4m : 4 ≤ m
    · have u2 : unitF enc (l.take m) 2 = unitF enc l 2 := by unfold unitF; rw [getD_take (by omega), getD_take (by omega)]
      rw [u2, if_neg (by omega)]
    · rw [if_neg (by omega)]
inductive Bnd (enc : Int) (l : List Int) : Nat → Prop where
  | zero : Bnd enc l 0
  | step {k : Nat} : Bnd enc l k → k < l.length → Bnd enc l (k + (firstF enc (l.drop k)).2.toNat)
theorem Bnd.le {enc : Int} {l : List Int} (hb : isBytes l) {k : Nat} (h : Bnd enc l k) : k ≤ l.length := by
  cases h with
  | zero => omega
  | step h hk =>
    rename_i k
    have := firstF_size (enc := enc) (l := l.drop k) (by rw [List.length_drop]; omega) (hb.drop k)
    rw [List.length_drop] at this
    omega
theorem Bnd.next {enc : Int} {l : List Int} (hb : isBytes l) {j k : Nat} (hj : Bnd enc l j) (hk : Bnd enc l k) (hlt : j < k) : j + (firstF enc (l.drop j)).2.toNat ≤ k := by
  have key : ∀ {k}, Bnd enc l k → ∀ {j}, Bnd enc l j → (j < k → j + (firstF enc (l.drop j)).2.toNat ≤ k) ∧ (k < j → k + (firstF enc (l.drop k)).2.toNat ≤ j) := by
    intro k hk
    induction hk with
    | zero =>
      intro j hj
      refine ⟨fun h => by omega, ?_⟩
      induction hj with
      | zero => intro h; omega
      | step hj hjl ih =>
        rename_i j
        intro _
        by_cases h0 : j = 0
        · subst h0; omega
        · have := ih (by omega); omega
    | step hk hkl ih =>
      rename_i k
      intro j hj
      have hsz := firstF_size (enc := enc) (l := l.drop k) (by rw [List.length_drop]; omega) (hb.drop k)
      have hi := ih hj
      refine ⟨fun h => ?_, ?_⟩
      · by_cases hjk : j < k
        · have := hi.1 hjk; omega
        · by_cases he : j = k
          · subst he; omega
          · have := hi.2 (by omega); omega
      · induction hj with
        | zero => intro h; omega
        | step hj hjl ihj =>
          rename_i j
          intro h
          have hij := ih hj
          by_cases hjk : j < k
          · have := hij.1 hjk; omega
          · by_cases he : j = k
            · subst he; omega
            · by_cases he2 : j = k + (firstF enc (l.drop k)).2.toNat
              · rw [he2]; omega
              · have := ihj hij (by have := hij.2 (by omega); omega)
                omega
  exact (key hk hj).1 hlt
end Go.Sw.Codec
set_option linter.unusedVariables false
set_option linter.unusedSimpArgs false
set_option maxRecDepth 100000
namespace Go.Sw.Codec
theorem first16_two {enc : Int} {l : List Int} (h1 : l.length ≠ 1) (hl : 0 < l.length) : ((first16 enc l).2 = 4 ∧ 55296 ≤ unitF enc l 0 ∧ unitF enc l 0 < 56320 ∧ 4 ≤ l.length ∧ 56320 ≤ unitF enc l 2 ∧ unitF enc l 2 < 57344) ∨
    (first16 enc l = (unitF enc l 0, 2) ∧ ¬ (55296 ≤ unitF enc l 0 ∧ unitF enc l 0 < 56320 ∧ 4 ≤ l.length ∧ 56320 ≤ unitF enc l 2 ∧ unitF enc l 2 < 57344)) := by
  unfold first16
  rw [if_neg h1]
  split
  · rename_i h; exact .inl ⟨rfl, h⟩
  · rename_i h; exact .inr ⟨rfl, h⟩
end Go.Sw.Codec
set_option linter.unusedVariables false
set_option linter.unusedSimpArgs false
set_option maxRecDepth 100000
namespace Go.Sw.Codec
variable {P : Program} {S : Ids} {h : Heap} {Q : Nat → List Value → Heap → Prop}
end Go.Sw.Codec
set_option linter.unusedVariables false
set_option linter.unusedSimpArgs false
set_option maxRecDepth 100000
namespace Go.Sw.Codec
variable {P : Program} {S : Ids} {h : Heap} {Q : Nat → List Value → Heap → Prop}
theorem s_nilok {x : Value} {K : Prog} (hx : NilOk P x) (hk : wp P K h Q) : wp P (.nilok x K) h Q := ⟨hx, hk⟩
def NextR (enc : Int) (l : List Int) (at_ : Int) (x : Int × Int × Unit) : Prop :=
  ((¬ known enc ∨ at_ < 0 ∨ l.length ≤ at_) ∧ x.1 = 0 ∧ x.2.1 = 0) ∨ (known enc ∧ 0 ≤ at_ ∧ at_ < l.length ∧ (x.1, x.2.1) = firstF enc (l.drop at_.toNat))
theorem c_Next (M : Meth0 P S) {enc at_ : Int} {b : Sl} {l : List Int} (hb : Lst .u8 h b l) : Gives P (F_codec_Next S enc b at_) duo h fun (x : Int × Int × Unit) _ => NextR enc l at_ x := by
  have hlb := hb.len
  unfold F_codec_Next
  refine wp_call (c_of enc) fun c h1 e1 hc => ?_
  have hc : c.1 = coder S enc := hc
  rw [hc]
  refine bind_bool (¬ known enc ∨ at_ < 0 ∨ l.length ≤ at_) ?_ fun c h2 e2 hc2 => wp_ifB (fun h3 => ?_) fun h3 => ?_
  · by_cases hk : ¬ known enc
    · rw [coder_unknown hk]
      exact s_grd rfl (s_ifT (s_ret ⟨rfl, Ext.refl _, _, rfl, ⟨fun _ => .inl hk, fun _ => rfl⟩⟩))
    have hk := Classical.not_not.1 hk
    obtain ⟨k1, k2⟩ := coder_known (S := S) hk
    rw [k1, k2]
    refine s_grd rfl (s_ifF (wp_ifB (fun hc => ?_) fun hc => ?_))
    · rw [ltI_iff] at hc
      exact s_ret ⟨rfl, Ext.refl _, _, rfl, ⟨fun _ => .inr (.inl hc), fun _ => rfl⟩⟩
    · rw [ltI_not] at hc
      refine s_ret ⟨rfl, Ext.refl _, _, rfl, ?_⟩
      rw [geI_iff, natI_def, hlb]
      exact ⟨fun h => .inr (.inr h), fun h => by rcases h with h | h | h; exact absurd hk h; omega; exact h⟩
  · exact s_ret ⟨rfl, e1.trans e2, (0, 0, ()), rfl, .inl ⟨hc2.1 h3, rfl, rfl⟩⟩
  · have hn : ¬ (¬ known enc ∨ at_ < 0 ∨ l.length ≤ at_) := fun h => by rw [hc2.2 h] at h3; cases h3
    have hk : known enc := Classical.not_not.1 fun h => hn (.inl h)
    have h0 : 0 ≤ at_ := by
      by_cases h : at_ < 0
      · exact absurd (.inr (.inl h)) hn
      · omega
    have h1' : at_ < l.length := by
      by_cases h : (l.length : Int) ≤ at_
      · exact absurd (.inr (.inr h)) hn
      · omega
    rw [toN_def]
    refine s_grd (leB_ok h0 (by omega)) (s_nilok (M.nilf enc hk) (i_first M hk (s := ⟨_, _, _⟩) (((hb.ext (e1.trans e2)).tail (i := at_.toNat) (by omega))) (by rw [List.length_drop]; omega) fun x h4 e4 hx => s_ret ⟨rfl, (e1.trans e2).trans e4, x, rfl, .inr ⟨hk, h0, h1', hx⟩⟩))
end Go.Sw.Codec
set_option linter.unusedVariables false
set_option linter.unusedSimpArgs false
set_option maxRecDepth 100000
namespace Go.Sw.Codec
def moreE (enc : Int) (l : List Int) : Prop :=
  if enc = 1 then 1 < (rowF l).2 ∧ (rowF l).1 = l.length ∧ (rowF l).1 < (rowF l).2
  else if enc = 4 then False
  else l.length = 1 ∨ (l.length < 4 ∧ 55296 ≤ unitF enc l 0 ∧ unitF enc l 0 < 56320)
theorem first_in_take {enc : Int} {l : List Int} (hb : isBytes l) {m k : Nat} (hm : Bnd enc l m) (hk : Bnd enc l k) (h : k < m) : firstF enc ((l.take m).drop k) = firstF enc (l.drop k) := by
  have hml := hm.le hb
  have hn := hk.next hb hm h
  have hs := firstF_size (enc := enc) (l := l.drop k) (by rw [List.length_drop]; omega) (hb.drop k)
  rw [List.drop_take]
  refine first_take (hb.drop k) (by rw [List.length_drop]; omega) (by omega) ?_
  by_cases h1 : enc = 1
  · exact .inl h1
  by_cases h4 : enc = 4
  · exact .inr (.inl h4)
  refine .inr (.inr ?_)
  by_cases hl1 : (l.drop k).length = 1
  · exact .inr hl1
  · left
    have : (firstF enc (l.drop k)).2 ≠ 1 := by
      unfold firstF; rw [if_neg h1, if_neg h4]
      rcases first16_two (enc := enc) hl1 (by rw [List.length_drop]; omega) with ⟨q, _⟩ | ⟨q, _⟩
      · omega
      · rw [q]; dsimp only; omega
    omega
structure Waits (enc : Int) (all : List Int) (p : Nat) : Prop where
  bytes : isBytes all
  bnd : Bnd enc all p
  sure : ∀ j, Bnd enc all j → j < p → ¬ moreE enc (all.drop j)
  more : p = all.length ∨ p < all.length ∧ moreE enc (all.drop p)
end Go.Sw.Codec
