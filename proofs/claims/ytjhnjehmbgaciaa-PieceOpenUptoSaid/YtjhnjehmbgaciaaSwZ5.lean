/-
  Arguments of any shape (numbers, truths, lists, structs, arrays, one within another), opened.
-/
import Derived.Test.YtjhnjehmbgaciaaSwZ3
import Derived.OpenShut
set_option linter.unusedVariables false
set_option linter.unusedSimpArgs false
namespace Go.Sw
open Go.ChangeShapes Go.WideShapes Go.ChangeAt Go.RowKit Go.WideElems

inductive Sh where
  | int (k : IntKind)
  | bool
  | list (e : Sh)
  | unit
  | pair (a b : Sh)
  | str (s : Sh)
  | arr (s : Sh)

@[reducible] def Sh.den : Sh → Type
  | .int _ => Int
  | .bool => Bool
  | .list e => Sl × List e.den
  | .unit => Unit
  | .pair a b => a.den × b.den
  | .str s => s.den
  | .arr s => s.den
def Sh.size : Sh → Nat
  | .int _ => 1
  | .bool => 1
  | .list _ => 1
  | .unit => 0
  | .pair a b => a.size + b.size
  | .str s => s.size
  | .arr s => s.size
def Sh.cells : (s : Sh) → s.den → List Value
  | .int k, n => [.int k n]
  | .bool, b => [.bool b]
  | .list _, x => [.slice x.1.base x.1.len x.1.cap]
  | .unit, _ => []
  | .pair a b, x => a.cells x.1 ++ b.cells x.2
  | .str s, x => s.cells x
  | .arr s, x => s.cells x
theorem Sh.cells_len : ∀ (s : Sh) (x : s.den), (s.cells x).length = s.size
  | .int _, _ => rfl
  | .bool, _ => rfl
  | .list _, _ => rfl
  | .unit, _ => rfl
  | .pair a b, x => by simp only [Sh.cells, Sh.size, List.length_append, Sh.cells_len a, Sh.cells_len b]
  | .str s, x => Sh.cells_len s x
  | .arr s, x => Sh.cells_len s x
/-- What is read is there. -/
def Sh.ok (h : Heap) : (s : Sh) → s.den → Prop
  | .int k, n => fitsI k n
  | .bool, _ => True
  | .list e, x => x.1.len = x.2.length ∧ x.1.len ≤ x.1.cap ∧ x.1.cap < 2 ^ 63 ∧ ∀ (i : Nat) (y : e.den), x.2[i]? = some y → ∃ a, x.1.base = some a ∧ Cells h (a.add (i * e.size)) (e.cells y) ∧ e.ok h y
  | .unit, _ => True
  | .pair a b, x => a.ok h x.1 ∧ b.ok h x.2
  | .str s, x => s.ok h x
  | .arr s, x => s.ok h x
theorem Sh.ok.ext {h h' : Heap} (e : Ext h h') : ∀ {s : Sh} {x : s.den}, s.ok h x → s.ok h' x
  | .int _, _, k => k
  | .bool, _, k => k
  | .list _, _, k => ⟨k.1, k.2.1, k.2.2.1, fun i y hi => let ⟨a, h1, h2, h3⟩ := k.2.2.2 i y hi; ⟨a, h1, e.cells h2, Sh.ok.ext e h3⟩⟩
  | .unit, _, k => k
  | .pair _ _, _, k => ⟨Sh.ok.ext e k.1, Sh.ok.ext e k.2⟩
  | .str s, _, k => Sh.ok.ext (s := s) e k
  | .arr s, _, k => Sh.ok.ext (s := s) e k
theorem Keep.cells {n : Nat} {h h' : Heap} (k : Keep n h h') {a : Addr} {vs : List Value} (hc : Cells h a vs) (hb : a.block < n) : Cells h' a vs :=
  cells_iff.2 fun j v hj => by rw [Keep.cell k (by rw [add_block]; exact hb)]; exact cells_iff.1 hc j v hj
/-- How much it is. -/
def Sh.wt : (s : Sh) → s.den → Nat
  | .int _, _ => 1
  | .bool, _ => 1
  | .list e, x => (x.2.map e.wt).sum + 1
  | .unit, _ => 0
  | .pair a b, x => a.wt x.1 + b.wt x.2
  | .str s, x => s.wt x + 1
  | .arr s, x => s.wt x + 1

mutual
/-- A type of this shape. -/
def Sh.is (P : Program) : Sh → TypeId → Bool
  | .int k, t => (match P.underlying t with | some (.int k') => decide (k' = k) | _ => false) && Nat.beq (P.cellsOf t) 1
  | .bool, t => (match P.underlying t with | some .bool => true | _ => false) && Nat.beq (P.cellsOf t) 1
  | .list e, t => (match P.underlying t with | some (.slice te) => e.is P te && Nat.beq (P.cellsOf te) e.size | _ => false) && Nat.beq (P.cellsOf t) 1
  | .str s, t => (match P.underlying t with | some (.struct fs) => s.fis P fs.toList 0 | _ => false) && Nat.beq (P.cellsOf t) s.size
  | .arr s, t => (match P.underlying t with | some (.array n te) => s.ais P te n | _ => false) && Nat.beq (P.cellsOf t) s.size
  | _, _ => false
def Sh.fis (P : Program) : Sh → List Field → Nat → Bool
  | .unit, [], _ => true
  | .pair a b, f :: fs, o => Nat.beq f.offset o && a.is P f.type && Nat.beq (P.cellsOf f.type) a.size && b.fis P fs (o + a.size)
  | _, _, _ => false
def Sh.ais (P : Program) : Sh → TypeId → Nat → Bool
  | .unit, _, 0 => true
  | .pair a b, t, n + 1 => a.is P t && Nat.beq (P.cellsOf t) a.size && b.ais P t n
  | _, _, _ => false
end

variable {H : Type} {enc : TypeId × Value → H} {P : Program}

structure BulkOk (b : DataW H → Nat) (ba : List (DataW H) → Nat) : Prop where
  lit : ∀ k n, 1 ≤ b (.lit (.int k n))
  litB : ∀ x, 1 ≤ b (.lit (.bool x))
  nil : 1 ≤ b .nil
  sl : ∀ e s, ba e + 1 ≤ b (.slice e s)
  agg : ∀ l, ba l + 1 ≤ b (.agg l)
  cons : ∀ d r, b d + ba r ≤ ba (d :: r)

theorem Sh.lst {k : IntKind} {h : Heap} {x : Sl × List Int} (o : (Sh.list (.int k)).ok h x) : Lst k h x.1 x.2 := by
  obtain ⟨h1, h2, h3, h4⟩ := o
  refine ⟨⟨by simpa using h1, fun i v hi => ?_⟩, h2, h3, fun y hy => ?_⟩
  · rw [List.getElem?_map] at hi
    cases hx : x.2[i]? with
    | none => rw [hx] at hi; cases hi
    | some y =>
      rw [hx] at hi
      cases hi
      obtain ⟨a, e, c, _⟩ := h4 i y hx
      refine ⟨a, e, ?_⟩
      have := cells_iff.1 c 0 _ rfl
      rw [add_zero'] at this
      simpa [Sh.size] using this
  · obtain ⟨i, hi⟩ := List.getElem?_of_mem hy
    obtain ⟨a, _, _, f⟩ := h4 i y hi
    exact f
end Go.Sw
