/-
  What the functions of package copyisttop that TopNames reaches answer.
-/
import Derived.Test.YtnkldagljgcmiaaSwFnames
import Derived.Test.YtnkldagljgcmiaaSwU1
set_option linter.unusedVariables false
set_option maxRecDepth 100000
namespace Go.Sw.Names
variable {P : Program} {S : Ids} {h : Heap}

def pairs : List Value → Bool
  | [] => true
  | .int .i64 a :: .int .i64 b :: r => a == b && pairs r
  | _ => false

theorem pairs_at : ∀ (vs : List Value), pairs vs = true → ∀ i, 2 * i < vs.length → ∃ n, vs[2 * i]? = some (.int .i64 n) ∧ vs[2 * i + 1]? = some (.int .i64 n) := by
  intro vs
  induction vs using pairs.induct with
  | case1 => intro _ i hi; simp at hi
  | case2 a b r ih =>
    intro hp i hi
    simp only [pairs, Bool.and_eq_true, beq_iff_eq] at hp
    obtain ⟨rfl, hp⟩ := hp
    cases i with
    | zero => exact ⟨a, rfl, rfl⟩
    | succ i =>
      obtain ⟨n, h1, h2⟩ := ih hp i (by simp at hi; omega)
      exact ⟨n, by rw [show 2 * (i + 1) = 2 * i + 1 + 1 by omega]; simpa using h1, by rw [show 2 * (i + 1) + 1 = (2 * i + 1) + 1 + 1 by omega]; simpa using h2⟩
  | case3 vs h1 h2 => intro hp; simp [pairs] at hp

theorem c_named {s : Sl} {vs : List Value} (hr : Rd 2 h s vs) (hp : pairs vs = true) (hl : 0 < s.len) (hb : s.len < 2 ^ 40) :
    Gives P (F_top_named S s) [.one .bool] h fun (x : Bool × Unit) _ => x.1 = true := by
  unfold F_top_named Gives
  refine wp_bind (fun t vs h' => t = 2 ∧ vs = [] ∧ h' = h) ?_ ?_
  · refine wp_loop (fun (x : Int × Unit) h' => 0 ≤ x.1 ∧ x.1 ≤ s.len ∧ h' = h) (fun (x : Int × Unit) _ => s.len - (x.1 : Int).toNat) ⟨by simp, by simp, rfl⟩ ?_
    rintro ⟨j, _⟩ h' ⟨h0, h1, rfl⟩
    simp only at h0 h1
    have hadd : addI .i64 j 1 = j + 1 := add64 (by omega) (by omega)
    refine wp_ifB (fun hc => ?_) fun hc => ?_
    · rw [ltI_iff, natI_def] at hc
      obtain ⟨n, e1, e2⟩ := pairs_at vs hp j.toNat (by rw [← hr.1]; omega)
      obtain ⟨a, b1, c1⟩ := hr.2 _ _ e1
      obtain ⟨a', b2, c2⟩ := hr.2 _ _ e2
      rw [b1] at b2; cases b2
      have hg : andB (someB s.base) (inB j s.len) = true := by rw [andB_iff, inB_is, b1]; exact ⟨rfl, by omega, by omega⟩
      have hg' : andB (someB (shiftTo s.base (mulN (toN j) 2))) true = true := by rw [b1]; rfl
      refine wp_grd hg (wp_grd hg' (wp_load1 (b := .int .i64) (a.add (2 * j.toNat)) n ?_ c1 (wp_grd hg (wp_grd hg' (wp_load1 (b := .int .i64) (a.add (2 * j.toNat + 1)) n ?_ c2 ?_)))))
      · rw [b1, shiftTo_some, shiftTo_some, add_add, mulN_def, toN_def]; simp [Nat.mul_comm]
      · rw [b1, shiftTo_some, shiftTo_some, add_add, mulN_def, toN_def]; simp [Nat.mul_comm]
      · refine wp_ifB (fun hc => by rw [neI_iff] at hc; exact absurd rfl hc) fun _ => ?_
        refine ⟨fun _ => ⟨(j + 1, ()), by rw [hadd]; rfl, ⟨by simp only; omega, by simp only; omega, rfl⟩, by simp only; omega⟩, fun h => absurd rfl h⟩
    · exact ⟨fun h => (by cases h), fun _ => ⟨rfl, rfl, rfl⟩⟩
  · rintro t vs' h' ⟨rfl, rfl, rfl⟩
    refine wp_ifB (fun _ => ?_) fun hc => by simp [eqN] at hc
    refine wp_cast () rfl ⟨rfl, Ext.refl _, (true, ()), ?_, rfl⟩
    have : gtI (natI s.len) 0 = true := by rw [gtI_iff, natI_def]; omega
    rw [this]; rfl

/-- A list of pairs that was just made. -/
def Listed (x : Sl × Unit) (h : Heap) : Prop := ∃ vs, Rd 2 h x.1 vs ∧ pairs vs = true ∧ 0 < x.1.len ∧ x.1.len < 2 ^ 40

theorem listed {n c : Nat} {vs : List Value} (hp : pairs vs = true) (hn : n * 2 = vs.length) (h0 : 0 < n) (h1 : n < 2 ^ 40) :
    Gives P (.alloc vs fun a => .ret 0 [.slice (some a) n c]) [.one .sl] h Listed := by
  intro elem
  exact ⟨rfl, Ext.push _ _ _, (⟨some ⟨h.size, 0, none⟩, n, c⟩, ()), rfl, vs, rd_alloc hn, hp, h0, h1⟩

theorem c_names1 : Gives P (F_top_names1 S) [.one .sl] h Listed := listed (by rfl) (by rfl) (by decide) (by decide)
theorem c_names2 : Gives P (F_top_names2 S) [.one .sl] h Listed := listed (by rfl) (by rfl) (by decide) (by decide)
theorem c_names3 : Gives P (F_top_names3 S) [.one .sl] h Listed := listed (by rfl) (by rfl) (by decide) (by decide)
theorem c_names4 : Gives P (F_top_names4 S) [.one .sl] h Listed := listed (by rfl) (by rfl) (by decide) (by decide)
theorem c_names5 : Gives P (F_top_names5 S) [.one .sl] h Listed := listed (by rfl) (by rfl) (by decide) (by decide)
theorem c_names6 : Gives P (F_top_names6 S) [.one .sl] h Listed := listed (by rfl) (by rfl) (by decide) (by decide)

theorem c_num (n : Int) : Gives P (F_top_num S n) [.one (.int .i64)] h fun (x : Int × Unit) _ => x.1 = n := ⟨rfl, Ext.refl _, (n, ()), rfl, rfl⟩

theorem c_TopNames : Gives P (F_top_TopNames S) [.one .bool] h fun (x : Bool × Unit) _ => x.1 = true := by
  unfold F_top_TopNames Gives
  refine wp_bind (fun t vs h' => t = 0 ∧ Ext h h' ∧ vs = [.bool true]) ?_ ?_
  · refine wp_call c_names1 fun x h1 e1 ⟨vs, a, b, c, d⟩ => wp_call (c_named a b c d) fun x h2 e2 hx => wp_ifB (fun _ => ?_) fun h => no_tf hx h
    refine wp_call c_names2 fun x h3 e3 ⟨vs, a, b, c, d⟩ => wp_call (c_named a b c d) fun x h4 e4 hx => wp_ifB (fun _ => ?_) fun h => no_tf hx h
    refine wp_call c_names3 fun x h5 e5 ⟨vs, a, b, c, d⟩ => wp_call (c_named a b c d) fun x h6 e6 hx => wp_ifB (fun _ => ?_) fun h => no_tf hx h
    refine wp_call c_names4 fun x h7 e7 ⟨vs, a, b, c, d⟩ => wp_call (c_named a b c d) fun x h8 e8 hx => wp_ifB (fun _ => ?_) fun h => no_tf hx h
    refine wp_call c_names5 fun x h9 e9 ⟨vs, a, b, c, d⟩ => wp_call (c_named a b c d) fun x h10 e10 hx => wp_ifB (fun _ => ?_) fun h => no_tf hx h
    refine wp_call c_names6 fun x h11 e11 ⟨vs, a, b, c, d⟩ => wp_call (c_named a b c d) fun x h12 e12 hx => wp_ifB (fun _ => ?_) fun h => no_tf hx h
    refine wp_call (c_num 0) fun x h13 e13 hx => wp_ifB (fun _ => ?_) fun h => by rw [eqI_not] at h; exact absurd hx h
    refine wp_call (c_num 192) fun x h14 e14 hx => ⟨rfl, ?_, ?_⟩
    · exact (((((((((((e1.trans e2).trans e3).trans e4).trans e5).trans e6).trans e7).trans e8).trans e9).trans e10).trans e11).trans e12).trans (e13.trans e14)
    · have hq : eqI x.1 192 = true := by rw [eqI_iff]; exact hx
      rw [hq]
  · rintro t vs h' ⟨rfl, e, rfl⟩
    exact wp_ifB (fun _ => wp_cast (true, ()) rfl ⟨rfl, e, (true, ()), rfl, rfl⟩) fun hc => by simp [eqN] at hc

end Go.Sw.Names
