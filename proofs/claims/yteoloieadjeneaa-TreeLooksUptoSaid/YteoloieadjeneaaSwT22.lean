/-
  Tree: a script's steps are read; fits ends.
-/
import Derived.Test.YteoloieadjeneaaSwT21
set_option linter.unusedVariables false
set_option linter.unusedSimpArgs false
set_option maxRecDepth 100000
namespace Go.Sw.Tree
variable {P : Program} {S : Ids} {h : Heap} {Q : Nat → List Value → Heap → Prop}

theorem cell_ext {h h' : Heap} (e : Ext h h') {a : Addr} {v : Value} (c : Sw.cell h a = some v) : Sw.cell h' a = some v := Ext.cell e c
theorem Ops.ext {h h' : Heap} {s : Sl} {l : List OpV} (o : Ops h s l) (e : Ext h h') : Ops h' s l :=
  ⟨o.len, fun i x hi => let ⟨a, h1, h2, h3, h4⟩ := o.at_ i x hi; ⟨a, h1, fun q v hq => cell_ext e (h2 q v hq), h3, h4.ext e⟩, o.cap, o.max⟩

theorem s_opPart {s : Sl} {l : List OpV} {o : OpV} {b : B} {j : Int} {q : Nat} {K : b.den → Prog} (x : b.den) (hr : Ops h s l) (h0 : 0 ≤ j) (hj : l[j.toNat]? = some o) (hq : (cO o)[q]? = some (b.inj x)) (hk : wp P (K x) h Q) :
    wp P (grd (andB (someB s.base) (inB j s.len)) <| grd (someB (shiftTo s.base (mulN (toN j) 7))) <| .load (.one b) (shiftTo (shiftTo s.base (mulN (toN j) 7)) q) K) h Q := by
  obtain ⟨a, ha, hc, _, _⟩ := hr.at_ _ _ hj
  have hlt := (List.getElem?_eq_some_iff.1 hj).1
  have hl := hr.len
  refine wp_grd (andB_iff.2 ⟨by simp [someB, ha], inB_is.2 ⟨h0, by omega⟩⟩) (wp_grd (by simp [someB, ha, shiftTo]) (wp_load1 (a.add (j.toNat * 7 + q)) x ?_ (hc _ _ hq) hk))
  simp [shiftTo, ha, mulN, toN, add_add]

theorem c_fits {s : Sl} {l : List OpV} (hr : Ops h s l) : Gives P (F_law4_fits S s) [.one .bool] h fun (y : Bool × Unit) _ => True := by
  have hlen := hr.len
  have hcap := hr.cap
  have hmax := hr.max
  unfold F_law4_fits Gives
  refine wp_while (fun (r : Int × Int × Int × Unit) h' => Ext h h' ∧ 0 ≤ r.2.2.1 ∧ r.2.2.1 ≤ l.length) (fun r _ => (l.length - r.2.2.1).toNat)
    (fun t vs h' => t = 2 ∧ Ext h h' ∧ ∃ x : Int × Int × Unit, vs = Ts.inj [.one (.int .i64), .one (.int .i64)] x) ⟨Ext.refl h, by simp, by simp⟩ ?_ ?_
  · rintro ⟨(n : Int), (m : Int), (i : Int), u⟩ h1 ⟨e1, i0, i1⟩
    dsimp only at i0 i1 ⊢
    refine wp_bind (fun tg vs h' => tg = 0 ∧ Ext h h' ∧ ∃ b : Bool, vs = [.bool b] ∧ (b = true → i < l.length)) ?_ ?_
    · refine wp_ifB (fun hc => ?_) fun hc => s_ret ⟨rfl, e1, false, rfl, fun h => by cases h⟩
      rw [ltI_iff, natI_def, hlen] at hc
      exact s_ret ⟨rfl, e1, _, rfl, fun _ => hc⟩
    · rintro tg vs h2 ⟨rfl, e2, b, rfl, hb⟩
      refine s_tag ⟨(b, ()), rfl, ?_⟩
      dsimp only
      refine wp_ifB (fun hc => ?_) fun hc => s_ret ⟨fun h => absurd h (by decide), fun _ => ⟨rfl, e2, (n, m, ()), rfl⟩⟩
      have hi := hb hc
      have hj : l[i.toNat]? = some l[i.toNat] := List.getElem?_eq_getElem (by omega)
      have hr2 := hr.ext e2
      refine wp_bind (fun tg vs h' => tg = 0 ∧ Ext h h' ∧ ∃ x : Int × Int × Unit, vs = Ts.inj [.one (.int .i64), .one (.int .i64)] x) ?_ ?_
      · refine s_opPart (b := .sl) (l[i.toNat].s) hr2 i0 hj rfl (wp_bind (fun tg vs h' => tg = 0 ∧ Ext h h' ∧ ∃ b : Bool, vs = [.bool b]) ?_ ?_)
        · refine s_opPart (b := .int .i64) (l[i.toNat].k) hr2 i0 hj rfl (wp_ifB (fun hd => s_ret ⟨rfl, e2, true, rfl⟩) fun hd => ?_)
          exact s_opPart (b := .int .i64) (l[i.toNat].k) hr2 i0 hj rfl (s_ret ⟨rfl, e2, _, rfl⟩)
        · rintro tg vs h3 ⟨rfl, e3, b, rfl⟩
          refine s_tag ⟨(b, ()), rfl, ?_⟩
          dsimp only
          exact wp_ifB (fun _ => s_ret ⟨rfl, e3, (_, _, ()), rfl⟩) fun _ => s_ret ⟨rfl, e3, (_, _, ()), rfl⟩
      · rintro tg vs h3 ⟨rfl, e3, x, rfl⟩
        refine s_tag ⟨x, rfl, ?_⟩
        rw [add_ok (a := i) (by omega) (by omega)]
        exact s_ret ⟨fun _ => ⟨(x.1, x.2.1, i + 1, ()), rfl, ⟨e3, by dsimp only; omega, by dsimp only; omega⟩, by dsimp only; omega⟩, fun h => absurd rfl h⟩
  · rintro tg vs h2 ⟨rfl, e2, x, rfl⟩
    refine s_tag ⟨x, rfl, wp_bind (fun tg vs h' => tg = 0 ∧ Ext h h' ∧ ∃ b : Bool, vs = [.bool b]) ?_ ?_⟩
    · exact wp_ifB (fun _ => wp_ifB (fun _ => wp_ifB (fun _ => s_ret ⟨rfl, e2, _, rfl⟩) fun _ => s_ret ⟨rfl, e2, _, rfl⟩) fun _ => s_ret ⟨rfl, e2, _, rfl⟩) fun _ => s_ret ⟨rfl, e2, _, rfl⟩
    · rintro tg vs h3 ⟨rfl, e3, b, rfl⟩
      exact s_tag ⟨(b, ()), rfl, s_ret ⟨rfl, e3, (b, ()), rfl, trivial⟩⟩

end Go.Sw.Tree
