/-
  Codec: all atoms of the document.
-/
import Derived.Test.YtaebgdhdldfigaaSwCD
set_option linter.unusedVariables false
set_option linter.unusedSimpArgs false
set_option maxRecDepth 100000
namespace Go.Sw.Codec
variable {P : Program} {S : Ids} {h : Heap} {Q : Nat → List Value → Heap → Prop}
def slint : List Ty := [.one .sl, .one (.int .i64)]
theorem c_ref_Decode {enc : Int} {b : Sl} {l : List Int} (hb : Lst .u8 h b l) (hl : l.length ≤ 8796093022208) : Gives P (F_ref1_Decode S enc b) slint h (DecA h.size enc l) := by
 have hlb := hb.len
 have hby : isBytes l := hb.wf
 unfold F_ref1_Decode
 refine wp_call (c_known enc) fun c h1 e1 hc => ?_
 have hc : c.1 = true ↔ known enc := hc
 refine wp_ifB (fun hk => ?_) fun hk => ?_
 ·rw [notB_iff] at hk
  have hk : ¬ known enc := fun h => by rw [hc.2 h] at hk; cases hk
  exact s_ret ⟨rfl, e1, (⟨none, 0, 0⟩, 10, ()), rfl, .inr ⟨hk, OwnL.nil .., rfl⟩⟩
 rw [notB_not] at hk
 have hk := hc.1 hk
 refine wp_while (fun (s : Sl × Int × Unit) h' => Keep h.size h h' ∧ ∃ (k : Nat) (pre : List Int), s.2.1 = k ∧ k ≤ l.length ∧ pre.length ≤ k ∧ OwnL h.size .i64 h' s.1 pre ∧ pre ++ dec enc (l.drop k) = dec enc l) (fun s _ => (l.length - s.2.1).toNat)
  (fun t vs h' => t = 2 ∧ ∃ x : Sl × Unit, vs = Ts.inj [.one .sl] x ∧ Keep h.size h h' ∧ OwnL h.size .i64 h' x.1 (dec enc l)) ⟨e1, 0, [], rfl, by omega, by simp, OwnL.nil .., by simp⟩ ?_ ?_
 ·rintro ⟨out, (i : Int), u⟩ h' ⟨k', k, pre, hik, hk', hp, ho, hd⟩
  dsimp only at hik ho ⊢
  subst hik
  refine wp_ifB (fun hi => ?_) fun hi => ?_
  ·rw [ltI_iff, natI_def, hlb] at hi
   have hpos : 0 < (l.drop k).length := by rw [List.length_drop]; omega
   have hsz := firstF_size (enc := enc) hpos (hby.drop k)
   rw [List.length_drop] at hsz
   refine wp_call (c_ref_At (hb.ext k') (by omega) (by omega)) fun x h2 e2 hx => ?_
   have hx1 : x.1 = (firstF enc (l.drop k)).1 := congrArg Prod.fst hx
   have hx2 : x.2.1 = (firstF enc (l.drop k)).2 := congrArg Prod.snd hx
   rw [hx1, hx2]
   refine s_push (ho.ext e2) (by have := k'.1; have := e2.1; omega) (firstF_fits (hby.drop k)) (by omega) (by omega) fun r h3 k3 o3 _ _ => ?_
   rw [add_ok (by omega) (by omega)]
   refine s_ret ⟨fun _ => ⟨(r, (k : Int) + (firstF enc (l.drop k)).2, ()), rfl, ⟨Keep.trans (Keep.trans k' (e2.keep k'.1)) k3, k + (firstF enc (l.drop k)).2.toNat, pre ++ [(firstF enc (l.drop k)).1], by dsimp only; omega, by omega, by rw [List.length_append]; simp; omega, o3, ?_⟩, by dsimp only; omega⟩, fun h => absurd rfl h⟩
   rw [← hd, dec_cons (hby.drop k) hpos, List.drop_drop, List.append_assoc]; rfl
  ·rw [ltI_not, natI_def, hlb] at hi
   rw [dec_nil (by rw [List.length_drop]; omega), List.append_nil] at hd
   exact s_ret ⟨fun h => absurd h (by decide), fun _ => ⟨rfl, (out, ()), rfl, k', hd ▸ ho⟩⟩
 ·rintro t vs h' ⟨ht, x, hv, k, o⟩
  exact s_exit ht x hv (s_ret ⟨rfl, k, (x.1, 0, ()), rfl, .inl ⟨hk, o, rfl⟩⟩)
end Go.Sw.Codec
