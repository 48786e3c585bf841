/-
  Tree: the law TreeCuts.
-/
import Derived.Test.YteoloieadjeneaaSwT11
set_option linter.unusedVariables false
set_option linter.unusedSimpArgs false
set_option maxRecDepth 100000
namespace Go.Sw.Tree
variable {P : Program} {S : Ids} {h : Heap} {Q : Nat → List Value → Heap → Prop}

theorem Runs.mid {s : Sl} {l : List (Int × Int)} (hr : Runs h s l) {i j : Nat} (hij : i ≤ j) (hj : j ≤ l.length) : Runs h ⟨cutBase s.base s.cap i 2, subN j i, subN s.cap i⟩ ((l.drop i).take (j - i)) := by
  have hl := hr.len
  have hc := hr.cap
  have hm := hr.max
  have h1 := hr.drop (i := i) (m := s.cap - i) (by omega) (by omega) (by omega)
  exact h1.take (n := j - i) (by rw [List.length_drop]; omega) (by unfold subN; omega) (by unfold subN; omega)

theorem c_num {e : Int} : Gives P (F_law4_num S e) [.one (.int .i64)] h fun (x : Int × Unit) _ => x.1 = e := s_ret ⟨rfl, Ext.refl _, (e, ()), rfl, rfl⟩

/-- What is told by the address of a tree. -/
def ToldT (h0 : Heap) (L : List (Int × Int)) (t : Nat) (vs : List Value) (h' : Heap) : Prop :=
  t = 0 ∧ ∃ (a : Addr) (p : Option Addr), vs = [.pointer (some a), .int .i64 0] ∧ Ext h0 h' ∧ Own h0.size 1 h' ⟨some a, 1, 1⟩ [.pointer p] ∧ ∃ tb, Nd h' p tb ∧ tb.list = L

theorem c_six {hB : Heap} {aT aM aG : Addr} {p q g : Option Addr} {t tm tg : BT} {i : Int} {m1 m2 m3 : Nat} (oT : Own m1 1 hB ⟨some aT, 1, 1⟩ [.pointer p]) (oM : Own m2 1 hB ⟨some aM, 1, 1⟩ [.pointer q]) (oG : Own m3 1 hB ⟨some aG, 1, 1⟩ [.pointer g])
    (nT : Nd hB p t) (nM : Nd hB q tm) (nG : Nd hB g tg) (hw : wfR t.list) (hwM : wfR tm.list) (hwG : wfR tg.list) (hroom : t.list.length < 1099511627778) (hrM : tm.list.length < 1099511627778) (hrG : tg.list.length < 1099511627778)
    (hsum : add (add (sum (t.list.take i.toNat)) (sum tm.list)) (sum tg.list) = sum t.list) : wp P (.both (.load (Ty.agg [B.ptr]) (Option.some aT) fun (r3646 : ((Option Addr) × Unit)) =>
            .load (Ty.agg [B.ptr]) (Option.some aM) fun (r3647 : ((Option Addr) × Unit)) =>
            .load (Ty.agg [B.ptr]) (Option.some aG) fun (r3648 : ((Option Addr) × Unit)) =>
            .call (F_Tree_Run_Upto S (r3646.1, ()) i) [(Ty.agg [(B.int IntKind.i64), (B.int IntKind.i64), (B.int IntKind.i64), (B.int IntKind.i64)])] fun (r3649 : ((Int × (Int × (Int × (Int × Unit)))) × Unit)) =>
            .check (Option.some aG) [(Value.pointer r3648.1)] <|
            .check (Option.some aM) [(Value.pointer r3647.1)] <|
            .call (F_Tree_Run_Sum S (r3647.1, ())) [(Ty.agg [(B.int IntKind.i64), (B.int IntKind.i64), (B.int IntKind.i64), (B.int IntKind.i64)])] fun (r3650 : ((Int × (Int × (Int × (Int × Unit)))) × Unit)) =>
            .check (Option.some aG) [(Value.pointer r3648.1)] <|
            .call (F_Runs_Add S (r3649.1.1, (r3649.1.2.1, (r3649.1.2.2.1, (r3649.1.2.2.2.1, ())))) (r3650.1.1, (r3650.1.2.1, (r3650.1.2.2.1, (r3650.1.2.2.2.1, ()))))) [(Ty.agg [(B.int IntKind.i64), (B.int IntKind.i64), (B.int IntKind.i64), (B.int IntKind.i64)])] fun (r3651 : ((Int × (Int × (Int × (Int × Unit)))) × Unit)) =>
            .check (Option.some aG) [(Value.pointer r3648.1)] <|
            .call (F_Tree_Run_Sum S (r3648.1, ())) [(Ty.agg [(B.int IntKind.i64), (B.int IntKind.i64), (B.int IntKind.i64), (B.int IntKind.i64)])] fun (r3652 : ((Int × (Int × (Int × (Int × Unit)))) × Unit)) =>
            .call (F_Runs_Add S (r3651.1.1, (r3651.1.2.1, (r3651.1.2.2.1, (r3651.1.2.2.2.1, ())))) (r3652.1.1, (r3652.1.2.1, (r3652.1.2.2.1, (r3652.1.2.2.2.1, ()))))) [(Ty.agg [(B.int IntKind.i64), (B.int IntKind.i64), (B.int IntKind.i64), (B.int IntKind.i64)])] fun (r3653 : ((Int × (Int × (Int × (Int × Unit)))) × Unit)) =>
            .alloc [(Value.int IntKind.i64 0), (Value.int IntKind.i64 0), (Value.int IntKind.i64 0), (Value.int IntKind.i64 0)] fun (a3654 : Addr) =>
            .check (Option.some aG) [(Value.pointer r3648.1)] <|
            .check (Option.some aM) [(Value.pointer r3647.1)] <|
            .check (Option.some aT) [(Value.pointer r3646.1)] <|
            .store (Option.some a3654) [(Value.int IntKind.i64 r3653.1.1), (Value.int IntKind.i64 r3653.1.2.1), (Value.int IntKind.i64 r3653.1.2.2.1), (Value.int IntKind.i64 r3653.1.2.2.2.1)] <|
            .ret 0 [(Value.pointer (Option.some a3654))]) <|
            .both (.load (Ty.agg [B.ptr]) (Option.some aT) fun (r3655 : ((Option Addr) × Unit)) =>
            .load (Ty.agg [B.ptr]) (Option.some aM) fun (r3656 : ((Option Addr) × Unit)) =>
            .load (Ty.agg [B.ptr]) (Option.some aG) fun (r3657 : ((Option Addr) × Unit)) =>
            .call (F_Tree_Run_Upto S (r3655.1, ()) i) [(Ty.agg [(B.int IntKind.i64), (B.int IntKind.i64), (B.int IntKind.i64), (B.int IntKind.i64)])] fun (r3658 : ((Int × (Int × (Int × (Int × Unit)))) × Unit)) =>
            .check (Option.some aG) [(Value.pointer r3657.1)] <|
            .check (Option.some aM) [(Value.pointer r3656.1)] <|
            .call (F_Tree_Run_Sum S (r3656.1, ())) [(Ty.agg [(B.int IntKind.i64), (B.int IntKind.i64), (B.int IntKind.i64), (B.int IntKind.i64)])] fun (r3659 : ((Int × (Int × (Int × (Int × Unit)))) × Unit)) =>
            .check (Option.some aG) [(Value.pointer r3657.1)] <|
            .call (F_Runs_Add S (r3658.1.1, (r3658.1.2.1, (r3658.1.2.2.1, (r3658.1.2.2.2.1, ())))) (r3659.1.1, (r3659.1.2.1, (r3659.1.2.2.1, (r3659.1.2.2.2.1, ()))))) [(Ty.agg [(B.int IntKind.i64), (B.int IntKind.i64), (B.int IntKind.i64), (B.int IntKind.i64)])] fun (r3660 : ((Int × (Int × (Int × (Int × Unit)))) × Unit)) =>
            .check (Option.some aG) [(Value.pointer r3657.1)] <|
            .call (F_Tree_Run_Sum S (r3657.1, ())) [(Ty.agg [(B.int IntKind.i64), (B.int IntKind.i64), (B.int IntKind.i64), (B.int IntKind.i64)])] fun (r3661 : ((Int × (Int × (Int × (Int × Unit)))) × Unit)) =>
            .alloc [(Value.int IntKind.i64 0), (Value.int IntKind.i64 0), (Value.int IntKind.i64 0), (Value.int IntKind.i64 0)] fun (a3662 : Addr) =>
            .check (Option.some aG) [(Value.pointer r3657.1)] <|
            .check (Option.some aM) [(Value.pointer r3656.1)] <|
            .check (Option.some aT) [(Value.pointer r3655.1)] <|
            .call (F_Runs_Add S (r3660.1.1, (r3660.1.2.1, (r3660.1.2.2.1, (r3660.1.2.2.2.1, ())))) (r3661.1.1, (r3661.1.2.1, (r3661.1.2.2.1, (r3661.1.2.2.2.1, ()))))) [(Ty.agg [(B.int IntKind.i64), (B.int IntKind.i64), (B.int IntKind.i64), (B.int IntKind.i64)])] fun (r3663 : ((Int × (Int × (Int × (Int × Unit)))) × Unit)) =>
            .store (Option.some a3662) [(Value.int IntKind.i64 r3663.1.1), (Value.int IntKind.i64 r3663.1.2.1), (Value.int IntKind.i64 r3663.1.2.2.1), (Value.int IntKind.i64 r3663.1.2.2.2.1)] <|
            .ret 0 [(Value.pointer (Option.some a3662))]) <|
            .both (.load (Ty.agg [B.ptr]) (Option.some aT) fun (r3664 : ((Option Addr) × Unit)) =>
            .load (Ty.agg [B.ptr]) (Option.some aM) fun (r3665 : ((Option Addr) × Unit)) =>
            .load (Ty.agg [B.ptr]) (Option.some aG) fun (r3666 : ((Option Addr) × Unit)) =>
            .call (F_Tree_Run_Upto S (r3664.1, ()) i) [(Ty.agg [(B.int IntKind.i64), (B.int IntKind.i64), (B.int IntKind.i64), (B.int IntKind.i64)])] fun (r3667 : ((Int × (Int × (Int × (Int × Unit)))) × Unit)) =>
            .check (Option.some aG) [(Value.pointer r3666.1)] <|
            .check (Option.some aM) [(Value.pointer r3665.1)] <|
            .call (F_Tree_Run_Sum S (r3665.1, ())) [(Ty.agg [(B.int IntKind.i64), (B.int IntKind.i64), (B.int IntKind.i64), (B.int IntKind.i64)])] fun (r3668 : ((Int × (Int × (Int × (Int × Unit)))) × Unit)) =>
            .check (Option.some aG) [(Value.pointer r3666.1)] <|
            .call (F_Runs_Add S (r3667.1.1, (r3667.1.2.1, (r3667.1.2.2.1, (r3667.1.2.2.2.1, ())))) (r3668.1.1, (r3668.1.2.1, (r3668.1.2.2.1, (r3668.1.2.2.2.1, ()))))) [(Ty.agg [(B.int IntKind.i64), (B.int IntKind.i64), (B.int IntKind.i64), (B.int IntKind.i64)])] fun (r3669 : ((Int × (Int × (Int × (Int × Unit)))) × Unit)) =>
            .check (Option.some aG) [(Value.pointer r3666.1)] <|
            .alloc [(Value.int IntKind.i64 0), (Value.int IntKind.i64 0), (Value.int IntKind.i64 0), (Value.int IntKind.i64 0)] fun (a3670 : Addr) =>
            .check (Option.some aG) [(Value.pointer r3666.1)] <|
            .check (Option.some aM) [(Value.pointer r3665.1)] <|
            .check (Option.some aT) [(Value.pointer r3664.1)] <|
            .call (F_Tree_Run_Sum S (r3666.1, ())) [(Ty.agg [(B.int IntKind.i64), (B.int IntKind.i64), (B.int IntKind.i64), (B.int IntKind.i64)])] fun (r3671 : ((Int × (Int × (Int × (Int × Unit)))) × Unit)) =>
            .call (F_Runs_Add S (r3669.1.1, (r3669.1.2.1, (r3669.1.2.2.1, (r3669.1.2.2.2.1, ())))) (r3671.1.1, (r3671.1.2.1, (r3671.1.2.2.1, (r3671.1.2.2.2.1, ()))))) [(Ty.agg [(B.int IntKind.i64), (B.int IntKind.i64), (B.int IntKind.i64), (B.int IntKind.i64)])] fun (r3672 : ((Int × (Int × (Int × (Int × Unit)))) × Unit)) =>
            .store (Option.some a3670) [(Value.int IntKind.i64 r3672.1.1), (Value.int IntKind.i64 r3672.1.2.1), (Value.int IntKind.i64 r3672.1.2.2.1), (Value.int IntKind.i64 r3672.1.2.2.2.1)] <|
            .ret 0 [(Value.pointer (Option.some a3670))]) <|
            .both (.load (Ty.agg [B.ptr]) (Option.some aT) fun (r3673 : ((Option Addr) × Unit)) =>
            .load (Ty.agg [B.ptr]) (Option.some aM) fun (r3674 : ((Option Addr) × Unit)) =>
            .load (Ty.agg [B.ptr]) (Option.some aG) fun (r3675 : ((Option Addr) × Unit)) =>
            .call (F_Tree_Run_Upto S (r3673.1, ()) i) [(Ty.agg [(B.int IntKind.i64), (B.int IntKind.i64), (B.int IntKind.i64), (B.int IntKind.i64)])] fun (r3676 : ((Int × (Int × (Int × (Int × Unit)))) × Unit)) =>
            .check (Option.some aG) [(Value.pointer r3675.1)] <|
            .check (Option.some aM) [(Value.pointer r3674.1)] <|
            .call (F_Tree_Run_Sum S (r3674.1, ())) [(Ty.agg [(B.int IntKind.i64), (B.int IntKind.i64), (B.int IntKind.i64), (B.int IntKind.i64)])] fun (r3677 : ((Int × (Int × (Int × (Int × Unit)))) × Unit)) =>
            .check (Option.some aG) [(Value.pointer r3675.1)] <|
            .alloc [(Value.int IntKind.i64 0), (Value.int IntKind.i64 0), (Value.int IntKind.i64 0), (Value.int IntKind.i64 0)] fun (a3678 : Addr) =>
            .check (Option.some aG) [(Value.pointer r3675.1)] <|
            .check (Option.some aM) [(Value.pointer r3674.1)] <|
            .check (Option.some aT) [(Value.pointer r3673.1)] <|
            .call (F_Runs_Add S (r3676.1.1, (r3676.1.2.1, (r3676.1.2.2.1, (r3676.1.2.2.2.1, ())))) (r3677.1.1, (r3677.1.2.1, (r3677.1.2.2.1, (r3677.1.2.2.2.1, ()))))) [(Ty.agg [(B.int IntKind.i64), (B.int IntKind.i64), (B.int IntKind.i64), (B.int IntKind.i64)])] fun (r3679 : ((Int × (Int × (Int × (Int × Unit)))) × Unit)) =>
            .check (Option.some aG) [(Value.pointer r3675.1)] <|
            .call (F_Tree_Run_Sum S (r3675.1, ())) [(Ty.agg [(B.int IntKind.i64), (B.int IntKind.i64), (B.int IntKind.i64), (B.int IntKind.i64)])] fun (r3680 : ((Int × (Int × (Int × (Int × Unit)))) × Unit)) =>
            .call (F_Runs_Add S (r3679.1.1, (r3679.1.2.1, (r3679.1.2.2.1, (r3679.1.2.2.2.1, ())))) (r3680.1.1, (r3680.1.2.1, (r3680.1.2.2.1, (r3680.1.2.2.2.1, ()))))) [(Ty.agg [(B.int IntKind.i64), (B.int IntKind.i64), (B.int IntKind.i64), (B.int IntKind.i64)])] fun (r3681 : ((Int × (Int × (Int × (Int × Unit)))) × Unit)) =>
            .store (Option.some a3678) [(Value.int IntKind.i64 r3681.1.1), (Value.int IntKind.i64 r3681.1.2.1), (Value.int IntKind.i64 r3681.1.2.2.1), (Value.int IntKind.i64 r3681.1.2.2.2.1)] <|
            .ret 0 [(Value.pointer (Option.some a3678))]) <|
            .both (.load (Ty.agg [B.ptr]) (Option.some aT) fun (r3682 : ((Option Addr) × Unit)) =>
            .load (Ty.agg [B.ptr]) (Option.some aM) fun (r3683 : ((Option Addr) × Unit)) =>
            .load (Ty.agg [B.ptr]) (Option.some aG) fun (r3684 : ((Option Addr) × Unit)) =>
            .call (F_Tree_Run_Upto S (r3682.1, ()) i) [(Ty.agg [(B.int IntKind.i64), (B.int IntKind.i64), (B.int IntKind.i64), (B.int IntKind.i64)])] fun (r3685 : ((Int × (Int × (Int × (Int × Unit)))) × Unit)) =>
            .check (Option.some aG) [(Value.pointer r3684.1)] <|
            .check (Option.some aM) [(Value.pointer r3683.1)] <|
            .alloc [(Value.int IntKind.i64 0), (Value.int IntKind.i64 0), (Value.int IntKind.i64 0), (Value.int IntKind.i64 0)] fun (a3686 : Addr) =>
            .check (Option.some aG) [(Value.pointer r3684.1)] <|
            .check (Option.some aM) [(Value.pointer r3683.1)] <|
            .check (Option.some aT) [(Value.pointer r3682.1)] <|
            .call (F_Tree_Run_Sum S (r3683.1, ())) [(Ty.agg [(B.int IntKind.i64), (B.int IntKind.i64), (B.int IntKind.i64), (B.int IntKind.i64)])] fun (r3687 : ((Int × (Int × (Int × (Int × Unit)))) × Unit)) =>
            .check (Option.some aG) [(Value.pointer r3684.1)] <|
            .call (F_Runs_Add S (r3685.1.1, (r3685.1.2.1, (r3685.1.2.2.1, (r3685.1.2.2.2.1, ())))) (r3687.1.1, (r3687.1.2.1, (r3687.1.2.2.1, (r3687.1.2.2.2.1, ()))))) [(Ty.agg [(B.int IntKind.i64), (B.int IntKind.i64), (B.int IntKind.i64), (B.int IntKind.i64)])] fun (r3688 : ((Int × (Int × (Int × (Int × Unit)))) × Unit)) =>
            .check (Option.some aG) [(Value.pointer r3684.1)] <|
            .call (F_Tree_Run_Sum S (r3684.1, ())) [(Ty.agg [(B.int IntKind.i64), (B.int IntKind.i64), (B.int IntKind.i64), (B.int IntKind.i64)])] fun (r3689 : ((Int × (Int × (Int × (Int × Unit)))) × Unit)) =>
            .call (F_Runs_Add S (r3688.1.1, (r3688.1.2.1, (r3688.1.2.2.1, (r3688.1.2.2.2.1, ())))) (r3689.1.1, (r3689.1.2.1, (r3689.1.2.2.1, (r3689.1.2.2.2.1, ()))))) [(Ty.agg [(B.int IntKind.i64), (B.int IntKind.i64), (B.int IntKind.i64), (B.int IntKind.i64)])] fun (r3690 : ((Int × (Int × (Int × (Int × Unit)))) × Unit)) =>
            .store (Option.some a3686) [(Value.int IntKind.i64 r3690.1.1), (Value.int IntKind.i64 r3690.1.2.1), (Value.int IntKind.i64 r3690.1.2.2.1), (Value.int IntKind.i64 r3690.1.2.2.2.1)] <|
            .ret 0 [(Value.pointer (Option.some a3686))]) <|
            .load (Ty.agg [B.ptr]) (Option.some aT) fun (r3691 : ((Option Addr) × Unit)) =>
            .load (Ty.agg [B.ptr]) (Option.some aM) fun (r3692 : ((Option Addr) × Unit)) =>
            .load (Ty.agg [B.ptr]) (Option.some aG) fun (r3693 : ((Option Addr) × Unit)) =>
            .alloc [(Value.int IntKind.i64 0), (Value.int IntKind.i64 0), (Value.int IntKind.i64 0), (Value.int IntKind.i64 0)] fun (a3694 : Addr) =>
            .check (Option.some aG) [(Value.pointer r3693.1)] <|
            .check (Option.some aM) [(Value.pointer r3692.1)] <|
            .check (Option.some aT) [(Value.pointer r3691.1)] <|
            .call (F_Tree_Run_Upto S (r3691.1, ()) i) [(Ty.agg [(B.int IntKind.i64), (B.int IntKind.i64), (B.int IntKind.i64), (B.int IntKind.i64)])] fun (r3695 : ((Int × (Int × (Int × (Int × Unit)))) × Unit)) =>
            .check (Option.some aG) [(Value.pointer r3693.1)] <|
            .check (Option.some aM) [(Value.pointer r3692.1)] <|
            .call (F_Tree_Run_Sum S (r3692.1, ())) [(Ty.agg [(B.int IntKind.i64), (B.int IntKind.i64), (B.int IntKind.i64), (B.int IntKind.i64)])] fun (r3696 : ((Int × (Int × (Int × (Int × Unit)))) × Unit)) =>
            .check (Option.some aG) [(Value.pointer r3693.1)] <|
            .call (F_Runs_Add S (r3695.1.1, (r3695.1.2.1, (r3695.1.2.2.1, (r3695.1.2.2.2.1, ())))) (r3696.1.1, (r3696.1.2.1, (r3696.1.2.2.1, (r3696.1.2.2.2.1, ()))))) [(Ty.agg [(B.int IntKind.i64), (B.int IntKind.i64), (B.int IntKind.i64), (B.int IntKind.i64)])] fun (r3697 : ((Int × (Int × (Int × (Int × Unit)))) × Unit)) =>
            .check (Option.some aG) [(Value.pointer r3693.1)] <|
            .call (F_Tree_Run_Sum S (r3693.1, ())) [(Ty.agg [(B.int IntKind.i64), (B.int IntKind.i64), (B.int IntKind.i64), (B.int IntKind.i64)])] fun (r3698 : ((Int × (Int × (Int × (Int × Unit)))) × Unit)) =>
            .call (F_Runs_Add S (r3697.1.1, (r3697.1.2.1, (r3697.1.2.2.1, (r3697.1.2.2.2.1, ())))) (r3698.1.1, (r3698.1.2.1, (r3698.1.2.2.1, (r3698.1.2.2.2.1, ()))))) [(Ty.agg [(B.int IntKind.i64), (B.int IntKind.i64), (B.int IntKind.i64), (B.int IntKind.i64)])] fun (r3699 : ((Int × (Int × (Int × (Int × Unit)))) × Unit)) =>
            .store (Option.some a3694) [(Value.int IntKind.i64 r3699.1.1), (Value.int IntKind.i64 r3699.1.2.1), (Value.int IntKind.i64 r3699.1.2.2.1), (Value.int IntKind.i64 r3699.1.2.2.2.1)] <|
            .ret 0 [(Value.pointer (Option.some a3694))]) hB (Told hB (sum t.list)) := by
  have vU : V t.list.length (sum (t.list.take i.toNat)) := (V.sum (hw.take _)).mono (by rw [List.length_take]; omega)
  have vM := V.sum hwM
  have vG := V.sum hwG
  have fL := (V.sum hw).fits (by omega)
  refine ⟨?_, ?_, ?_, ?_, ?_, ?_⟩
  · refine s_getT oT (s_getT oM (s_getT oG ?_))
    refine wp_call (c_Upto' (nT.ext (Ext.refl hB)) hw (by omega)) fun x1 k1 d1 hx => ?_
    obtain ⟨x1, w⟩ := x1
    dsimp only at hx
    subst hx
    have E1 := (Ext.refl hB).trans d1
    refine s_ckP (oG.ext E1) ?_
    refine s_ckP (oM.ext E1) ?_
    refine wp_call (c_Sum (nM.ext E1) hwM (by omega)) fun x4 k4 d4 hx => ?_
    obtain ⟨x4, w⟩ := x4
    dsimp only at hx
    subst hx
    have E4 := E1.trans d4
    refine s_ckP (oG.ext E4) ?_
    refine wp_call (c_Add vU vM (by omega)) fun x6 k6 d6 hx => ?_
    obtain ⟨x6, w⟩ := x6
    dsimp only at hx
    subst hx
    have E6 := E4.trans d6
    refine s_ckP (oG.ext E6) ?_
    refine wp_call (c_Sum (nG.ext E6) hwG (by omega)) fun x8 k8 d8 hx => ?_
    obtain ⟨x8, w⟩ := x8
    dsimp only at hx
    subst hx
    have E8 := E6.trans d8
    refine wp_call (c_Add (vU.add vM) vG (by omega)) fun x9 k9 d9 hx => ?_
    obtain ⟨x9, w⟩ := x9
    dsimp only at hx
    rw [hsum] at hx
    subst hx
    have E9 := E8.trans d9
    refine s_zero4 fun k10 d10 oz => ?_
    have hz := (E9).size
    have E10 := E9.trans d10
    refine s_ckP (oG.ext E10) ?_
    refine s_ckP (oM.ext E10) ?_
    refine s_ckP (oT.ext E10) ?_
    exact s_told (sum t.list) oz hz fL E10
  · refine s_getT oT (s_getT oM (s_getT oG ?_))
    refine wp_call (c_Upto' (nT.ext (Ext.refl hB)) hw (by omega)) fun x1 k1 d1 hx => ?_
    obtain ⟨x1, w⟩ := x1
    dsimp only at hx
    subst hx
    have E1 := (Ext.refl hB).trans d1
    refine s_ckP (oG.ext E1) ?_
    refine s_ckP (oM.ext E1) ?_
    refine wp_call (c_Sum (nM.ext E1) hwM (by omega)) fun x4 k4 d4 hx => ?_
    obtain ⟨x4, w⟩ := x4
    dsimp only at hx
    subst hx
    have E4 := E1.trans d4
    refine s_ckP (oG.ext E4) ?_
    refine wp_call (c_Add vU vM (by omega)) fun x6 k6 d6 hx => ?_
    obtain ⟨x6, w⟩ := x6
    dsimp only at hx
    subst hx
    have E6 := E4.trans d6
    refine s_ckP (oG.ext E6) ?_
    refine wp_call (c_Sum (nG.ext E6) hwG (by omega)) fun x8 k8 d8 hx => ?_
    obtain ⟨x8, w⟩ := x8
    dsimp only at hx
    subst hx
    have E8 := E6.trans d8
    refine s_zero4 fun k9 d9 oz => ?_
    have hz := (E8).size
    have E9 := E8.trans d9
    refine s_ckP (oG.ext E9) ?_
    refine s_ckP (oM.ext E9) ?_
    refine s_ckP (oT.ext E9) ?_
    refine wp_call (c_Add (vU.add vM) vG (by omega)) fun x13 k13 d13 hx => ?_
    obtain ⟨x13, w⟩ := x13
    dsimp only at hx
    rw [hsum] at hx
    subst hx
    have E13 := E9.trans d13
    have oz := oz.ext d13
    exact s_told (sum t.list) oz hz fL E13
  · refine s_getT oT (s_getT oM (s_getT oG ?_))
    refine wp_call (c_Upto' (nT.ext (Ext.refl hB)) hw (by omega)) fun x1 k1 d1 hx => ?_
    obtain ⟨x1, w⟩ := x1
    dsimp only at hx
    subst hx
    have E1 := (Ext.refl hB).trans d1
    refine s_ckP (oG.ext E1) ?_
    refine s_ckP (oM.ext E1) ?_
    refine wp_call (c_Sum (nM.ext E1) hwM (by omega)) fun x4 k4 d4 hx => ?_
    obtain ⟨x4, w⟩ := x4
    dsimp only at hx
    subst hx
    have E4 := E1.trans d4
    refine s_ckP (oG.ext E4) ?_
    refine wp_call (c_Add vU vM (by omega)) fun x6 k6 d6 hx => ?_
    obtain ⟨x6, w⟩ := x6
    dsimp only at hx
    subst hx
    have E6 := E4.trans d6
    refine s_ckP (oG.ext E6) ?_
    refine s_zero4 fun k8 d8 oz => ?_
    have hz := (E6).size
    have E8 := E6.trans d8
    refine s_ckP (oG.ext E8) ?_
    refine s_ckP (oM.ext E8) ?_
    refine s_ckP (oT.ext E8) ?_
    refine wp_call (c_Sum (nG.ext E8) hwG (by omega)) fun x12 k12 d12 hx => ?_
    obtain ⟨x12, w⟩ := x12
    dsimp only at hx
    subst hx
    have E12 := E8.trans d12
    have oz := oz.ext d12
    refine wp_call (c_Add (vU.add vM) vG (by omega)) fun x13 k13 d13 hx => ?_
    obtain ⟨x13, w⟩ := x13
    dsimp only at hx
    rw [hsum] at hx
    subst hx
    have E13 := E12.trans d13
    have oz := oz.ext d13
    exact s_told (sum t.list) oz hz fL E13
  · refine s_getT oT (s_getT oM (s_getT oG ?_))
    refine wp_call (c_Upto' (nT.ext (Ext.refl hB)) hw (by omega)) fun x1 k1 d1 hx => ?_
    obtain ⟨x1, w⟩ := x1
    dsimp only at hx
    subst hx
    have E1 := (Ext.refl hB).trans d1
    refine s_ckP (oG.ext E1) ?_
    refine s_ckP (oM.ext E1) ?_
    refine wp_call (c_Sum (nM.ext E1) hwM (by omega)) fun x4 k4 d4 hx => ?_
    obtain ⟨x4, w⟩ := x4
    dsimp only at hx
    subst hx
    have E4 := E1.trans d4
    refine s_ckP (oG.ext E4) ?_
    refine s_zero4 fun k6 d6 oz => ?_
    have hz := (E4).size
    have E6 := E4.trans d6
    refine s_ckP (oG.ext E6) ?_
    refine s_ckP (oM.ext E6) ?_
    refine s_ckP (oT.ext E6) ?_
    refine wp_call (c_Add vU vM (by omega)) fun x10 k10 d10 hx => ?_
    obtain ⟨x10, w⟩ := x10
    dsimp only at hx
    subst hx
    have E10 := E6.trans d10
    have oz := oz.ext d10
    refine s_ckP (oG.ext E10) ?_
    refine wp_call (c_Sum (nG.ext E10) hwG (by omega)) fun x12 k12 d12 hx => ?_
    obtain ⟨x12, w⟩ := x12
    dsimp only at hx
    subst hx
    have E12 := E10.trans d12
    have oz := oz.ext d12
    refine wp_call (c_Add (vU.add vM) vG (by omega)) fun x13 k13 d13 hx => ?_
    obtain ⟨x13, w⟩ := x13
    dsimp only at hx
    rw [hsum] at hx
    subst hx
    have E13 := E12.trans d13
    have oz := oz.ext d13
    exact s_told (sum t.list) oz hz fL E13
  · refine s_getT oT (s_getT oM (s_getT oG ?_))
    refine wp_call (c_Upto' (nT.ext (Ext.refl hB)) hw (by omega)) fun x1 k1 d1 hx => ?_
    obtain ⟨x1, w⟩ := x1
    dsimp only at hx
    subst hx
    have E1 := (Ext.refl hB).trans d1
    refine s_ckP (oG.ext E1) ?_
    refine s_ckP (oM.ext E1) ?_
    refine s_zero4 fun k4 d4 oz => ?_
    have hz := (E1).size
    have E4 := E1.trans d4
    refine s_ckP (oG.ext E4) ?_
    refine s_ckP (oM.ext E4) ?_
    refine s_ckP (oT.ext E4) ?_
    refine wp_call (c_Sum (nM.ext E4) hwM (by omega)) fun x8 k8 d8 hx => ?_
    obtain ⟨x8, w⟩ := x8
    dsimp only at hx
    subst hx
    have E8 := E4.trans d8
    have oz := oz.ext d8
    refine s_ckP (oG.ext E8) ?_
    refine wp_call (c_Add vU vM (by omega)) fun x10 k10 d10 hx => ?_
    obtain ⟨x10, w⟩ := x10
    dsimp only at hx
    subst hx
    have E10 := E8.trans d10
    have oz := oz.ext d10
    refine s_ckP (oG.ext E10) ?_
    refine wp_call (c_Sum (nG.ext E10) hwG (by omega)) fun x12 k12 d12 hx => ?_
    obtain ⟨x12, w⟩ := x12
    dsimp only at hx
    subst hx
    have E12 := E10.trans d12
    have oz := oz.ext d12
    refine wp_call (c_Add (vU.add vM) vG (by omega)) fun x13 k13 d13 hx => ?_
    obtain ⟨x13, w⟩ := x13
    dsimp only at hx
    rw [hsum] at hx
    subst hx
    have E13 := E12.trans d13
    have oz := oz.ext d13
    exact s_told (sum t.list) oz hz fL E13
  · refine s_getT oT (s_getT oM (s_getT oG ?_))
    refine s_zero4 fun k1 d1 oz => ?_
    have hz := ((Ext.refl hB)).size
    have E1 := (Ext.refl hB).trans d1
    refine s_ckP (oG.ext E1) ?_
    refine s_ckP (oM.ext E1) ?_
    refine s_ckP (oT.ext E1) ?_
    refine wp_call (c_Upto' (nT.ext E1) hw (by omega)) fun x5 k5 d5 hx => ?_
    obtain ⟨x5, w⟩ := x5
    dsimp only at hx
    subst hx
    have E5 := E1.trans d5
    have oz := oz.ext d5
    refine s_ckP (oG.ext E5) ?_
    refine s_ckP (oM.ext E5) ?_
    refine wp_call (c_Sum (nM.ext E5) hwM (by omega)) fun x8 k8 d8 hx => ?_
    obtain ⟨x8, w⟩ := x8
    dsimp only at hx
    subst hx
    have E8 := E5.trans d8
    have oz := oz.ext d8
    refine s_ckP (oG.ext E8) ?_
    refine wp_call (c_Add vU vM (by omega)) fun x10 k10 d10 hx => ?_
    obtain ⟨x10, w⟩ := x10
    dsimp only at hx
    subst hx
    have E10 := E8.trans d10
    have oz := oz.ext d10
    refine s_ckP (oG.ext E10) ?_
    refine wp_call (c_Sum (nG.ext E10) hwG (by omega)) fun x12 k12 d12 hx => ?_
    obtain ⟨x12, w⟩ := x12
    dsimp only at hx
    subst hx
    have E12 := E10.trans d12
    have oz := oz.ext d12
    refine wp_call (c_Add (vU.add vM) vG (by omega)) fun x13 k13 d13 hx => ?_
    obtain ⟨x13, w⟩ := x13
    dsimp only at hx
    rw [hsum] at hx
    subst hx
    have E13 := E12.trans d13
    have oz := oz.ext d13
    exact s_told (sum t.list) oz hz fL E13

end Go.Sw.Tree
