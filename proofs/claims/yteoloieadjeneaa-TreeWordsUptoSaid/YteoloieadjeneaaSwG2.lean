/-
  Tree: the law TreeCuts.
-/
import Derived.Test.YteoloieadjeneaaSwG1
set_option linter.unusedVariables false
set_option linter.unusedSimpArgs false
set_option maxRecDepth 100000
namespace Go.Sw.Tree
variable {P : Program} {S : Ids} {h : Heap} {Q : Nat → List Value → Heap → Prop}

theorem Runs.mid {s : Sl} {l : List (Int × Int)} (hr : Runs h s l) {i j : Nat} (hij : i ≤ j) (hj : j ≤ l.length) : Runs h ⟨cutBase s.base s.cap i 2, subN j i, subN s.cap i⟩ ((l.drop i).take (j - i)) := by
  have hl := hr.len
  have hc := hr.cap
  have hm := hr.max
  have h1 := hr.drop (i := i) (m := s.cap - i) (by omega) (by omega) (by omega)
  exact h1.take (n := j - i) (by rw [List.length_drop]; omega) (by unfold subN; omega) (by unfold subN; omega)

theorem c_num {e : Int} : Gives P (F_law4_num S e) [.one (.int .i64)] h fun (x : Int × Unit) _ => x.1 = e := s_ret ⟨rfl, Ext.refl _, (e, ()), rfl, rfl⟩

/-- What is told by the address of a tree. -/
def ToldT (h0 : Heap) (L : List (Int × Int)) (t : Nat) (vs : List Value) (h' : Heap) : Prop :=
  t = 0 ∧ ∃ (a : Addr) (p : Option Addr), vs = [.pointer (some a), .int .i64 0] ∧ Ext h0 h' ∧ Own h0.size 1 h' ⟨some a, 1, 1⟩ [.pointer p] ∧ ∃ tb, Nd h' p tb ∧ tb.list = L

theorem c_six {hB : Heap} {aT aM aG : Addr} {p q g : Option Addr} {t tm tg : BT} {i : Int} {m1 m2 m3 : Nat} (oT : Own m1 1 hB ⟨some aT, 1, 1⟩ [.pointer p]) (oM : Own m2 1 hB ⟨some aM, 1, 1⟩ [.pointer q]) (oG : Own m3 1 hB ⟨some aG, 1, 1⟩ [.pointer g])
    (nT : Nd hB p t) (nM : Nd hB q tm) (nG : Nd hB g tg) (hw : wfR t.list) (hwM : wfR tm.list) (hwG : wfR tg.list) (hroom : t.list.length < 1099511627778) (hrM : tm.list.length < 1099511627778) (hrG : tg.list.length < 1099511627778)
    (hsum : add (add (sum (t.list.take i.toNat)) (sum tm.list)) (sum tg.list) = sum t.list) : wp P (.both (.load (Ty.agg [B.ptr]) (Option.some aT) fun (r3646 : ((Option Addr) × Unit)) =>
            .load (Ty.agg [B.ptr]) (Option.some aM) fun (r3647 : ((Option Addr) × Unit)) =>
            .load (Ty.agg [B.ptr]) (Option.some aG) fun (r3648 : ((Option Addr) × Unit)) =>
            .call (F_Tree_Run_Upto S (r3646.1, ()) i) [(Ty.agg [(B.int IntKind.i64), (B.int IntKind.i64), (B.int IntKind.i64), (B.int IntKind.i64)])] fun (r3649 : ((Int × (Int × (Int × (Int × Unit)))) × Unit)) =>
            .check (Option.some aG) [(Value.pointer r3648.1)] <|
            .check (Option.some aM) [(Value.pointer r3647.1)] <|
            .call (F_Tree_Run_Sum S (r3647.1, ())) [(Ty.agg [(B.int IntKind.i64), (B.int IntKind.i64), (B.int IntKind.i64), (B.int IntKind.i64)])] fun (r3650 : ((Int × (Int × (Int × (Int × Unit)))) × Unit)) =>
            .check (Option.some aG) [(Value.pointer r3648.1)] <|
            .call (F_Runs_Add S (r3649.1.1, (r3649.1.2.1, (r3649.1.2.2.1, (r3649.1.2.2.2.1, ())))) (r3650.1.1, (r3650.1.2.1, (r3650.1.2.2.1, (r3650.1.2.2.2.1, ()))))) [(Ty.agg [(B.int IntKind.i64), (B.int IntKind.i64), (B.int IntKind.i64), (B.int IntKind.i64)])] fun (r3651 : ((Int × (Int × (Int × (Int × Unit)))) × Unit)) =>
            .check (Option.some aG) [(Value.pointer r3648.1)] <|
            .call (F_Tree_Run_Sum S (r3648.1, ())) [(Ty.agg [(B.int IntKind.i64), (B.int IntKind.i64), (B.int IntKind.i64), (B.int IntKind.i64)])] fun (r3652 : ((Int × (Int × (Int × (Int × Unit)))) × Unit)) =>
            .call (F_Runs_Add S (r3651.1.1, (r3651.1.2.1, (r3651.1.2.2.1, (r3651.1.2.2.2.1, ())))) (r3652.1.1, (r3652.1.2.1, (r3652.1.2.2.1, (r3652.1.2.2.2.1, ()))))) [(Ty.agg [(B.int IntKind.i64), (B.int IntKind.i64), (B.int IntKind.i64), (B.int IntKind.i64)])] fun (r3653 : ((Int × (Int × (Int × (Int × Unit)))) × Unit)) =>
            .alloc [(Value.int IntKind.i64 0), (Value.int IntKind.i64 0), (Value.int IntKind.i64 0), (Value.int IntKind.i64 0)] fun (a3654 : Addr) =>
            .check (Option.some aG) [(Value.pointer r3648.1)] <|
            .check (Option.some aM) [(Value.pointer r3647.1)] <|
            .check (Option.some aT) [(Value.pointer r3646.1)] <|
            .store (Option.some a3654) [(Value.int IntKind.i64 r3653.1.1), (Value.int IntKind.i64 r3653.1.2.1), (Value.int IntKind.i64 r3653.1.2.2.1), (Value.int IntKind.i64 r3653.1.2.2.2.1)] <|
            .ret 0 [(Value.pointer (Option.some a3654))]) <|
            .both (.load (Ty.agg [B.ptr]) (Option.some aT) fun (r3655 : ((Option Addr) × Unit)) =>
            .load (Ty.agg [B.ptr]) (Option.some aM) fun (r3656 : ((Option Addr) × Unit)) =>
            .load (Ty.agg [B.ptr]) (Option.some aG) fun (r3657 : ((Option Addr) × Unit)) =>
            .call (F_Tree_Run_Upto S (r3655.1, ()) i) [(Ty.agg [(B.int IntKind.i64), (B.int IntKind.i64), (B.int IntKind.i64), (B.int IntKind.i64)])] fun (r3658 : ((Int × (Int × (Int × (Int × Unit)))) × Unit)) =>
            .check (Option.some aG) [(Value.pointer r3657.1)] <|
            .check (Option.some aM) [(Value.pointer r3656.1)] <|
            .call (F_Tree_Run_Sum S (r3656.1, ())) [(Ty.agg [(B.int IntKind.i64), (B.int IntKind.i64), (B.int IntKind.i64), (B.int IntKind.i64)])] fun (r3659 : ((Int × (Int × (Int × (Int × Unit)))) × Unit)) =>
            .check (Option.some aG) [(Value.pointer r3657.1)] <|
            .call (F_Runs_Add S (r3658.1.1, (r3658.1.2.1, (r3658.1.2.2.1, (r3658.1.2.2.2.1, ())))) (r3659.1.1, (r3659.1.2.1, (r3659.1.2.2.1, (r3659.1.2.2.2.1, ()))))) [(Ty.agg [(B.int IntKind.i64), (B.int IntKind.i64), (B.int IntKind.i64), (B.int IntKind.i64)])] fun (r3660 : ((Int × (Int × (Int × (Int × Unit)))) × Unit)) =>
            .check (Option.some aG) [(Value.pointer r3657.1)] <|
            .call (F_Tree_Run_Sum S (r3657.1, ())) [(Ty.agg [(B.int IntKind.i64), (B.int IntKind.i64), (B.int IntKind.i64), (B.int IntKind.i64)])] fun (r3661 : ((Int × (Int × (Int × (Int × Unit)))) × Unit)) =>
            .alloc [(Value.int IntKind.i64 0), (Value.int IntKind.i64 0), (Value.int IntKind.i64 0), (Value.int IntKind.i64 0)] fun (a3662 : Addr) =>
            .check (Option.some aG) [(Value.pointer r3657.1)] <|
            .check (Option.some aM) [(Value.pointer r3656.1)] <|
            .check (Option.some aT) [(Value.pointer r3655.1)] <|
            .call (F_Runs_Add S (r3660.1.1, (r3660.1.2.1, (r3660.1.2.2.1, (r3660.1.2.2.2.1, ())))) (r3661.1.1, (r3661.1.2.1, (r3661.1.2.2.1, (r3661.1.2.2.2.1, ()))))) [(Ty.agg [(B.int IntKind.i64), (B.int IntKind.i64), (B.int IntKind.i64), (B.int IntKind.i64)])] fun (r3663 : ((Int × (Int × (Int × (Int × Unit)))) × Unit)) =>
            .store (Option.some a3662) [(Value.int IntKind.i64 r3663.1.1), (Value.int IntKind.i64 r3663.1.2.1), (Value.int IntKind.i64 r3663.1.2.2.1), (Value.int IntKind.i64 r3663.1.2.2.2.1)] <|
            .ret 0 [(Value.pointer (Option.some a3662))]) <|
            .both (.load (Ty.agg [B.ptr]) (Option.some aT) fun (r3664 : ((Option Addr) × Unit)) =>
            .load (Ty.agg [B.ptr]) (Option.some aM) fun (r3665 : ((Option Addr) × Unit)) =>
            .load (Ty.agg [B.ptr]) (Option.some aG) fun (r3666 : ((Option Addr) × Unit)) =>
            .call (F_Tree_Run_Upto S (r3664.1, ()) i) [(Ty.agg [(B.int IntKind.i64), (B.int IntKind.i64), (B.int IntKind.i64), (B.int IntKind.i64)])] fun (r3667 : ((Int × (Int × (Int × (Int × Unit)))) × Unit)) =>
            .check (Option.some aG) [(Value.pointer r3666.1)] <|
            .check (Option.some aM) [(Value.pointer r3665.1)] <|
            .call (F_Tree_Run_Sum S (r3665.1, ())) [(Ty.agg [(B.int IntKind.i64), (B.int IntKind.i64), (B.int IntKind.i64), (B.int IntKind.i64)])] fun (r3668 : ((Int × (Int × (Int × (Int × Unit)))) × Unit)) =>
            .check (Option.some aG) [(Value.pointer r3666.1)] <|
            .call (F_Runs_Add S (r3667.1.1, (r3667.1.2.1, (r3667.1.2.2.1, (r3667.1.2.2.2.1, ())))) (r3668.1.1, (r3668.1.2.1, (r3668.1.2.2.1, (r3668.1.2.2.2.1, ()))))) [(Ty.agg [(B.int IntKind.i64), (B.int IntKind.i64), (B.int IntKind.i64), (B.int IntKind.i64)])] fun (r3669 : ((Int × (Int × (Int × (Int × Unit)))) × Unit)) =>
            .check (Option.some aG) [(Value.pointer r3666.1)] <|
            .alloc [(Value.int IntKind.i64 0), (Value.int IntKind.i64 0), (Value.int IntKind.i64 0), (Value.int IntKind.i64 0)] fun (a3670 : Addr) =>
            .check (Option.some aG) [(Value.pointer r3666.1)] <|
            .check (Option.some aM) [(Value.pointer r3665.1)] <|
            .check (Option.some aT) [(Value.pointer r3664.1)] <|
            .call (F_Tree_Run_Sum S (r3666.1, ())) [(Ty.agg [(B.int IntKind.i64), (B.int IntKind.i64), (B.int IntKind.i64), (B.int IntKind.i64)])] fun (r3671 : ((Int × (Int × (Int × (Int × Unit)))) × Unit)) =>
            .call (F_Runs_Add S (r3669.1.1, (r3669.1.2.1, (r3669.1.2.2.1, (r3669.1.2.2.2.1, ())))) (r3671.1.1, (r3671.1.2.1, (r3671.1.2.2.1, (r3671.1.2.2.2.1, ()))))) [(Ty.agg [(B.int IntKind.i64), (B.int IntKind.i64), (B.int IntKind.i64), (B.int IntKind.i64)])] fun (r3672 : ((Int × (Int × (Int × (Int × Unit)))) × Unit)) =>
            .store (Option.some a3670) [(Value.int IntKind.i64 r3672.1.1), (Value.int IntKind.i64 r3672.1.2.1), (Value.int IntKind.i64 r3672.1.2.2.1), (Value.int IntKind.i64 r3672.1.2.2.2.1)] <|
            .ret 0 [(Value.pointer (Option.some a3670))]) <|
            .both (.load (Ty.agg [B.ptr]) (Option.some aT) fun (r3673 : ((Option Addr) × Unit)) =>
            .load (Ty.agg [B.ptr]) (Option.some aM) fun (r3674 : ((Option Addr) × Unit)) =>
            .load (Ty.agg [B.ptr]) (Option.some aG) fun (r3675 : ((Option Addr) × Unit)) =>
            .call (F_Tree_Run_Upto S (r3673.1, ()) i) [(Ty.agg [(B.int IntKind.i64), (B.int IntKind.i64), (B.int IntKind.i64), (B.int IntKind.i64)])] fun (r3676 : ((Int × (Int × (Int × (Int × Unit)))) × Unit)) =>
            .check (Option.some aG) [(Value.pointer r3675.1)] <|
            .check (Option.some aM) [(Value.pointer r3674.1)] <|
            .call (F_Tree_Run_Sum S (r3674.1, ())) [(Ty.agg [(B.int IntKind.i64), (B.int IntKind.i64), (B.int IntKind.i64), (B.int IntKind.i64)])] fun (r3677 : ((Int × (Int × (Int × (Int × Unit)))) × Unit)) =>
            .check (Option.some aG) [(Value.pointer r3675.1)] <|
            .alloc [(Value.int IntKind.i64 0), (Value.int IntKind.i64 0), (Value.int IntKind.i64 0), (Value.int IntKind.i64 0)] fun (a3678 : Addr) =>
            .check (Option.some aG) [(Value.pointer r3675.1)] <|
            .check (Option.some aM) [(Value.pointer r3674.1)] <|
            .check (Option.some aT) [(Value.pointer r3673.1)] <|
            .call (F_Runs_Add S (r3676.1.1, (r3676.1.2.1, (r3676.1.2.2.1, (r3676.1.2.2.2.1, ())))) (r3677.1.1, (r3677.1.2.1, (r3677.1.2.2.1, (r3677.1.2.2.2.1, ()))))) [(Ty.agg [(B.int IntKind.i64), (B.int IntKind.i64), (B.int IntKind.i64), (B.int IntKind.i64)])] fun (r3679 : ((Int × (Int × (Int × (Int × Unit)))) × Unit)) =>
            .check (Option.some aG) [(Value.pointer r3675.1)] <|
            .call (F_Tree_Run_Sum S (r3675.1, ())) [(Ty.agg [(B.int IntKind.i64), (B.int IntKind.i64), (B.int IntKind.i64), (B.int IntKind.i64)])] fun (r3680 : ((Int × (Int × (Int × (Int × Unit)))) × Unit)) =>
            .call (F_Runs_Add S (r3679.1.1, (r3679.1.2.1, (r3679.1.2.2.1, (r3679.1.2.2.2.1, ())))) (r3680.1.1, (r3680.1.2.1, (r3680.1.2.2.1, (r3680.1.2.2.2.1, ()))))) [(Ty.agg [(B.int IntKind.i64), (B.int IntKind.i64), (B.int IntKind.i64), (B.int IntKind.i64)])] fun (r3681 : ((Int × (Int × (Int × (Int × Unit)))) × Unit)) =>
            .store (Option.some a3678) [(Value.int IntKind.i64 r3681.1.1), (Value.int IntKind.i64 r3681.1.2.1), (Value.int IntKind.i64 r3681.1.2.2.1), (Value.int IntKind.i64 r3681.1.2.2.2.1)] <|
            .ret 0 [(Value.pointer (Option.some a3678))]) <|
            .both (.load (Ty.agg [B.ptr]) (Option.some aT) fun (r3682 : ((Option Addr) × Unit)) =>
            .load (Ty.agg [B.ptr]) (Option.some aM) fun (r3683 : ((Option Addr) × Unit)) =>
            .load (Ty.agg [B.ptr]) (Option.some aG) fun (r3684 : ((Option Addr) × Unit)) =>
            .call (F_Tree_Run_Upto S (r3682.1, ()) i) [(Ty.agg [(B.int IntKind.i64), (B.int IntKind.i64), (B.int IntKind.i64), (B.int IntKind.i64)])] fun (r3685 : ((Int × (Int × (Int × (Int × Unit)))) × Unit)) =>
            .check (Option.some aG) [(Value.pointer r3684.1)] <|
            .check (Option.some aM) [(Value.pointer r3683.1)] <|
            .alloc [(Value.int IntKind.i64 0), (Value.int IntKind.i64 0), (Value.int IntKind.i64 0), (Value.int IntKind.i64 0)] fun (a3686 : Addr) =>
            .check (Option.some aG) [(Value.pointer r3684.1)] <|
            .check (Option.some aM) [(Value.pointer r3683.1)] <|
            .check (Option.some aT) [(Value.pointer r3682.1)] <|
            .call (F_Tree_Run_Sum S (r3683.1, ())) [(Ty.agg [(B.int IntKind.i64), (B.int IntKind.i64), (B.int IntKind.i64), (B.int IntKind.i64)])] fun (r3687 : ((Int × (Int × (Int × (Int × Unit)))) × Unit)) =>
            .check (Option.some aG) [(Value.pointer r3684.1)] <|
            .call (F_Runs_Add S (r3685.1.1, (r3685.1.2.1, (r3685.1.2.2.1, (r3685.1.2.2.2.1, ())))) (r3687.1.1, (r3687.1.2.1, (r3687.1.2.2.1, (r3687.1.2.2.2.1, ()))))) [(Ty.agg [(B.int IntKind.i64), (B.int IntKind.i64), (B.int IntKind.i64), (B.int IntKind.i64)])] fun (r3688 : ((Int × (Int × (Int × (Int × Unit)))) × Unit)) =>
            .check (Option.some aG) [(Value.pointer r3684.1)] <|
            .call (F_Tree_Run_Sum S (r3684.1, ())) [(Ty.agg [(B.int IntKind.i64), (B.int IntKind.i64), (B.int IntKind.i64), (B.int IntKind.i64)])] fun (r3689 : ((Int × (Int × (Int × (Int × Unit)))) × Unit)) =>
            .call (F_Runs_Add S (r3688.1.1, (r3688.1.2.1, (r3688.1.2.2.1, (r3688.1.2.2.2.1, ())))) (r3689.1.1, (r3689.1.2.1, (r3689.1.2.2.1, (r3689.1.2.2.2.1, ()))))) [(Ty.agg [(B.int IntKind.i64), (B.int IntKind.i64), (B.int IntKind.i64), (B.int IntKind.i64)])] fun (r3690 : ((Int × (Int × (Int × (Int × Unit)))) × Unit)) =>
            .store (Option.some a3686) [(Value.int IntKind.i64 r3690.1.1), (Value.int IntKind.i64 r3690.1.2.1), (Value.int IntKind.i64 r3690.1.2.2.1), (Value.int IntKind.i64 r3690.1.2.2.2.1)] <|
            .ret 0 [(Value.pointer (Option.some a3686))]) <|
            .load (Ty.agg [B.ptr]) (Option.some aT) fun (r3691 : ((Option Addr) × Unit)) =>
            .load (Ty.agg [B.ptr]) (Option.some aM) fun (r3692 : ((Option Addr) × Unit)) =>
            .load (Ty.agg [B.ptr]) (Option.some aG) fun (r3693 : ((Option Addr) × Unit)) =>
            .alloc [(Value.int IntKind.i64 0), (Value.int IntKind.i64 0), (Value.int IntKind.i64 0), (Value.int IntKind.i64 0)] fun (a3694 : Addr) =>
            .check (Option.some aG) [(Value.pointer r3693.1)] <|
            .check (Option.some aM) [(Value.pointer r3692.1)] <|
            .check (Option.some aT) [(Value.pointer r3691.1)] <|
            .call (F_Tree_Run_Upto S (r3691.1, ()) i) [(Ty.agg [(B.int IntKind.i64), (B.int IntKind.i64), (B.int IntKind.i64), (B.int IntKind.i64)])] fun (r3695 : ((Int × (Int × (Int × (Int × Unit)))) × Unit)) =>
            .check (Option.some aG) [(Value.pointer r3693.1)] <|
            .check (Option.some aM) [(Value.pointer r3692.1)] <|
            .call (F_Tree_Run_Sum S (r3692.1, ())) [(Ty.agg [(B.int IntKind.i64), (B.int IntKind.i64), (B.int IntKind.i64), (B.int IntKind.i64)])] fun (r3696 : ((Int × (Int × (Int × (Int × Unit)))) × Unit)) =>
            .check (Option.some aG) [(Value.pointer r3693.1)] <|
            .call (F_Runs_Add S (r3695.1.1, (r3695.1.2.1, (r3695.1.2.2.1, (r3695.1.2.2.2.1, ())))) (r3696.1.1, (r3696.1.2.1, (r3696.1.2.2.1, (r3696.1.2.2.2.1, ()))))) [(Ty.agg [(B.int IntKind.i64), (B.int IntKind.i64), (B.int IntKind.i64), (B.int IntKind.i64)])] fun (r3697 : ((Int × (Int × (Int × (Int × Unit)))) × Unit)) =>
            .check (Option.some aG) [(Value.pointer r3693.1)] <|
            .call (F_Tree_Run_Sum S (r3693.1, ())) [(Ty.agg [(B.int IntKind.i64), (B.int IntKind.i64), (B.int IntKind.i64), (B.int IntKind.i64)])] fun (r3698 : ((Int × (Int × (Int × (Int × Unit)))) × Unit)) =>
            .call (F_Runs_Add S (r3697.1.1, (r3697.1.2.1, (r3697.1.2.2.1, (r3697.1.2.2.2.1, ())))) (r3698.1.1, (r3698.1.2.1, (r3698.1.2.2.1, (r3698.1.2.2.2.1, ()))))) [(Ty.agg [(B.int IntKind.i64), (B.int IntKind.i64), (B.int IntKind.i64), (B.int IntKind.i64)])] fun (r3699 : ((Int × (Int × (Int × (Int × Unit)))) × Unit)) =>
            .store (Option.some a3694) [(Value.int IntKind.i64 r3699.1.1), (Value.int IntKind.i64 r3699.1.2.1), (Value.int IntKind.i64 r3699.1.2.2.1), (Value.int IntKind.i64 r3699.1.2.2.2.1)] <|
            .ret 0 [(Value.pointer (Option.some a3694))]) hB (Told hB (sum t.list)) := by
  have vU : V t.list.length (sum (t.list.take i.toNat)) := (V.sum (hw.take _)).mono (by rw [List.length_take]; omega)
  have vM := V.sum hwM
  have vG := V.sum hwG
  have fL := (V.sum hw).fits (by omega)
  refine ⟨?_, ?_, ?_, ?_, ?_, ?_⟩
  · refine s_getT oT (s_getT oM (s_getT oG ?_))
    refine wp_call (c_Upto' (nT.ext (Ext.refl hB)) hw (by omega)) fun x1 k1 d1 hx => ?_
    obtain ⟨x1, w⟩ := x1
    dsimp only at hx
    subst hx
    have E1 := (Ext.refl hB).trans d1
    refine s_ckP (oG.ext E1) ?_
    refine s_ckP (oM.ext E1) ?_
    refine wp_call (c_Sum (nM.ext E1) hwM (by omega)) fun x4 k4 d4 hx => ?_
    obtain ⟨x4, w⟩ := x4
    dsimp only at hx
    subst hx
    have E4 := E1.trans d4
    refine s_ckP (oG.ext E4) ?_
    refine wp_call (c_Add vU vM (by omega)) fun x6 k6 d6 hx => ?_
    obtain ⟨x6, w⟩ := x6
    dsimp only at hx
    subst hx
    have E6 := E4.trans d6
    refine s_ckP (oG.ext E6) ?_
    refine wp_call (c_Sum (nG.ext E6) hwG (by omega)) fun x8 k8 d8 hx => ?_
    obtain ⟨x8, w⟩ := x8
    dsimp only at hx
    subst hx
    have E8 := E6.trans d8
    refine wp_call (c_Add (vU.add vM) vG (by omega)) fun x9 k9 d9 hx => ?_
    obtain ⟨x9, w⟩ := x9
    dsimp only at hx
    rw [hsum] at hx
    subst hx
    have E9 := E8.trans d9
    refine s_zero4 fun k10 d10 oz => ?_
    have hz := (E9).size
    have E10 := E9.trans d10
    refine s_ckP (oG.ext E10) ?_
    refine s_ckP (oM.ext E10) ?_
    refine s_ckP (oT.ext E10) ?_
    exact s_told (sum t.list) oz hz fL E10
  · refine s_getT oT (s_getT oM (s_getT oG ?_))
    refine wp_call (c_Upto' (nT.ext (Ext.refl hB)) hw (by omega)) fun x1 k1 d1 hx => ?_
    obtain ⟨x1, w⟩ := x1
    dsimp only at hx
    subst hx
    have E1 := (Ext.refl hB).trans d1
    refine s_ckP (oG.ext E1) ?_
    refine s_ckP (oM.ext E1) ?_
    refine wp_call (c_Sum (nM.ext E1) hwM (by omega)) fun x4 k4 d4 hx => ?_
    obtain ⟨x4, w⟩ := x4
    dsimp only at hx
    subst hx
    have E4 := E1.trans d4
    refine s_ckP (oG.ext E4) ?_
    refine wp_call (c_Add vU vM (by omega)) fun x6 k6 d6 hx => ?_
    obtain ⟨x6, w⟩ := x6
    dsimp only at hx
    subst hx
    have E6 := E4.trans d6
    refine s_ckP (oG.ext E6) ?_
    refine wp_call (c_Sum (nG.ext E6) hwG (by omega)) fun x8 k8 d8 hx => ?_
    obtain ⟨x8, w⟩ := x8
    dsimp only at hx
    subst hx
    have E8 := E6.trans d8
    refine s_zero4 fun k9 d9 oz => ?_
    have hz := (E8).size
    have E9 := E8.trans d9
    refine s_ckP (oG.ext E9) ?_
    refine s_ckP (oM.ext E9) ?_
    refine s_ckP (oT.ext E9) ?_
    refine wp_call (c_Add (vU.add vM) vG (by omega)) fun x13 k13 d13 hx => ?_
    obtain ⟨x13, w⟩ := x13
    dsimp only at hx
    rw [hsum] at hx
    subst hx
    have E13 := E9.trans d13
    have oz := oz.ext d13
    exact s_told (sum t.list) oz hz fL E13
  · refine s_getT oT (s_getT oM (s_getT oG ?_))
    refine wp_call (c_Upto' (nT.ext (Ext.refl hB)) hw (by omega)) fun x1 k1 d1 hx => ?_
    obtain ⟨x1, w⟩ := x1
    dsimp only at hx
    subst hx
    have E1 := (Ext.refl hB).trans d1
    refine s_ckP (oG.ext E1) ?_
    refine s_ckP (oM.ext E1) ?_
    refine wp_call (c_Sum (nM.ext E1) hwM (by omega)) fun x4 k4 d4 hx => ?_
    obtain ⟨x4, w⟩ := x4
    dsimp only at hx
    subst hx
    have E4 := E1.trans d4
    refine s_ckP (oG.ext E4) ?_
    refine wp_call (c_Add vU vM (by omega)) fun x6 k6 d6 hx => ?_
    obtain ⟨x6, w⟩ := x6
    dsimp only at hx
    subst hx
    have E6 := E4.trans d6
    refine s_ckP (oG.ext E6) ?_
    refine s_zero4 fun k8 d8 oz => ?_
    have hz := (E6).size
    have E8 := E6.trans d8
    refine s_ckP (oG.ext E8) ?_
    refine s_ckP (oM.ext E8) ?_
    refine s_ckP (oT.ext E8) ?_
    refine wp_call (c_Sum (nG.ext E8) hwG (by omega)) fun x12 k12 d12 hx => ?_
    obtain ⟨x12, w⟩ := x12
    dsimp only at hx
    subst hx
    have E12 := E8.trans d12
    have oz := oz.ext d12
    refine wp_call (c_Add (vU.add vM) vG (by omega)) fun x13 k13 d13 hx => ?_
    obtain ⟨x13, w⟩ := x13
    dsimp only at hx
    rw [hsum] at hx
    subst hx
    have E13 := E12.trans d13
    have oz := oz.ext d13
    exact s_told (sum t.list) oz hz fL E13
  · refine s_getT oT (s_getT oM (s_getT oG ?_))
    refine wp_call (c_Upto' (nT.ext (Ext.refl hB)) hw (by omega)) fun x1 k1 d1 hx => ?_
    obtain ⟨x1, w⟩ := x1
    dsimp only at hx
    subst hx
    have E1 := (Ext.refl hB).trans d1
    refine s_ckP (oG.ext E1) ?_
    refine s_ckP (oM.ext E1) ?_
    refine wp_call (c_Sum (nM.ext E1) hwM (by omega)) fun x4 k4 d4 hx => ?_
    obtain ⟨x4, w⟩ := x4
    dsimp only at hx
    subst hx
    have E4 := E1.trans d4
    refine s_ckP (oG.ext E4) ?_
    refine s_zero4 fun k6 d6 oz => ?_
    have hz := (E4).size
    have E6 := E4.trans d6
    refine s_ckP (oG.ext E6) ?_
    refine s_ckP (oM.ext E6) ?_
    refine s_ckP (oT.ext E6) ?_
    refine wp_call (c_Add vU vM (by omega)) fun x10 k10 d10 hx => ?_
    obtain ⟨x10, w⟩ := x10
    dsimp only at hx
    subst hx
    have E10 := E6.trans d10
    have oz := oz.ext d10
    refine s_ckP (oG.ext E10) ?_
    refine wp_call (c_Sum (nG.ext E10) hwG (by omega)) fun x12 k12 d12 hx => ?_
    obtain ⟨x12, w⟩ := x12
    dsimp only at hx
    subst hx
    have E12 := E10.trans d12
    have oz := oz.ext d12
    refine wp_call (c_Add (vU.add vM) vG (by omega)) fun x13 k13 d13 hx => ?_
    obtain ⟨x13, w⟩ := x13
    dsimp only at hx
    rw [hsum] at hx
    subst hx
    have E13 := E12.trans d13
    have oz := oz.ext d13
    exact s_told (sum t.list) oz hz fL E13
  · refine s_getT oT (s_getT oM (s_getT oG ?_))
    refine wp_call (c_Upto' (nT.ext (Ext.refl hB)) hw (by omega)) fun x1 k1 d1 hx => ?_
    obtain ⟨x1, w⟩ := x1
    dsimp only at hx
    subst hx
    have E1 := (Ext.refl hB).trans d1
    refine s_ckP (oG.ext E1) ?_
    refine s_ckP (oM.ext E1) ?_
    refine s_zero4 fun k4 d4 oz => ?_
    have hz := (E1).size
    have E4 := E1.trans d4
    refine s_ckP (oG.ext E4) ?_
    refine s_ckP (oM.ext E4) ?_
    refine s_ckP (oT.ext E4) ?_
    refine wp_call (c_Sum (nM.ext E4) hwM (by omega)) fun x8 k8 d8 hx => ?_
    obtain ⟨x8, w⟩ := x8
    dsimp only at hx
    subst hx
    have E8 := E4.trans d8
    have oz := oz.ext d8
    refine s_ckP (oG.ext E8) ?_
    refine wp_call (c_Add vU vM (by omega)) fun x10 k10 d10 hx => ?_
    obtain ⟨x10, w⟩ := x10
    dsimp only at hx
    subst hx
    have E10 := E8.trans d10
    have oz := oz.ext d10
    refine s_ckP (oG.ext E10) ?_
    refine wp_call (c_Sum (nG.ext E10) hwG (by omega)) fun x12 k12 d12 hx => ?_
    obtain ⟨x12, w⟩ := x12
    dsimp only at hx
    subst hx
    have E12 := E10.trans d12
    have oz := oz.ext d12
    refine wp_call (c_Add (vU.add vM) vG (by omega)) fun x13 k13 d13 hx => ?_
    obtain ⟨x13, w⟩ := x13
    dsimp only at hx
    rw [hsum] at hx
    subst hx
    have E13 := E12.trans d13
    have oz := oz.ext d13
    exact s_told (sum t.list) oz hz fL E13
  · refine s_getT oT (s_getT oM (s_getT oG ?_))
    refine s_zero4 fun k1 d1 oz => ?_
    have hz := ((Ext.refl hB)).size
    have E1 := (Ext.refl hB).trans d1
    refine s_ckP (oG.ext E1) ?_
    refine s_ckP (oM.ext E1) ?_
    refine s_ckP (oT.ext E1) ?_
    refine wp_call (c_Upto' (nT.ext E1) hw (by omega)) fun x5 k5 d5 hx => ?_
    obtain ⟨x5, w⟩ := x5
    dsimp only at hx
    subst hx
    have E5 := E1.trans d5
    have oz := oz.ext d5
    refine s_ckP (oG.ext E5) ?_
    refine s_ckP (oM.ext E5) ?_
    refine wp_call (c_Sum (nM.ext E5) hwM (by omega)) fun x8 k8 d8 hx => ?_
    obtain ⟨x8, w⟩ := x8
    dsimp only at hx
    subst hx
    have E8 := E5.trans d8
    have oz := oz.ext d8
    refine s_ckP (oG.ext E8) ?_
    refine wp_call (c_Add vU vM (by omega)) fun x10 k10 d10 hx => ?_
    obtain ⟨x10, w⟩ := x10
    dsimp only at hx
    subst hx
    have E10 := E8.trans d10
    have oz := oz.ext d10
    refine s_ckP (oG.ext E10) ?_
    refine wp_call (c_Sum (nG.ext E10) hwG (by omega)) fun x12 k12 d12 hx => ?_
    obtain ⟨x12, w⟩ := x12
    dsimp only at hx
    subst hx
    have E12 := E10.trans d12
    have oz := oz.ext d12
    refine wp_call (c_Add (vU.add vM) vG (by omega)) fun x13 k13 d13 hx => ?_
    obtain ⟨x13, w⟩ := x13
    dsimp only at hx
    rw [hsum] at hx
    subst hx
    have E13 := E12.trans d13
    have oz := oz.ext d13
    exact s_told (sum t.list) oz hz fL E13

end Go.Sw.Tree

set_option linter.unusedVariables false
set_option linter.unusedSimpArgs false
set_option maxRecDepth 100000
namespace Go.Sw.Tree
variable {P : Program} {S : Ids} {h : Heap} {Q : Nat → List Value → Heap → Prop}

theorem cut_back {L o : List (Int × Int)} {i j : Nat} (hij : i ≤ j) (hj : j ≤ L.length) :
    ((L.take i ++ o ++ L.drop j).take i ++ (L.drop i).take (j - i) ++ (L.take i ++ o ++ L.drop j).drop (i + o.length)) = L := by
  have h1 : (L.take i).length = i := by rw [List.length_take]; omega
  rw [List.append_assoc (L.take i), List.take_left' h1]
  have h2 : (L.take i ++ (o ++ L.drop j)).drop (i + o.length) = L.drop j := by
    rw [← List.append_assoc, List.drop_left' (by rw [List.length_append, h1])]
  rw [h2, List.append_assoc]
  have h3 : (L.drop i).take (j - i) ++ L.drop j = L.drop i := by
    have : L.drop j = (L.drop i).drop (j - i) := by rw [List.drop_drop]; congr 1; omega
    rw [this, List.take_append_drop]
  rw [h3, List.take_append_drop]

theorem mid_sum {L : List (Int × Int)} {i j : Nat} (hw : wfR L) (hij : i ≤ j) : add (add (sum (L.take i)) (sum ((L.drop i).take (j - i)))) (sum (L.drop j)) = sum L := by
  rw [← sum_append (hw.take _) ((hw.drop _).take _), ← sum_append ((hw.take _).append ((hw.drop _).take _)) (hw.drop _), List.append_assoc]
  congr 1
  have : L.drop j = (L.drop i).drop (j - i) := by rw [List.drop_drop]; congr 1; omega
  rw [this, List.take_append_drop, List.take_append_drop]

theorem c_TreeCuts {s o : Sl} {l lo : List (Int × Int)} {fr to : Int} (hr : Runs h s l) (ho : Runs h o lo) : Gives P (F_law4_TreeCuts S s fr to o) [.one .bool] h fun (x : Bool × Unit) _ => x.1 = true := by
  have hlen := hr.len
  have hlo := ho.len
  unfold F_law4_TreeCuts Gives
  refine bind_bool (1099511627776 < l.length ∨ 1099511627776 < lo.length) ?_ fun big h1 e1 hbig => ?_
  · refine wp_ifB (fun hx => ?_) fun hx => ?_
    · rw [gtI_iff, natI_def, hlen] at hx
      exact s_ret ⟨rfl, Ext.refl _, true, rfl, fun _ => .inl (by omega), fun _ => rfl⟩
    · rw [gtI_not, natI_def, hlen] at hx
      refine s_ret ⟨rfl, Ext.refl _, gtI (natI o.len) 1099511627776, rfl, ?_⟩
      rw [gtI_iff, natI_def, hlo]; omega
  dsimp only
  refine wp_ifB (fun hx => s_ret ⟨rfl, e1, (true, ()), rfl, rfl⟩) fun hx => ?_
  have hno : ¬(1099511627776 < l.length ∨ 1099511627776 < lo.length) := fun x => by rw [hbig.2 x] at hx; cases hx
  have hr1 := hr.ext e1
  have ho1 := ho.ext e1
  have h11 : wfR [((1 : Int), (1 : Int))] := by intro r hr; rw [List.mem_singleton.1 hr]; exact ⟨fits_i64.2 (by decide), fits_i64.2 (by decide)⟩
  intro elem
  have e2 : Ext h1 (h1.push (.cells [.int .i64 1, .int .i64 1].toArray elem)) := Ext.push ..
  have o2 : OwnR h1.size (h1.push (.cells [.int .i64 1, .int .i64 1].toArray elem)) ⟨some ⟨h1.size, 0, none⟩, 1, 1⟩ [(1, 1)] := ⟨own_alloc rfl (by decide) (by decide), h11⟩
  generalize (h1.push (.cells [.int .i64 1, .int .i64 1].toArray elem)) = h2 at e2 o2 ⊢
  refine s_append2 o2 e2.size (hr1.ext e2) (by simp; omega) fun r2 h3 k2 o3 => ?_
  have e3 : Ext h1 h3 := Keep.trans e2 k2
  rw [show [((1 : Int), (1 : Int))] ++ l = (1, 1) :: l from rfl] at o3
  have hL : ((1, 1) :: l).length ≤ 1099511627777 := by simp; omega
  have hr2 := o3.len
  revert hL hr2
  generalize hLL : ((1 : Int), (1 : Int)) :: l = L at o3
  intro hL hr2
  have hw := o3.wf
  have hwo := ho.wf
  refine wp_call (c_Of o3.runs (by omega)) fun y h4 e4 hy => ?_
  obtain ⟨⟨(p : Option Addr), w0⟩, w1⟩ := y
  obtain ⟨t, nt, rfl, _⟩ := hy
  dsimp only at nt ⊢
  refine s_putTree p nt fun h5 e5 oT => ?_
  have nt5 := nt.ext e5
  have o5 := (o3.ext e4).ext e5
  have ho5 := ((ho1.ext e3).ext e4).ext e5
  have e15 := ((e1.trans e3).trans e4).trans e5
  rw [natI_def, hr2]
  refine wp_call (c_slot (by omega) (by omega)) fun y h6 e6 hy => ?_
  obtain ⟨(s1 : Int), w2⟩ := y
  refine wp_call (c_slot (by omega) (by omega)) fun z h7 e7 hz => ?_
  obtain ⟨(s2 : Int), w3⟩ := z
  dsimp only at hy hz ⊢
  refine bind_val (tys := [.one (.int .i64), .one (.int .i64)]) (fun (x : Int × Int × Unit) _ => 0 ≤ x.1 ∧ x.1 ≤ x.2.1 ∧ x.2.1 ≤ t.list.length) ?_ fun x h8 e8 hx => ?_
  · refine wp_ifB (fun hc => ?_) fun hc => ?_
    · rw [gtI_iff] at hc
      exact s_ret ⟨rfl, Ext.refl _, (s2, s1, ()), rfl, hz.1, by dsimp only; omega, hy.2⟩
    · rw [gtI_not] at hc
      exact s_ret ⟨rfl, Ext.refl _, (s1, s2, ()), rfl, hy.1, hc, hz.2⟩
  obtain ⟨(i : Int), (j : Int), w4⟩ := x
  obtain ⟨hi0, hij, hjn⟩ := hx
  dsimp only at hi0 hij hjn ⊢
  have e58 := (e6.trans e7).trans e8
  have oT8 := oT.ext e58
  have nt8 := nt5.ext e58
  have o8 := o5.ext e58
  have ho8 := ho5.ext e58
  have hcap := o8.runs.cap
  have hslice : ∀ {h'}, Ext h8 h' → Runs h' ⟨cutBase r2.base r2.cap (toN i) 2, subN (toN j) (toN i), subN r2.cap (toN i)⟩ ((t.list.drop i.toNat).take (j.toNat - i.toNat)) := fun e => (o8.runs.ext e).mid (i := i.toNat) (j := j.toNat) (by omega) (by omega)
  have hgrd : andB (leB j r2.cap) (leB i (toN j)) = true := andB_iff.2 ⟨leB_ok (by omega) (by omega), leB_ok hi0 (by rw [toN_def]; omega)⟩
  have hmid : ((t.list.drop i.toNat).take (j.toNat - i.toNat)).length = j.toNat - i.toNat := by rw [List.length_take, List.length_drop]; omega
  refine s_getT oT8 (wp_call (c_Replace nt8 ho8 hw hi0 hij hjn (by omega)) fun y h9 e9 hy => ?_)
  obtain ⟨⟨(pu : Option Addr), w5⟩, (eu : Int), w6⟩ := y
  obtain ⟨heu, tu, nu, lu, _⟩ := hy
  dsimp only at heu nu ⊢
  subst heu
  refine s_putTree pu nu fun h10 e10 oU => ?_
  have nu10 := nu.ext e10
  have e810 := e9.trans e10
  have hlu : tu.list.length = i.toNat + lo.length + (t.list.length - j.toNat) := by
    rw [lu, List.length_append, List.length_append, List.length_take, List.length_drop]; omega
  have hwu : wfR tu.list := by rw [lu]; exact ((hw.take _).append hwo).append (hw.drop _)
  have hback : tu.list.take i.toNat ++ (t.list.drop i.toNat).take (j.toNat - i.toNat) ++ tu.list.drop (i + lo.length).toNat = t.list := by
    rw [lu, show (i + (lo.length : Int)).toNat = i.toNat + lo.length by omega]
    exact cut_back (by omega) (by omega)
  rw [natI_def, hlo, add_ok (a := i) (by omega) (by omega)]
  refine wp_bind (ToldT h10 t.list) ⟨?_, ?_⟩ ?_
  · refine s_getT oU (s_grd hgrd (wp_call (c_Replace nu10 (hslice e810) hwu hi0 (by omega) (by omega) (by rw [hmid]; omega)) fun y k1 d1 hy => ?_))
    obtain ⟨⟨(pb : Option Addr), w7⟩, (eb : Int), w8⟩ := y
    obtain ⟨heb, tb, nb, lb, _⟩ := hy
    dsimp only at heb nb ⊢
    subst heb
    refine s_newP none fun k2 d2 o => s_ckP ((oU.ext d1).ext d2) (s_putP pb o fun k3 o3 u3 => s_ret ⟨rfl, _, pb, rfl, Upd.extN (d1.trans d2) u3 (by intro a ha; cases ha; exact d1.size), o3.mono d1.size, tb, (nb.ext d2).upd u3 o (by decide), by rw [lb]; exact hback⟩)
  · refine s_getT oU (s_grd hgrd (s_newP none fun k1 d1 oz => s_ckP (oU.ext d1) (wp_call (c_Replace (nu10.ext d1) (hslice (e810.trans d1)) hwu hi0 (by omega) (by omega) (by rw [hmid]; omega)) fun y k2 d2 hy => ?_)))
    obtain ⟨⟨(pb : Option Addr), w7⟩, (eb : Int), w8⟩ := y
    obtain ⟨heb, tb, nb, lb, _⟩ := hy
    dsimp only at heb nb ⊢
    subst heb
    refine s_putP pb (oz.ext d2) fun k3 o3 u3 => s_ret ⟨rfl, _, pb, rfl, Upd.extN (d1.trans d2) u3 (by intro a ha; cases ha; exact Nat.le_refl _), o3, tb, nb.upd u3 (oz.ext d2) (by decide), by rw [lb]; exact hback⟩
  rintro tg vs h11 ⟨rfl, aB, pb, rfl, e11, oB, tb, nb, lb⟩
  refine s_tag ⟨(some aB, 0, ()), rfl, ?_⟩
  dsimp only
  have e811 := e810.trans e11
  refine s_getT (oT8.ext e811) (wp_call (c_Replace (i := Int.ofNat 0) (its := []) (nt8.ext e811) ⟨⟨rfl, fun i v hi => by simp [cR] at hi⟩, Nat.le_refl _, by decide, by simp [wfR]⟩ hw (by decide) (by show (0 : Int) ≤ j; omega) hjn (by simp; omega)) fun y h12 e12 hy => ?_)
  obtain ⟨⟨(pg : Option Addr), w7⟩, (eg : Int), w8⟩ := y
  obtain ⟨heg, tg, ng, lg, _⟩ := hy
  dsimp only at heg ng ⊢
  subst heg
  have lg : tg.list = t.list.drop j.toNat := by rw [lg]; rfl
  refine s_putTree pg ng fun h13 e13 oG => ?_
  have ng13 := ng.ext e13
  have e813 := (e811.trans e12).trans e13
  have e1113 := e12.trans e13
  refine bind_bool False ?_ fun b h14 e14 hb => ?_
  · refine wp_call c_num fun y k1 d1 hy => ?_
    obtain ⟨(y : Int), w1⟩ := y
    dsimp only at hy ⊢
    subst hy
    refine s_ifF (wp_call c_num fun y k2 d2 hy => ?_)
    obtain ⟨(y : Int), w1⟩ := y
    dsimp only at hy ⊢
    subst hy
    refine s_ifF (wp_call c_num fun y k3 d3 hy => ?_)
    obtain ⟨(y : Int), w1⟩ := y
    dsimp only at hy ⊢
    subst hy
    exact s_ret ⟨rfl, (d1.trans d2).trans d3, false, rfl, Iff.intro (fun x => by cases x) False.elim⟩
  have hbf : b = false := by cases b; rfl; exact (hb.1 rfl).elim
  subst hbf
  dsimp only
  have e814 := e813.trans e14
  refine s_ifF (s_grd hgrd (wp_call (c_Of (hslice e814) (by rw [hmid]; omega)) fun y h15 e15' hy => ?_))
  obtain ⟨⟨(pm : Option Addr), w9⟩, w10⟩ := y
  obtain ⟨tm, nm, lm, _⟩ := hy
  dsimp only at nm ⊢
  refine s_putTree pm nm fun h16 e16 oM => ?_
  have e1316 := (e14.trans e15').trans e16
  have e816 := e813.trans e1316
  have oT16 := oT8.ext e816
  have nt16 := nt8.ext e816
  have oG16 := oG.ext e1316
  have ng16 := ng13.ext e1316
  have nm16 := nm.ext e16
  have hwm : wfR tm.list := by rw [lm]; exact (hw.drop _).take _
  have hwg : wfR tg.list := by rw [lg]; exact hw.drop _
  have hgl : tg.list.length = t.list.length - j.toNat := by rw [lg, List.length_drop]
  have hml : tm.list.length = j.toNat - i.toNat := by rw [lm, hmid]
  have hsum : add (add (sum (t.list.take i.toNat)) (sum tm.list)) (sum tg.list) = sum t.list := by rw [lm, lg]; exact mid_sum hw (by omega)
  refine wp_bind (Told h16 (sum t.list)) (c_six oT16 oM oG16 nt16 nm16 ng16 hw hwm hwg (by omega) (by omega) (by omega) hsum) ?_
  rintro tg' vs h17 ⟨rfl, aS, rfl, e17, oS⟩
  refine s_tag ⟨(some aS, ()), rfl, ?_⟩
  dsimp only
  have e817 := e816.trans e17
  refine wp_call (c_Of (o8.runs.ext e817) (by omega)) fun y h18 e18 hy => ?_
  obtain ⟨⟨(pa : Option Addr), w11⟩, w12⟩ := y
  obtain ⟨ta, na, la, _⟩ := hy
  dsimp only at na ⊢
  refine s_putTree pa na fun h19 e19 oA => ?_
  have na19 := na.ext e19
  have e1719 := e18.trans e19
  have e819 := e817.trans e1719
  have e1119 := e1113.trans ((e1316.trans e17).trans e1719)
  have e1019 := e11.trans e1119
  have e1319 := (e1316.trans e17).trans e1719
  have oT := oT8.ext e819
  have nt := nt8.ext e819
  have oS := oS.ext e1719
  have oB := oB.ext e1119
  have nb := nb.ext e1119
  have oU := oU.ext e1019
  have nu := nu10.ext e1019
  have oG := oG.ext e1319
  have ng := ng13.ext e1319
  have hoo := ho8.ext e819
  have eall := (e15.trans e58).trans e819
  have vL := V.sum hw
  have hsu : sum tu.list = add (add (sum (t.list.take i.toNat)) (sum lo)) (sum tg.list) := by
    rw [lu, sum_append ((hw.take _).append hwo) (hw.drop _), sum_append (hw.take _) hwo, lg]
  clear oT8 nt8 oT16 nt16 oG16 ng16 nu10 ng13
  refine bind_val (tys := [.one .bool]) (fun (x : Bool × Unit) _ => x.1 = true) ?_ fun x h20 e20 hx => s_ret ⟨rfl, eall.trans e20, (x.1, ()), rfl, hx⟩
  refine s_getT oT (wp_call (c_Size nt) fun y k1 d1 hy => ?_)
  obtain ⟨(y : Int), w1⟩ := y
  dsimp only at hy ⊢
  rw [hy, eqI_self]
  refine s_ifT (s_get4 rfl (oS.ext d1) (s_getT (oT.ext d1) (wp_call (c_Sum (nt.ext d1) hw (by omega)) fun y k2 d2 hy => ?_)))
  obtain ⟨y, w2⟩ := y
  dsimp only at hy
  subst hy
  have D2 := d1.trans d2
  refine s_same4 (oS.ext D2) ?_
  dsimp only
  simp only [eqI_self]
  refine s_ifT (s_getT (oB.ext D2) (s_getT (oT.ext D2) (wp_call (c_same (nb.ext D2) (nt.ext D2) (by rw [lb]; exact hw) (by rw [lb]; omega) lb.symm) fun y k3 d3 hy => ?_)))
  obtain ⟨(y : Bool), w3⟩ := y
  dsimp only at hy ⊢
  subst hy
  have D3 := D2.trans d3
  refine s_ifT (s_getT (oA.ext D3) (s_getT (oT.ext D3) (wp_call (c_same (na19.ext D3) (nt.ext D3) (by rw [la]; exact hw) (by rw [la]; omega) la.symm) fun y k4 d4 hy => ?_)))
  obtain ⟨(y : Bool), w4⟩ := y
  dsimp only at hy ⊢
  subst hy
  have D4 := D3.trans d4
  refine s_ifT (s_getT (oU.ext D4) (wp_call (c_Size (nu.ext D4)) fun y k5 d5 hy => ?_))
  obtain ⟨(y : Int), w5⟩ := y
  dsimp only at hy ⊢
  subst hy
  have D5 := D4.trans d5
  rw [sub_ok (a := j) (by omega) (by omega), sub_ok (a := ((t.list.length : Nat) : Int)) (by omega) (by omega), add_ok (by omega) (by omega)]
  rw [show eqI ((tu.list.length : Nat) : Int) ((t.list.length : Nat) - (j - i) + ((lo.length : Nat) : Int)) = true from eqI_iff.2 (by omega)]
  have vU : V t.list.length (sum (t.list.take i.toNat)) := (V.sum (hw.take _)).mono (by rw [List.length_take]; omega)
  have vO := V.sum hwo
  have vG := V.sum hwg
  refine s_ifT (s_getT (oU.ext D5) (s_getT (oT.ext D5) (s_getT (oG.ext D5) (wp_call (c_Sum (nu.ext D5) hwu (by omega)) fun y k6 d6 hy => ?_))))
  obtain ⟨y, w6⟩ := y
  dsimp only at hy
  rw [hsu] at hy
  have D6 := D5.trans d6
  refine s_ckP (oG.ext D6) (s_ckP (oT.ext D6) (wp_call (c_Upto' (nt.ext D6) hw (by omega)) fun z k7 d7 hz => ?_))
  obtain ⟨z, w7⟩ := z
  dsimp only at hz
  subst hz
  have D7 := D6.trans d7
  refine s_ckP (oG.ext D7) (wp_call (c_added (hoo.ext D7) (by omega)) fun z k8 d8 hz => ?_)
  obtain ⟨z, w8⟩ := z
  dsimp only at hz
  subst hz
  have D8 := D7.trans d8
  refine s_ckP (oG.ext D8) (wp_call (c_Add vU vO (by omega)) fun z k9 d9 hz => ?_)
  obtain ⟨z, w9⟩ := z
  dsimp only at hz
  subst hz
  have D9 := D8.trans d9
  refine s_ckP (oG.ext D9) (wp_call (c_Sum (ng.ext D9) hwg (by omega)) fun z k10 d10 hz => ?_)
  obtain ⟨z, w10⟩ := z
  dsimp only at hz
  subst hz
  refine wp_call (c_Add (vU.add vO) vG (by omega)) fun z k11 d11 hz => ?_
  obtain ⟨z, w11⟩ := z
  dsimp only at hz
  rw [← hy] at hz
  subst hz
  dsimp only
  simp only [eqI_self]
  exact s_ret ⟨rfl, (D9.trans d10).trans d11, (true, ()), rfl, rfl⟩

end Go.Sw.Tree

set_option linter.unusedVariables false
set_option linter.unusedSimpArgs false
set_option maxRecDepth 100000
namespace Go.Sw.Tree
variable {P : Program} {S : Ids} {h : Heap} {Q : Nat → List Value → Heap → Prop}

theorem avl_size : ∀ t : BT, t.Avl → 2 ^ (t.ht / 2) ≤ t.list.length + 1
  | .nil, _ => by decide
  | .node l x r, ⟨a, b, c, d⟩ => by
    have h1 := avl_size l a
    have h2 := avl_size r b
    rw [node_len]
    have hh : (BT.node l x r).ht = max l.ht r.ht + 1 := rfl
    by_cases hz : (BT.node l x r).ht ≤ 1
    · rw [show (BT.node l x r).ht / 2 = 0 by omega]; omega
    · have e : (BT.node l x r).ht / 2 = ((BT.node l x r).ht - 2) / 2 + 1 := by omega
      have g1 : 2 ^ (((BT.node l x r).ht - 2) / 2) ≤ 2 ^ (l.ht / 2) := Nat.pow_le_pow_right (by decide) (by omega)
      have g2 : 2 ^ (((BT.node l x r).ht - 2) / 2) ≤ 2 ^ (r.ht / 2) := Nat.pow_le_pow_right (by decide) (by omega)
      rw [e, Nat.pow_succ]; omega

theorem low {t : BT} {d : Nat} (ha : t.Avl) (h1 : 1 ≤ t.list.length) (hd : t.list.length < 2 ^ d) : t.ht ≤ 3 * d := by
  have h2 := avl_size t ha
  have h3 : 2 ^ (t.ht / 2) ≤ 2 ^ d := by omega
  have h4 := (Nat.pow_le_pow_iff_right (by decide : 1 < 2)).1 h3
  have h5 : d ≠ 0 := by intro e; subst e; have : (2 : Nat) ^ 0 = 1 := rfl; omega
  omega

theorem c_Digits {n : Int} (h0 : 0 ≤ n) (h1 : n ≤ 4398046511104) : Gives P (F_ref4_Digits S n) [.one (.int .i64)] h fun (y : Int × Unit) _ => ∃ d : Nat, y.1 = d ∧ d ≤ 4398046511104 ∧ n.toNat < 2 ^ d := by
  unfold F_ref4_Digits Gives
  refine wp_while (fun (s : Int × Int × Unit) h' => Ext h h' ∧ ∃ m d : Nat, s.1 = m ∧ s.2.1 = d ∧ m + d ≤ n.toNat ∧ n.toNat < (m + 1) * 2 ^ d) (fun s _ => s.1.toNat)
    (fun t vs h' => t = 2 ∧ Ext h h' ∧ ∃ x : Int × Unit, vs = Ts.inj [.one (.int .i64)] x ∧ ∃ d : Nat, x.1 = d ∧ d ≤ 4398046511104 ∧ n.toNat < 2 ^ d) ⟨Ext.refl h, n.toNat, 0, by dsimp only; omega, rfl, by omega, by simp⟩ ?_ ?_
  · rintro ⟨(m' : Int), (d' : Int), u⟩ h' ⟨e, m, d, hm, hd, hs, hlt⟩
    dsimp only at hm hd ⊢
    subst hm; subst hd
    refine wp_ifB (fun hc => ?_) fun hc => ?_
    · rw [gtI_iff] at hc
      have hq : quoI .i64 (m : Int) 2 = ((m / 2 : Nat) : Int) := by rw [quo_ok (by omega) (by omega) (by omega)]; omega
      rw [hq, add_ok (by omega) (by omega)]
      refine s_not (s_ret ⟨fun _ => ⟨(((m / 2 : Nat) : Int), (d : Int) + 1, ()), rfl, ⟨e, m / 2, d + 1, rfl, by dsimp only; omega, by omega, ?_⟩, by dsimp only; omega⟩, fun h => absurd rfl h⟩)
      have : (m + 1) * 2 ^ d ≤ (2 * (m / 2 + 1)) * 2 ^ d := Nat.mul_le_mul_right _ (by omega)
      rw [Nat.pow_succ, show (m / 2 + 1) * (2 ^ d * 2) = (2 * (m / 2 + 1)) * 2 ^ d by rw [Nat.mul_comm (2 ^ d) 2, ← Nat.mul_assoc, Nat.mul_comm (m / 2 + 1) 2]]
      omega
    · rw [gtI_not] at hc
      have hm0 : m = 0 := by omega
      subst hm0
      exact s_ret ⟨fun h => absurd h (by decide), fun _ => ⟨rfl, e, ((d : Int), ()), rfl, d, rfl, by omega, by simpa using hlt⟩⟩
  · rintro t vs h' ⟨rfl, e, x, rfl, hx⟩
    exact s_exit rfl x rfl (s_ret ⟨rfl, e, x, rfl, hx⟩)

theorem c_Height {p : Option Addr} {t : BT} (ht : Nd h p t) : Gives P (F_Tree_Run_Height S (p, ())) [.one (.int .i64)] h fun (x : Int × Unit) _ => x.1 = t.ht := by
  unfold F_Tree_Run_Height Gives
  refine s_newP p fun h1 e1 o1 => s_getP o1 (wp_call (c_tall (ht.ext e1)) fun x h2 e2 hx => ?_)
  exact s_ret ⟨rfl, e1.trans e2, (x.1, ()), rfl, hx⟩

theorem add_letters {n m : Nat} {s o : R4} (v : V n s) (w : V m o) : (add s o).1 = s.1 + o.1 := by
  by_cases hs : s.2.1 = 0
  · rw [v.z hs, zero4_add]; simp [zero4]
  · by_cases ho : o.2.1 = 0
    · rw [w.z ho, add_zero4 v]; simp [zero4]
    · rw [add_ne hs ho]
theorem ones {l : List (Int × Int)} (hw : wfR l) (h1 : ∀ r, r ∈ l → r.2 = 1) : (sum l).1 = l.length := by
  induction l with
  | nil => rfl
  | cons x l ih =>
    have hx : wfR [x] := fun r hr => hw r (by rw [List.mem_singleton.1 hr]; exact List.mem_cons_self ..)
    have hl : wfR l := fun r hr => hw r (List.mem_cons_of_mem _ hr)
    rw [show x :: l = [x] ++ l from rfl, sum_append hx hl, add_letters (V.sum hx) (V.sum hl), ih hl fun r hr => h1 r (List.mem_cons_of_mem _ hr)]
    have : sum [x] = measure x := zero4_add _
    rw [this]
    have h2 := h1 x (List.mem_cons_self ..)
    unfold measure
    rw [if_neg (by omega), h2]
    simp; omega

theorem c_TreeGrows {s : Sl} {l : List Int} {how : Int} (hr : Lst .i64 h s l) (hroom : l.length ≤ 1048576) : Gives P (F_law4_TreeGrows S s how) [.one .bool] h fun (x : Bool × Unit) _ => x.1 = true := by
  have hlen := hr.len
  unfold F_law4_TreeGrows Gives
  refine s_newP none fun h1 e1 o1 => ?_
  refine wp_while (fun (s : Int × Unit) h' => 0 ≤ s.1 ∧ s.1 ≤ l.length + 1 ∧ Ext h h' ∧ ∃ (p : Option Addr) (t : BT), Own h.size 1 h' ⟨some ⟨h.size, 0, none⟩, 1, 1⟩ [.pointer p] ∧ Nd h' p t ∧ t.Avl ∧ wfR t.list ∧ (t.list.length : Int) = s.1 ∧ ∀ r, r ∈ t.list → r.2 = 1)
    (fun s _ => (l.length + 1 - s.1).toNat)
    (fun tg vs h' => tg = 2 ∧ vs = [] ∧ Ext h h' ∧ ∃ (p : Option Addr) (t : BT), Own h.size 1 h' ⟨some ⟨h.size, 0, none⟩, 1, 1⟩ [.pointer p] ∧ Nd h' p t ∧ wfR t.list ∧ t.list.length = l.length + 1 ∧ ∀ r, r ∈ t.list → r.2 = 1)
    ⟨by simp, by dsimp only; omega, e1, none, .nil, o1, rfl, trivial, by simp [wfR, BT.list], rfl, by simp [BT.list]⟩ ?_ ?_
  · rintro ⟨(i : Int), u⟩ h2 ⟨i0, i1, e2, p, t, o2, nt, ha, hw, hti, hone⟩
    dsimp only at i0 i1 hti ⊢
    refine wp_ifB (fun hc => ?_) fun hc => ?_
    · rw [leI_iff, natI_def, hlen] at hc
      refine bind_val (tys := [.one (.int .i64)]) (fun (x : Int × Unit) _ => 0 ≤ x.1 ∧ x.1 ≤ i) ?_ fun x h3 e3 hx => ?_
      · refine s_not (wp_ifB (fun hd => s_ret ⟨rfl, Ext.refl _, (i, ()), rfl, i0, Int.le_refl _⟩) fun hd => ?_)
        refine wp_bind (fun tg vs h' => tg = 0 ∧ Ext h2 h' ∧ ∃ b : Bool, vs = [.bool b] ∧ (b = true → i < l.length)) ?_ ?_
        · refine s_not (wp_ifB (fun hd => ?_) fun hd => s_ret ⟨rfl, Ext.refl _, false, rfl, fun h => by cases h⟩)
          refine s_ret ⟨rfl, Ext.refl _, _, rfl, fun hx => ?_⟩
          rw [ltI_iff, natI_def, hlen] at hx; exact hx
        · rintro tg vs h3 ⟨rfl, e3, b, rfl, hb⟩
          refine s_tag ⟨(b, ()), rfl, ?_⟩
          dsimp only
          refine wp_ifB (fun hx => ?_) fun hx => s_ret ⟨rfl, e3, (0, ()), rfl, Int.le_refl _, i0⟩
          refine s_at ((hr.ext e2).ext e3) i0 (hb hx) fun hf => wp_call (c_slot i0 (by omega)) fun y h4 e4 hy => s_ret ⟨rfl, e3.trans e4, (y.1, ()), rfl, hy⟩
      obtain ⟨(a : Int), w0⟩ := x
      obtain ⟨a0, a1⟩ := hx
      dsimp only at a0 a1 ⊢
      have o3 := o2.ext e3
      have nt3 := nt.ext e3
      refine s_getT o3 ?_
      intro elem
      have hfi : wfR [(i, (1 : Int))] := by intro r hr; rw [List.mem_singleton.1 hr]; exact ⟨fits_i64.2 ⟨by dsimp only; omega, by dsimp only; omega⟩, fits_i64.2 (by dsimp only; decide)⟩
      have e4 : Ext h3 (h3.push (.cells [.int .i64 i, .int .i64 1].toArray elem)) := Ext.push ..
      have q4 : OwnR h3.size (h3.push (.cells [.int .i64 i, .int .i64 1].toArray elem)) ⟨some ⟨h3.size, 0, none⟩, 1, 1⟩ [(i, 1)] := ⟨own_alloc rfl (by decide) (by decide), hfi⟩
      generalize (h3.push (.cells [.int .i64 i, .int .i64 1].toArray elem)) = h4 at e4 q4 ⊢
      refine wp_call (c_Replace (nt3.ext e4) q4.runs hw a0 (Int.le_refl _) (by omega) (by simp; omega)) fun y h5 e5 hy => ?_
      obtain ⟨⟨(pu : Option Addr), w5⟩, (eu : Int), w6⟩ := y
      obtain ⟨heu, tu, nu, lu, hav⟩ := hy
      dsimp only at heu nu ⊢
      subst heu
      have hau := hav ha
      have hlu : tu.list.length = t.list.length + 1 := by rw [lu]; simp; omega
      have hwu : wfR tu.list := by rw [lu]; exact ((hw.take _).append hfi).append (hw.drop _)
      have hou : ∀ r, r ∈ tu.list → r.2 = 1 := by
        intro r hr
        rw [lu] at hr
        rcases List.mem_append.1 hr with hr | hr
        · rcases List.mem_append.1 hr with hr | hr
          · exact hone r (List.mem_of_mem_take hr)
          · rw [List.mem_singleton.1 hr]
        · exact hone r (List.mem_of_mem_drop hr)
      have hat : tu.list[a.toNat]? = some (i, 1) := by
        have hl1 : (t.list.take a.toNat).length = a.toNat := by rw [List.length_take]; omega
        rw [lu, List.append_assoc, List.getElem?_append_right (by omega), hl1, Nat.sub_self]; rfl
      refine s_putTree pu nu fun h6 e6 oU => s_getT oU (wp_call (c_At (nu.ext e6) hwu (by omega) a0 hat) fun y h7 e7 hy => ?_)
      obtain ⟨⟨(y1 : Int), (y2 : Int), w2⟩, (y3 : Bool), w3⟩ := y
      obtain ⟨hy1, hy2, hy3⟩ := hy
      dsimp only at hy1 hy2 hy3 ⊢
      subst y1; subst y2; subst y3
      refine s_put2 _ _ (hfi _ (List.mem_singleton_self _)) fun h8 e8 oX => ?_
      have oU8 := (oU.ext e7).ext e8
      have nu8 := ((nu.ext e6).ext e7).ext e8
      refine bind_bool False ?_ fun b h9 e9 hb => ?_
      · refine wp_call c_num fun y k1 d1 hy => ?_
        obtain ⟨(y : Int), w1⟩ := y
        dsimp only at hy ⊢
        subst hy
        refine s_ifF (s_getT (oU8.ext d1) (wp_call (c_Size (nu8.ext d1)) fun y k2 d2 hy => ?_))
        obtain ⟨(y : Int), w1⟩ := y
        dsimp only at hy ⊢
        have D2 := d1.trans d2
        rw [add_ok (by omega) (by omega), show neI y (i + 1) = false from neI_not.2 (by omega)]
        refine s_ifF (s_ifF (s_loadX (oX.ext D2).lst (x := i) rfl ?_))
        rw [show neI i i = false from neI_not.2 rfl]
        refine s_ifF (s_getT (oU8.ext D2) (wp_call (c_Height (nu8.ext D2)) fun y k3 d3 hy => ?_))
        obtain ⟨(y : Int), w1⟩ := y
        dsimp only at hy ⊢
        have D3 := D2.trans d3
        have hge : 1 ≤ tu.ht := by
          cases tu with
          | nil => simp [BT.list] at hlu
          | node _ _ _ => simp [BT.ht]
        rw [show ltI y 1 = false from ltI_not.2 (by omega)]
        refine s_ifF (s_getT (oU8.ext D3) (wp_call (c_Height (nu8.ext D3)) fun y k4 d4 hy => wp_call (c_Digits (by omega) (by omega)) fun z k5 d5 hz => ?_))
        obtain ⟨(y : Int), w1⟩ := y
        obtain ⟨(z : Int), w2⟩ := z
        obtain ⟨d, hzd, hd1, hd2⟩ := hz
        dsimp only at hy hzd ⊢
        subst hzd
        have hlow := low hau (by omega) (show tu.list.length < 2 ^ d by rw [show tu.list.length = (i + 1).toNat by omega]; exact hd2)
        rw [mul_ok (by omega) (by omega)]
        refine s_ret ⟨rfl, (D3.trans d4).trans d5, _, rfl, Iff.intro (fun hx => ?_) False.elim⟩
        rw [gtI_iff] at hx; omega
      have hbf : b = false := by cases b; rfl; exact (hb.1 rfl).elim
      subst hbf
      dsimp only
      have oU9 := oU8.ext e9
      have nu9 := nu8.ext e9
      have e39 := ((((e4.trans e5).trans e6).trans e7).trans e8).trans e9
      have o9 := o3.ext e39
      refine s_ifF (s_getT oU9 (s_putP pu o9 fun h10 o10 u10 => ?_))
      rw [add_ok (by omega) (by omega)]
      refine s_ret ⟨fun _ => ⟨(i + 1, ()), rfl, ⟨by dsimp only; omega, by dsimp only; omega, Upd.extN ((e2.trans e3).trans e39) u10 (by intro a ha; cases ha; exact Nat.le_refl _), pu, tu, o10, nu9.upd u10 o9 (by decide), hau, hwu, by dsimp only; omega, hou⟩, by dsimp only; omega⟩, fun h => absurd rfl h⟩
    · rw [leI_not, natI_def, hlen] at hc
      exact s_ret ⟨fun h => absurd h (by decide), fun _ => ⟨rfl, rfl, e2, p, t, o2, nt, hw, by omega, hone⟩⟩
  · rintro tg vs h2 ⟨rfl, rfl, e2, p, t, o2, nt, hw, hti, hone⟩
    refine s_tag (s_cast0 (s_getT o2 (wp_call (c_Sum nt hw (by omega)) fun y h3 e3 hy => ?_)))
    obtain ⟨y, w1⟩ := y
    dsimp only at hy
    subst hy
    refine s_put4 (sum t.list) ((V.sum hw).fits (by omega)) fun h4 e4 o4 => s_loadX o4.lst (x := (sum t.list).1) rfl ?_
    rw [natI_def, hlen, add_ok (by omega) (by omega)]
    refine s_ret ⟨rfl, (e2.trans e3).trans e4, (_, ()), rfl, ?_⟩
    exact eqI_iff.2 (by rw [ones hw hone]; omega)

end Go.Sw.Tree

set_option linter.unusedVariables false
set_option linter.unusedSimpArgs false
set_option maxRecDepth 100000
namespace Go.Sw.Tree
variable {P : Program} {S : Ids} {h : Heap} {Q : Nat → List Value → Heap → Prop}

theorem OwnR.pre {n : Nat} {s : Sl} {l m : List (Int × Int)} (ho : OwnR n h s (l ++ m)) : OwnR n h ⟨s.base, l.length, s.cap⟩ l := by
  have hl := ho.len
  obtain ⟨⟨h1, h2, h3, h4⟩, hw⟩ := ho
  rw [List.length_append] at hl
  refine ⟨⟨by rw [cR_len], by dsimp only; omega, h3, ?_⟩, fun x hx => hw x (List.mem_append_left _ hx)⟩
  cases hb : s.base with
  | none => rw [hb] at h4; exact h4
  | some a =>
    rw [hb] at h4
    obtain ⟨a1, a2, a3, cs, el, a4, a5, a6⟩ := h4
    refine ⟨a1, a2, a3, cs, el, a4, a5, fun i v hi => a6 i v ?_⟩
    rw [cR_append, List.getElem?_append_left (List.getElem?_eq_some_iff.1 hi).1]
    exact hi

/-- The next place of a list of one's own, within its room. -/
theorem s_fill2 {n : Nat} {p : Option Addr} {c i : Nat} {l : List (Int × Int)} {x y : Int} {K : Prog} (ho : OwnR n h ⟨p, i, c⟩ l) (hi : i < c) (hf : fitsI .i64 x ∧ fitsI .i64 y)
    (hk : ∀ h', OwnR n h' ⟨p, i + 1, c⟩ (l ++ [(x, y)]) → Upd ⟨p, i, c⟩ h h' → wp P K h' Q) :
    wp P (grd (andB (someB p) (inB (i : Int) c)) (.store (shiftTo p (mulN (toN (i : Int)) 2)) [.int .i64 x, .int .i64 y] K)) h Q := by
  have hl := ho.len
  obtain ⟨o1, o2, o3, o4⟩ := ho.own
  dsimp only at o1 o2 o3 o4 hl
  cases p with
  | none => dsimp only at o4; omega
  | some a =>
    obtain ⟨b, off, spot⟩ := a
    obtain ⟨e0, e1, e2, cs, elem, e3, e4, e5⟩ := o4
    dsimp only at e0 e1 e2 e3
    subst e0; subst e1
    refine wp_grd (andB_iff.2 ⟨rfl, inB_is.2 ⟨by omega, by omega⟩⟩) ?_
    have hadd : ((Addr.mk b 0 none).add (mulN (toN (i : Int)) 2)) = ⟨b, i * 2, none⟩ := by simp [add_mk, mulN, toN]
    obtain ⟨w, cs', c1, c2, c3, c4, c5, c6⟩ := puts_block (vs := [.int .i64 x, .int .i64 y]) (i := 0) (off := i * 2) e3 (cR_flat [(x, y)]) (by simp; omega)
    refine ⟨⟨b, i * 2, none⟩, by rw [shiftTo_some, hadd], w, hk _ ⟨⟨by rw [cR_len, List.length_append]; simp; omega, by dsimp only; omega, o3, rfl, rfl, e2, cs', elem, c1, by rw [c2, e4], fun j v hj => ?_⟩, ho.wf.append ?_⟩
      ⟨by unfold puts; omega, fun j hj hne => c6 j fun e => (hne _ rfl) e.symm, fun a e => by unfold puts; rw [thaw_putFrom]; exact e⟩⟩
    · rw [cR_append] at hj
      by_cases hlt : j < (cR l).length
      · rw [List.getElem?_append_left hlt] at hj
        rw [cR_len] at hlt
        rw [c4 j (by omega)]
        exact e5 j v hj
      · rw [List.getElem?_append_right (by omega)] at hj
        rw [cR_len] at hlt hj
        have := c3 (j - l.length * 2) v hj
        rw [show i * 2 + 0 + (j - l.length * 2) = j by omega] at this
        exact this
    · intro r hr
      rw [List.mem_singleton.1 hr]; exact hf

/-- The marks from place i on. -/
def mark (i : Nat) : Int × Int := (subI .i64 (-71) (i : Int), -72)
def marksR (i n : Nat) : List (Int × Int) := (List.range' i n).map mark
theorem marksR_len (i n : Nat) : (marksR i n).length = n := by simp [marksR]
theorem marksR_succ (i n : Nat) : marksR i (n + 1) = marksR i n ++ [mark (i + n)] := by simp [marksR, List.range'_concat]
theorem mark_fits (i : Nat) : fitsI .i64 (mark i).1 ∧ fitsI .i64 (mark i).2 := ⟨range_i64 _, fits_i64.2 (by unfold mark; dsimp only; decide)⟩

abbrev Op7 := Int × Int × Int × Int × Int × Int × Sl × Unit

theorem c_handed {o : Op7} {its : List (Int × Int)} (hr : Runs h o.2.2.2.2.2.2.1 its) (hroom : its.length ≤ 4194304) :
    Gives P (F_law4_handed S o) [.one .sl] h fun (y : Sl × Unit) h' => y.1.len = y.1.cap ∧ its.length ≤ y.1.cap ∧ OwnR h.size h' y.1 (its ++ marksR its.length (y.1.cap - its.length)) := by
  obtain ⟨o0, o1, o2, o3, o4, o5, s, u⟩ := o
  dsimp only at hr
  have hlen := hr.len
  unfold F_law4_handed Gives
  dsimp only
  intro elem
  have e1 : Ext h (h.push (.cells [iv o0, iv o1, iv o2, iv o3, iv o4, iv o5, .slice s.base s.len s.cap].toArray elem)) := Ext.push ..
  have q1 : Own h.size 1 (h.push (.cells [iv o0, iv o1, iv o2, iv o3, iv o4, iv o5, .slice s.base s.len s.cap].toArray elem)) ⟨some ⟨h.size, 0, none⟩, 7, 7⟩ [iv o0, iv o1, iv o2, iv o3, iv o4, iv o5, .slice s.base s.len s.cap] := own_alloc rfl (by decide) (by decide)
  generalize (h.push (.cells [iv o0, iv o1, iv o2, iv o3, iv o4, iv o5, .slice s.base s.len s.cap].toArray elem)) = h1 at e1 q1 ⊢
  have b1 := (q1.lt rfl).2
  dsimp only at b1
  have ld : ∀ {h'} {K : Sl → Prog} {Q : Nat → List Value → Heap → Prop}, Ext h1 h' → wp P (K s) h' Q → wp P (.load (.one .sl) (shiftTo (some ⟨h.size, 0, none⟩) 6) K) h' Q := fun e hk =>
    s_cell (b := .sl) (x := s) rfl (q1.ext e).cells rfl hk
  refine wp_while (fun (r : Sl × Int × Unit) h' => Ext h1 h' ∧ 0 ≤ r.2.1 ∧ r.2.1 ≤ its.length ∧ OwnR h1.size h' r.1 (its.take r.2.1.toNat)) (fun r _ => its.length - r.2.1.toNat)
    (fun t vs h' => t = 2 ∧ ∃ x : Sl × Unit, vs = Ts.inj [.one .sl] x ∧ Ext h1 h' ∧ OwnR h1.size h' x.1 its) ⟨Ext.refl h1, by simp, by simp, OwnR.nil ..⟩ ?_ ?_
  · rintro ⟨t, (i : Int), u⟩ h2 ⟨e2, i0, i1, ho⟩
    dsimp only at i0 i1 ho ⊢
    refine ld e2 (wp_ifB (fun hc => ?_) fun hc => ?_)
    · rw [ltI_iff, natI_def, hlen] at hc
      refine ld e2 (s_at2 (hr.ext (e1.trans e2)) i0 hc fun r hj => ?_)
      obtain ⟨f1, f2⟩ := hr.wf.get hj
      refine s_push2 ho e2.size f1 f2 (by rw [List.length_take]; omega) fun t' h3 k3 ho => ?_
      rw [add_ok (by omega) (by omega)]
      refine s_ret ⟨fun _ => ⟨(t', i + 1, ()), rfl, ⟨Keep.trans e2 k3, by dsimp only; omega, by dsimp only; omega, ?_⟩, by dsimp only; omega⟩, fun h => absurd rfl h⟩
      dsimp only
      rw [take_succ i0 hj]; exact ho
    · rw [ltI_not, natI_def, hlen] at hc
      rw [List.take_of_length_le (by omega)] at ho
      exact s_ret ⟨fun h => absurd h (by decide), fun _ => ⟨rfl, (t, ()), rfl, e2, ho⟩⟩
  · rintro t vs h2 ⟨rfl, ⟨x, w⟩, rfl, e2, ho⟩
    refine s_tag ⟨(x, ()), rfl, ?_⟩
    dsimp only at ho ⊢
    refine wp_while (fun (r : Sl × Int × Unit) h' => Ext h1 h' ∧ 0 ≤ r.2.1 ∧ r.2.1 ≤ 40 ∧ OwnR h1.size h' r.1 (its ++ List.replicate r.2.1.toNat (0, 0))) (fun r _ => (40 - r.2.1).toNat)
      (fun t vs h' => t = 4 ∧ ∃ x : Sl × Unit, vs = Ts.inj [.one .sl] x ∧ Ext h1 h' ∧ OwnR h1.size h' x.1 (its ++ List.replicate 40 (0, 0))) ⟨e2, by simp, by simp, by simpa using ho⟩ ?_ ?_
    · rintro ⟨t, (i : Int), u⟩ h3 ⟨e3, i0, i1, ho⟩
      dsimp only at i0 i1 ho ⊢
      refine wp_ifB (fun hc => ?_) fun hc => ?_
      · rw [ltI_iff] at hc
        refine s_push2 ho e3.size (fits_zero _) (fits_zero _) (by simp; omega) fun t' h4 k4 ho => ?_
        rw [add_ok (by omega) (by omega)]
        refine s_ret ⟨fun _ => ⟨(t', i + 1, ()), rfl, ⟨Keep.trans e3 k4, by dsimp only; omega, by dsimp only; omega, ?_⟩, by dsimp only; omega⟩, fun h => absurd rfl h⟩
        dsimp only
        rw [show (i + 1).toNat = i.toNat + 1 by omega, List.replicate_succ', ← List.append_assoc]; exact ho
      · rw [ltI_not] at hc
        rw [show i.toNat = 40 by omega] at ho
        exact s_ret ⟨fun h => absurd h (by decide), fun _ => ⟨rfl, (t, ()), rfl, e3, ho⟩⟩
    · rintro t vs h3 ⟨rfl, ⟨y, w⟩, rfl, e3, ho⟩
      refine s_tag ⟨(y, ()), rfl, ?_⟩
      dsimp only at ho ⊢
      have hyl := ho.len
      have hyc := ho.own.2.1
      have hym := ho.own.2.2.1
      rw [List.length_append, List.length_replicate] at hyl
      have hcap : subN (toN (natI y.cap)) 0 = y.cap := by simp [subN, toN, natI_def]
      rw [hcap, cutBase_zero, show subN y.cap 0 = y.cap from rfl, natI_def]
      refine s_grd (leB_ok (by omega) (by omega)) (ld e3 ?_)
      rw [natI_def, hlen]
      refine wp_while (fun (r : Int × Unit) h' => Ext h1 h' ∧ (its.length : Int) ≤ r.1 ∧ r.1 ≤ y.cap ∧ OwnR h1.size h' ⟨y.base, r.1.toNat, y.cap⟩ (its ++ marksR its.length (r.1.toNat - its.length))) (fun r _ => (y.cap - r.1).toNat)
        (fun t vs h' => t = 6 ∧ vs = [] ∧ Ext h1 h' ∧ OwnR h1.size h' ⟨y.base, y.cap, y.cap⟩ (its ++ marksR its.length (y.cap - its.length))) ⟨e3, by dsimp only; omega, by dsimp only; omega, by simpa [marksR] using ho.pre⟩ ?_ ?_
      · rintro ⟨(i : Int), u⟩ h4 ⟨e4, i0, i1, ho⟩
        dsimp only at i0 i1 ho ⊢
        refine wp_ifB (fun hc => ?_) fun hc => ?_
        · rw [ltI_iff] at hc
          obtain ⟨k, rfl⟩ := Int.eq_ofNat_of_zero_le (show 0 ≤ i by omega)
          rw [Int.toNat_natCast] at ho
          refine s_fill2 (x := (mark k).1) (y := (mark k).2) ho (by omega) (mark_fits k) fun h5 ho u5 => ?_
          rw [add_ok (by omega) (by omega)]
          refine s_ret ⟨fun _ => ⟨((k : Int) + 1, ()), rfl, ⟨Upd.extN e4 u5 (fun a ha => (ho.own.lt ha).1), by dsimp only; omega, by dsimp only; omega, ?_⟩, by dsimp only; omega⟩, fun h => absurd rfl h⟩
          dsimp only
          rw [show ((k : Int) + 1).toNat = k + 1 by omega, show k + 1 - its.length = (k - its.length) + 1 by omega, marksR_succ, show its.length + (k - its.length) = k by omega, ← List.append_assoc]
          exact ho
        · rw [ltI_not] at hc
          rw [show i.toNat = y.cap by omega] at ho
          exact s_ret ⟨fun h => absurd h (by decide), fun _ => ⟨rfl, rfl, e4, ho⟩⟩
      · rintro t vs h4 ⟨rfl, rfl, e4, ho⟩
        exact s_tag (s_cast0 (s_ret ⟨rfl, e1.trans e4, (⟨y.base, y.cap, y.cap⟩, ()), rfl, rfl, by dsimp only; omega, ho.mono e1.size⟩))

end Go.Sw.Tree

set_option linter.unusedVariables false
set_option linter.unusedSimpArgs false
set_option maxRecDepth 100000
namespace Go.Sw.Tree
variable {P : Program} {S : Ids} {h : Heap} {Q : Nat → List Value → Heap → Prop}

theorem key_take {l : List (Int × Int)} (hw : wfR l) (k : Int) {a b : Nat} (hab : a ≤ b) : key (sum (l.take a)) k ≤ key (sum (l.take b)) k := by
  have h1 : l.take b = l.take a ++ (l.drop a).take (b - a) := by
    rw [show b = a + (b - a) by omega, List.take_add, show a + (b - a) - a = b - a by omega]
  rw [h1, sum_append (hw.take _) ((hw.drop _).take _)]
  exact key_mono (V.sum (hw.take _)) (V.sum ((hw.drop _).take _)) k

theorem found_one {l : List (Int × Int)} (hw : wfR l) {k n i j : Int} (hi : Found l k n i) (hj : Found l k n j) : i = j := by
  have hz : key (sum (l.take 0)) k = 0 := by rw [List.take_zero, show sum [] = zero4 from rfl, key_zero]
  have hall : l.take l.length = l := List.take_length
  have low : ∀ {i j : Int}, Found l k n i → Found l k n j → i ≤ j := by
    intro i j hi hj
    rcases hi with ⟨h1, h2⟩ | ⟨h1, h2, h3, h4⟩ | ⟨h1, h2⟩ <;> rcases hj with ⟨g1, g2⟩ | ⟨g1, g2, g3, g4⟩ | ⟨g1, g2⟩
    · omega
    · omega
    · omega
    · have := key_take hw k (a := 0) (b := i.toNat - 1) (by omega); omega
    · by_cases hlt : j < i
      · have := key_take hw k (a := j.toNat) (b := i.toNat - 1) (by omega); omega
      · omega
    · omega
    · have := key_take hw k (a := 0) (b := l.length) (by omega)
      rw [hall] at this; omega
    · have := key_take hw k (a := j.toNat) (b := l.length) (by omega)
      rw [hall] at this; omega
    · omega
  have := low hi hj
  have := low hj hi
  omega

theorem c_sameRun {a b : R2} (ha : fitsI .i64 a.1 ∧ fitsI .i64 a.2.1) (hb : fitsI .i64 b.1 ∧ fitsI .i64 b.2.1) : Gives P (F_law4_sameRun S a b) [.one .bool] h fun (y : Bool × Unit) _ => (y.1 = true ↔ a.1 = b.1 ∧ a.2.1 = b.2.1) := by
  unfold F_law4_sameRun Gives
  refine s_new2 _ _ ha.1 ha.2 fun h1 e1 o1 => s_new2 _ _ hb.1 hb.2 fun h2 e2 o2 => ?_
  have l1 := (o1.ext e2).lst
  have l2 := o2.lst
  refine bind_bool (a.1 = b.1 ∧ a.2.1 = b.2.1) ?_ fun y h3 e3 hy => s_ret ⟨rfl, (e1.trans e2).trans e3, (y, ()), rfl, hy⟩
  refine s_loadX l1 (x := a.1) rfl (s_loadX l2 (x := b.1) rfl (wp_ifB (fun hc => ?_) fun hc => ?_))
  · rw [eqI_iff] at hc
    refine s_loadX l1 (x := a.2.1) rfl (s_loadX l2 (x := b.2.1) rfl (s_ret ⟨rfl, Ext.refl _, _, rfl, ?_⟩))
    rw [eqI_iff]; exact Iff.intro (fun x => ⟨hc, x⟩) (fun x => x.2)
  · rw [eqI_not] at hc
    exact s_ret ⟨rfl, Ext.refl _, false, rfl, Iff.intro (fun x => by cases x) (fun x => absurd x.1 hc)⟩

theorem c_refAt {s : Sl} {l : List (Int × Int)} {i : Int} (hr : Runs h s l) : Gives P (F_ref4_At S s i) [A2, .one .bool] h fun (y : R2 × Bool × Unit) _ =>
    (y.2.1 = true ∧ 0 ≤ i ∧ l[i.toNat]? = some (y.1.1, y.1.2.1)) ∨ (y.2.1 = false ∧ (i < 0 ∨ (l.length : Int) ≤ i) ∧ y.1.1 = 0 ∧ y.1.2.1 = 0) := by
  have hlen := hr.len
  unfold F_ref4_At Gives
  refine s_zero2 fun h1 e1 o1 => ?_
  refine bind_bool (i < 0 ∨ (l.length : Int) ≤ i) ?_ fun b h2 e2 hb => ?_
  · refine wp_ifB (fun hc => ?_) fun hc => ?_
    · rw [ltI_iff] at hc
      exact s_ret ⟨rfl, Ext.refl _, true, rfl, Iff.intro (fun _ => .inl hc) (fun _ => rfl)⟩
    · rw [ltI_not] at hc
      refine s_ret ⟨rfl, Ext.refl _, _, rfl, ?_⟩
      rw [geI_iff, natI_def, hlen]; omega
  dsimp only
  have e02 := e1.trans e2
  refine wp_ifB (fun hc => ?_) fun hc => ?_
  · refine s_store2 0 0 (o1.ext e2) ⟨fits_zero _, fits_zero _⟩ fun h3 o3 u3 => s_get2 rfl o3 (s_ret ⟨rfl, Upd.extN e02 u3 (by intro a ha; cases ha; exact Nat.le_refl _), ((0, 0, ()), false, ()), rfl, .inr ⟨rfl, hb.1 hc, rfl, rfl⟩⟩)
  · have hno : ¬(i < 0 ∨ (l.length : Int) ≤ i) := fun x => by rw [hb.2 x] at hc; cases hc
    refine s_at2 (hr.ext e02) (by omega) (by omega) fun r hj => ?_
    exact s_store2 r.1 r.2 (o1.ext e2) (hr.wf.get hj) fun h3 o3 u3 => s_get2 rfl o3 (s_ret ⟨rfl, Upd.extN e02 u3 (by intro a ha; cases ha; exact Nat.le_refl _), ((r.1, r.2, ()), true, ()), rfl, .inl ⟨rfl, by omega, hj⟩⟩)

theorem c_refFind {s : Sl} {l : List (Int × Int)} {k n : Int} (hr : Runs h s l) (hroom : l.length < 4398046511104) : Gives P (F_ref4_Find S s k n) [.one (.int .i64)] h fun (y : Int × Unit) _ => Found l k n y.1 := by
  have hlen := hr.len
  have hall : l.take l.length = l := List.take_length
  unfold F_ref4_Find Gives
  refine s_zero4 fun h1 e1 o1 => ?_
  refine wp_while (fun (s : Int × Unit) h' => 0 ≤ s.1 ∧ s.1 ≤ l.length + 1 ∧ Ext h h' ∧ obj h.size h' ⟨h.size, 0, none⟩ (sum (l.take s.1.toNat)) ∧ (0 < s.1 → key (sum (l.take (s.1.toNat - 1))) k < n)) (fun s _ => (l.length + 1 - s.1).toNat)
    (fun t vs h' => Ext h h' ∧ ((t = 2 ∧ vs = [] ∧ key (sum l) k < n) ∨ (t = 1 ∧ ∃ x : Int × Unit, vs = Ts.inj [.one (.int .i64)] x ∧ Found l k n x.1)))
    ⟨by simp, by dsimp only; omega, e1, o1, fun h => absurd h (by simp)⟩ ?_ ?_
  · rintro ⟨(i : Int), u⟩ h2 ⟨i0, i1, e2, o2, hlow⟩
    dsimp only at i0 i1 o2 hlow ⊢
    have hv : V l.length (sum (l.take i.toNat)) := (V.sum (hr.wf.take _)).mono (by rw [List.length_take]; omega)
    rw [natI_def]
    refine wp_ifB (fun hc => ?_) fun hc => ?_
    · rw [leI_iff, hlen] at hc
      refine wp_bind (fun t vs h' => Ext h h' ∧ ((t = 1 ∧ vs = [.int .i64 i] ∧ Found l k n i) ∨ (t = 0 ∧ vs = [] ∧ key (sum (l.take i.toNat)) k < n ∧ obj h.size h' ⟨h.size, 0, none⟩ (sum (l.take (i.toNat + 1)))))) ?_ ?_
      · refine s_get4 rfl o2 (wp_call (c_refKey hv (by omega)) fun y h3 e3 hy => ?_)
        obtain ⟨(y : Int), w⟩ := y
        dsimp only at hy ⊢
        subst hy
        have o3 := o2.ext e3
        have e03 := e2.trans e3
        refine wp_ifB (fun hg => ?_) fun hg => ?_
        · rw [geI_iff] at hg
          refine s_ret ⟨e03, .inl ⟨rfl, rfl, ?_⟩⟩
          by_cases hi : i = 0
          · subst hi
            refine .inl ⟨rfl, ?_⟩
            have : key (sum (l.take (0 : Int).toNat)) k = 0 := by rw [show (0 : Int).toNat = 0 from rfl, List.take_zero, show sum [] = zero4 from rfl, key_zero]
            have hg' : n ≤ key (sum (l.take (0 : Int).toNat)) k := hg
            exact (by omega : n ≤ 0)
          · exact .inr (.inl ⟨by omega, hc, hg, hlow (by omega)⟩)
        · rw [geI_not] at hg
          refine wp_ifB (fun hd => ?_) fun hd => ?_
          · rw [ltI_iff, hlen] at hd
            refine s_get4 rfl o3 (s_at2 (hr.ext e03) i0 hd fun r hj => ?_)
            obtain ⟨f1, f2⟩ := hr.wf.get hj
            refine wp_call (c_behind (r := (r.1, r.2, ())) hv f1 f2 (by omega)) fun x h4 e4 hx => ?_
            obtain ⟨m, w'⟩ := x
            dsimp only at hx
            have hs : add (sum (l.take i.toNat)) (measure (r.1, r.2)) = sum (l.take (i.toNat + 1)) := by
              have := take_succ i0 hj
              rw [show (i + 1).toNat = i.toNat + 1 by omega] at this
              rw [this, sum_snoc]
            rw [hs] at hx
            subst hx
            have hv' : V l.length (sum (l.take (i.toNat + 1))) := (V.sum (hr.wf.take _)).mono (by rw [List.length_take]; omega)
            exact s_store4 (sum (l.take (i.toNat + 1))) (o3.ext e4) (hv'.fits (by omega)) fun h5 o5 u5 => s_ret ⟨Upd.extN (e03.trans e4) u5 (by intro a ha; cases ha; exact Nat.le_refl _), .inr ⟨rfl, rfl, hg, o5⟩⟩
          · rw [ltI_not, hlen] at hd
            refine s_ret ⟨e03, .inr ⟨rfl, rfl, hg, ?_⟩⟩
            have h1 : l.take (i.toNat + 1) = l.take i.toNat := by rw [List.take_of_length_le (by omega), List.take_of_length_le (by omega)]
            rw [h1]; exact o3
      · rintro t vs h3 ⟨e3, ⟨rfl, rfl, hf⟩ | ⟨rfl, rfl, hk, o3⟩⟩
        · exact s_tag ⟨(i, ()), rfl, s_ret ⟨fun h => absurd h (by decide), fun _ => ⟨e3, .inr ⟨rfl, (i, ()), rfl, hf⟩⟩⟩⟩
        · refine s_skip (by decide) (s_tag (s_cast0 ?_))
          rw [add_ok (by omega) (by omega)]
          refine s_ret ⟨fun _ => ⟨(i + 1, ()), rfl, ⟨by dsimp only; omega, by dsimp only; omega, e3, ?_, fun _ => ?_⟩, by dsimp only; omega⟩, fun h => absurd rfl h⟩
          · dsimp only
            rw [show (i + 1).toNat = i.toNat + 1 by omega]; exact o3
          · dsimp only
            rw [show (i + 1).toNat - 1 = i.toNat by omega]; exact hk
    · rw [leI_not, hlen] at hc
      refine s_ret ⟨fun h => absurd h (by decide), fun _ => ⟨e2, .inl ⟨rfl, rfl, ?_⟩⟩⟩
      have := hlow (by omega)
      rw [show i.toNat - 1 = l.length by omega, hall] at this; exact this
  · rintro t vs h2 ⟨e2, ⟨rfl, rfl, hk⟩ | ⟨rfl, x, rfl, hf⟩⟩
    · refine s_tag (s_cast0 ?_)
      rw [natI_def, hlen, add_ok (by omega) (by omega)]
      exact s_ret ⟨rfl, e2, ((l.length : Int) + 1, ()), rfl, .inr (.inr ⟨rfl, hk⟩)⟩
    · exact s_skip (by decide) (s_tag ⟨x, rfl, s_ret ⟨rfl, e2, x, rfl, hf⟩⟩)

end Go.Sw.Tree

set_option linter.unusedVariables false
set_option linter.unusedSimpArgs false
set_option maxRecDepth 100000
namespace Go.Sw.Tree
variable {P : Program} {S : Ids} {h : Heap} {Q : Nat → List Value → Heap → Prop}

/-- May these places be replaced? -/
def Placed (i j : Int) (n : Nat) : Prop := 0 ≤ i ∧ i ≤ j ∧ j ≤ n

theorem c_ReplaceNo {p : Option Addr} {t : BT} {items : Sl} {i j : Int} (nt : Nd h p t) (hno : ¬ Placed i j t.list.length) :
    Gives P (F_Tree_Run_Replace S (p, ()) i j items) [.agg [.ptr], .one (.int .i64)] h fun (y : TR × Int × Unit) h' => y.2.1 = 1 ∧ y.1.1 = none := by
  unfold Placed at hno
  unfold F_Tree_Run_Replace Gives
  refine s_newP p fun k1 e1 o1 => s_newP none fun k2 e2 o2 => ?_
  have e02 := e1.trans e2
  have o12 := o1.ext e2
  refine bind_bool True ?_ fun b k3 e3 hb => ?_
  · refine wp_ifB (fun hz => s_ret ⟨rfl, Ext.refl _, true, rfl, Iff.intro (fun _ => trivial) (fun _ => rfl)⟩) fun hz => wp_ifB (fun hy => s_ret ⟨rfl, Ext.refl _, true, rfl, Iff.intro (fun _ => trivial) (fun _ => rfl)⟩) fun hy => s_getT o12 (wp_call (c_Size (nt.ext e02)) fun y k3 e3 hx => ?_)
    obtain ⟨(y : Int), w⟩ := y
    dsimp only at hx ⊢
    rw [ltI_not] at hz
    rw [gtI_not] at hy
    exact s_ret ⟨rfl, e3, gtI j y, rfl, Iff.intro (fun _ => trivial) (fun _ => gtI_iff.2 (by omega))⟩
  have hbt : b = true := hb.2 trivial
  subst hbt
  dsimp only
  exact s_ifT (s_putP none (o2.ext e3) fun k4 o4 u4 => s_getT o4 (s_ret ⟨rfl, Upd.extN (e02.trans e3) u4 (by intro a ha; cases ha; exact e1.size), ((none, ()), 1, ()), rfl, rfl, rfl⟩))

theorem c_refReplace {s items : Sl} {l its : List (Int × Int)} {i j : Int} (hr : Runs h s l) (hi : Runs h items its) (hroom : l.length + its.length ≤ 4398046511104) :
    Gives P (F_ref4_Replace S s i j items) [.one .sl, .one (.int .i64)] h fun (y : Sl × Int × Unit) h' =>
      (Placed i j l.length ∧ y.2.1 = 0 ∧ OwnR h.size h' y.1 (l.take i.toNat ++ its ++ l.drop j.toNat)) ∨ (¬ Placed i j l.length ∧ y.2.1 = 1) := by
  have hlen := hr.len
  have hil := hi.len
  unfold F_ref4_Replace Gives
  refine bind_bool (¬ Placed i j l.length) ?_ fun b h1 e1 hb => ?_
  · unfold Placed
    refine wp_ifB (fun hz => ?_) fun hz => wp_ifB (fun hy => ?_) fun hy => ?_
    · rw [ltI_iff] at hz
      exact s_ret ⟨rfl, Ext.refl _, true, rfl, Iff.intro (fun _ => by omega) (fun _ => rfl)⟩
    · rw [gtI_iff] at hy
      exact s_ret ⟨rfl, Ext.refl _, true, rfl, Iff.intro (fun _ => by omega) (fun _ => rfl)⟩
    · rw [ltI_not] at hz
      rw [gtI_not] at hy
      refine s_ret ⟨rfl, Ext.refl _, _, rfl, ?_⟩
      rw [gtI_iff, natI_def, hlen]; omega
  dsimp only
  refine wp_ifB (fun hc => s_ret ⟨rfl, e1, (⟨none, 0, 0⟩, 1, ()), rfl, .inr ⟨hb.1 hc, rfl⟩⟩) fun hc => ?_
  have hp : Placed i j l.length := Classical.byContradiction fun x => by rw [hb.2 x] at hc; cases hc
  obtain ⟨p0, p1, p2⟩ := id hp
  refine wp_while (fun (r : Sl × Int × Unit) h' => Ext h h' ∧ 0 ≤ r.2.1 ∧ r.2.1 ≤ i ∧ OwnR h.size h' r.1 (l.take r.2.1.toNat)) (fun r _ => (i - r.2.1).toNat)
    (fun t vs h' => t = 2 ∧ ∃ x : Sl × Unit, vs = Ts.inj [.one .sl] x ∧ Ext h h' ∧ OwnR h.size h' x.1 (l.take i.toNat)) ⟨e1, by simp, by simpa using p0, OwnR.nil ..⟩ ?_ ?_
  · rintro ⟨t, (k : Int), u⟩ h2 ⟨e2, k0, k1, ho⟩
    dsimp only at k0 k1 ho ⊢
    refine wp_ifB (fun hd => ?_) fun hd => ?_
    · rw [ltI_iff] at hd
      refine s_at2 (hr.ext e2) k0 (by omega) fun r hj => ?_
      obtain ⟨f1, f2⟩ := hr.wf.get hj
      refine s_push2 ho e2.size f1 f2 (by rw [List.length_take]; omega) fun t' h3 k3 ho => ?_
      rw [add_ok (by omega) (by omega)]
      refine s_ret ⟨fun _ => ⟨(t', k + 1, ()), rfl, ⟨Keep.trans e2 k3, by dsimp only; omega, by dsimp only; omega, ?_⟩, by dsimp only; omega⟩, fun h => absurd rfl h⟩
      dsimp only
      rw [take_succ k0 hj]; exact ho
    · rw [ltI_not] at hd
      rw [show k.toNat = i.toNat by omega] at ho
      exact s_ret ⟨fun h => absurd h (by decide), fun _ => ⟨rfl, (t, ()), rfl, e2, ho⟩⟩
  rintro t vs h2 ⟨rfl, ⟨x, w⟩, rfl, e2, ho⟩
  refine s_tag ⟨(x, ()), rfl, ?_⟩
  dsimp only at ho ⊢
  have lt1 : (l.take i.toNat).length ≤ l.length := by rw [List.length_take]; omega
  refine wp_while (fun (r : Sl × Int × Unit) h' => Ext h h' ∧ 0 ≤ r.2.1 ∧ r.2.1 ≤ its.length ∧ OwnR h.size h' r.1 (l.take i.toNat ++ its.take r.2.1.toNat)) (fun r _ => (its.length - r.2.1).toNat)
    (fun t vs h' => t = 4 ∧ ∃ x : Sl × Unit, vs = Ts.inj [.one .sl] x ∧ Ext h h' ∧ OwnR h.size h' x.1 (l.take i.toNat ++ its)) ⟨e2, by simp, by simp, by simpa using ho⟩ ?_ ?_
  · rintro ⟨t, (k : Int), u⟩ h3 ⟨e3, k0, k1, ho⟩
    dsimp only at k0 k1 ho ⊢
    refine wp_ifB (fun hd => ?_) fun hd => ?_
    · rw [ltI_iff, natI_def, hil] at hd
      refine s_at2 (hi.ext e3) k0 (by omega) fun r hj => ?_
      obtain ⟨f1, f2⟩ := hi.wf.get hj
      refine s_push2 ho e3.size f1 f2 (by rw [List.length_append, List.length_take (l := its)]; omega) fun t' h4 k4 ho => ?_
      rw [add_ok (by omega) (by omega)]
      refine s_ret ⟨fun _ => ⟨(t', k + 1, ()), rfl, ⟨Keep.trans e3 k4, by dsimp only; omega, by dsimp only; omega, ?_⟩, by dsimp only; omega⟩, fun h => absurd rfl h⟩
      dsimp only
      rw [take_succ k0 hj, ← List.append_assoc]; exact ho
    · rw [ltI_not, natI_def, hil] at hd
      rw [show its.take k.toNat = its from List.take_of_length_le (by omega)] at ho
      exact s_ret ⟨fun h => absurd h (by decide), fun _ => ⟨rfl, (t, ()), rfl, e3, ho⟩⟩
  rintro t vs h3 ⟨rfl, ⟨x, w⟩, rfl, e3, ho⟩
  refine s_tag ⟨(x, ()), rfl, ?_⟩
  dsimp only at ho ⊢
  refine wp_while (fun (r : Sl × Int × Unit) h' => Ext h h' ∧ j ≤ r.2.1 ∧ r.2.1 ≤ l.length ∧ OwnR h.size h' r.1 (l.take i.toNat ++ its ++ (l.drop j.toNat).take (r.2.1 - j).toNat)) (fun r _ => (l.length - r.2.1).toNat)
    (fun t vs h' => t = 6 ∧ ∃ x : Sl × Unit, vs = Ts.inj [.one .sl] x ∧ Ext h h' ∧ OwnR h.size h' x.1 (l.take i.toNat ++ its ++ l.drop j.toNat)) ⟨e3, by simp, by simpa using p2, by simpa using ho⟩ ?_ ?_
  · rintro ⟨t, (k : Int), u⟩ h4 ⟨e4, k0, k1, ho⟩
    dsimp only at k0 k1 ho ⊢
    refine wp_ifB (fun hd => ?_) fun hd => ?_
    · rw [ltI_iff, natI_def, hlen] at hd
      refine s_at2 (hr.ext e4) (by omega) (by omega) fun r hj => ?_
      obtain ⟨f1, f2⟩ := hr.wf.get hj
      refine s_push2 ho e4.size f1 f2 (by rw [List.length_append, List.length_append, List.length_take (l := l.drop j.toNat), List.length_drop, List.length_take]; omega) fun t' h5 k5 ho => ?_
      rw [add_ok (by omega) (by omega)]
      refine s_ret ⟨fun _ => ⟨(t', k + 1, ()), rfl, ⟨Keep.trans e4 k5, by dsimp only; omega, by dsimp only; omega, ?_⟩, by dsimp only; omega⟩, fun h => absurd rfl h⟩
      dsimp only
      have hj' : (l.drop j.toNat)[(k - j).toNat]? = some r := by rw [List.getElem?_drop, show j.toNat + (k - j).toNat = k.toNat by omega]; exact hj
      rw [show k + 1 - j = (k - j) + 1 by omega, take_succ (by omega) hj', ← List.append_assoc]; exact ho
    · rw [ltI_not, natI_def, hlen] at hd
      rw [show (l.drop j.toNat).take (k - j).toNat = l.drop j.toNat from List.take_of_length_le (by rw [List.length_drop]; omega)] at ho
      exact s_ret ⟨fun h => absurd h (by decide), fun _ => ⟨rfl, (t, ()), rfl, e4, ho⟩⟩
  rintro t vs h4 ⟨rfl, ⟨x, w⟩, rfl, e4, ho⟩
  exact s_tag ⟨(x, ()), rfl, s_ret ⟨rfl, e4, (x, 0, ()), rfl, .inl ⟨hp, rfl, ho⟩⟩⟩

end Go.Sw.Tree

set_option linter.unusedVariables false
set_option linter.unusedSimpArgs false
set_option maxRecDepth 100000
namespace Go.Sw.Tree
variable {P : Program} {S : Ids} {h : Heap} {Q : Nat → List Value → Heap → Prop}

/-- l[j] = (x, y) in a list of one's own. -/
theorem s_set2 {n : Nat} {s : Sl} {l : List (Int × Int)} {x y : Int} {j : Int} {K : Prog} (ho : OwnR n h s l) (h0 : 0 ≤ j) (h1 : j < l.length) (hf : fitsI .i64 x ∧ fitsI .i64 y)
    (hk : ∀ h', OwnR n h' s (l.set j.toNat (x, y)) → Upd s h h' → wp P K h' Q) :
    wp P (grd (andB (someB s.base) (inB j s.len)) (.store (shiftTo s.base (mulN (toN j) 2)) [.int .i64 x, .int .i64 y] K)) h Q := by
  have hl := ho.len
  obtain ⟨o1, o2, o3, o4⟩ := ho.own
  cases hb : s.base with
  | none => rw [hb] at o4; simp only at o4; omega
  | some a =>
    rw [hb] at o4
    obtain ⟨b, off, spot⟩ := a
    obtain ⟨e0, e1, e2, cs, elem, e3, e4, e5⟩ := o4
    dsimp only at e0 e1 e2 e3
    subst e0; subst e1
    refine wp_grd (andB_iff.2 ⟨rfl, inB_is.2 ⟨h0, by omega⟩⟩) ?_
    have hadd : ((Addr.mk b 0 none).add (mulN (toN j) 2)) = ⟨b, j.toNat * 2, none⟩ := by simp [add_mk, mulN, toN]
    obtain ⟨w, cs', c1, c2, c3, c4, c5, c6⟩ := puts_block (vs := [.int .i64 x, .int .i64 y]) (i := 0) (off := j.toNat * 2) e3 (cR_flat [(x, y)]) (by simp; omega)
    refine ⟨⟨b, j.toNat * 2, none⟩, by rw [shiftTo_some, hadd], w, hk _ ⟨⟨by rw [cR_len, List.length_set]; omega, o2, o3, ?_⟩, ?_⟩
      ⟨by unfold puts; omega, fun i hi hne => c6 i fun e => (hne _ hb) e.symm, fun a e => by unfold puts; rw [thaw_putFrom]; exact e⟩⟩
    · rw [hb]
      refine ⟨rfl, rfl, e2, cs', elem, c1, by rw [c2, e4], fun i v hi => ?_⟩
      have hlt := (List.getElem?_eq_some_iff.1 hi).1
      rw [cR_len, List.length_set] at hlt
      by_cases hij : i / 2 = j.toNat
      · have hr : (l.set j.toNat (x, y))[i / 2]? = some (x, y) := by rw [hij]; exact List.getElem?_set_self (by omega)
        obtain ⟨g1, g2⟩ := cR_at _ _ _ hr
        rcases Nat.mod_two_eq_zero_or_one i with hm | hm
        · rw [show i / 2 * 2 = i by omega] at g1
          rw [g1] at hi
          have := c3 0 v hi
          rw [show j.toNat * 2 + 0 + 0 = i by omega] at this; exact this
        · rw [show i / 2 * 2 + 1 = i by omega] at g2
          rw [g2] at hi
          have := c3 1 v hi
          rw [show j.toNat * 2 + 0 + 1 = i by omega] at this; exact this
      · have hr : (l.set j.toNat (x, y))[i / 2]? = some l[i / 2] := by rw [List.getElem?_set_ne (by omega)]; exact List.getElem?_eq_getElem (by omega)
        have hr' : l[i / 2]? = some l[i / 2] := List.getElem?_eq_getElem (by omega)
        obtain ⟨g1, g2⟩ := cR_at _ _ _ hr
        obtain ⟨g1', g2'⟩ := cR_at _ _ _ hr'
        rw [c4 i (by simp; omega)]
        rcases Nat.mod_two_eq_zero_or_one i with hm | hm
        · rw [show i / 2 * 2 = i by omega] at g1 g1'
          exact e5 i v (by rw [g1']; rw [g1] at hi; exact hi)
        · rw [show i / 2 * 2 + 1 = i by omega] at g2 g2'
          exact e5 i v (by rw [g2']; rw [g2] at hi; exact hi)
    · intro r hr
      rcases List.mem_or_eq_of_mem_set hr with hr | rfl
      · exact ho.wf r hr
      · exact hf

theorem upd_trans {s : Sl} {h h1 h2 : Heap} (u : Upd s h h1) (v : Upd s h1 h2) : Upd s h h2 := ⟨Nat.le_trans u.1 v.1, fun i hi hne => (v.2.1 i (Nat.lt_of_lt_of_le hi u.1) hne).trans (u.2.1 i hi hne), fun a x => v.2.2 a (u.2.2 a x)⟩
theorem ext_upd {s : Sl} {h h1 : Heap} (e : Ext h h1) : Upd s h h1 := ⟨e.1, fun i hi _ => e.2.1 i hi, e.2.2⟩

def spoilt (i : Nat) : Int × Int := (subI .i64 (-77) (i : Int), 1)
def spoilts (n : Nat) : List (Int × Int) := (List.range n).map spoilt
theorem spoilts_len (n : Nat) : (spoilts n).length = n := by simp [spoilts]
theorem spoilts_succ (n : Nat) : spoilts (n + 1) = spoilts n ++ [spoilt n] := by simp [spoilts, List.range_succ]
theorem mark_at (its : List (Int × Int)) (n : Nat) {j : Nat} (h1 : its.length ≤ j) (h2 : j < its.length + n) : (its ++ marksR its.length n)[j]? = some (mark j) := by
  rw [List.getElem?_append_right h1, marksR, List.getElem?_map, List.getElem?_range' (by omega)]
  simp; congr 1; omega

theorem c_spoil {n : Nat} {s was : Sl} {its : List (Int × Int)} {m : Nat} (ho : OwnR n h s (its ++ marksR its.length m)) (hn : n ≤ h.size) (hw : Runs h was its) (hb : its ≠ [] → ∀ a, was.base = some a → a.block < n) :
    GivesN n P (F_law4_spoil S s was) [.one .bool] h fun (y : Bool × Unit) h' => y.1 = true ∧ OwnR n h' s (spoilts its.length ++ marksR its.length m) ∧ Upd s h h' := by
  have hlen := ho.len
  have hwl := hw.len
  have hmax := ho.own.2.2.1
  have hcap := ho.own.2.1
  rw [List.length_append, marksR_len] at hlen
  unfold F_law4_spoil GivesN
  refine wp_while (fun (r : Int × Unit) h' => Ext h h' ∧ (its.length : Int) ≤ r.1 ∧ r.1 ≤ s.len) (fun r _ => (s.len - r.1).toNat) (fun t vs h' => t = 2 ∧ vs = [] ∧ Ext h h') ⟨Ext.refl h, by dsimp only; rw [natI_def, hwl]; omega, by dsimp only; rw [natI_def, hwl]; omega⟩ ?_ ?_
  · rintro ⟨(i : Int), u⟩ h1 ⟨e1, i0, i1⟩
    dsimp only at i0 i1 ⊢
    refine wp_ifB (fun hc => ?_) fun hc => ?_
    · rw [ltI_iff, natI_def] at hc
      obtain ⟨k, rfl⟩ := Int.eq_ofNat_of_zero_le (show 0 ≤ i by omega)
      have hat := mark_at its m (j := k) (by omega) (by omega)
      have hr := (ho.ext e1).runs
      have hll : (its ++ marksR its.length m).length = its.length + m := by rw [List.length_append, marksR_len]
      refine bind_bool False ?_ fun b h2 e2 hb => ?_
      · refine s_part2 (x := (mark k).1) hr (by omega) (by omega) (fun r hj => .inl ⟨rfl, by rw [Int.toNat_natCast, hat] at hj; cases hj; rfl⟩) ?_
        rw [show neI (mark k).1 (subI .i64 (-71) (k : Int)) = false from neI_not.2 rfl]
        refine s_ifF (s_part2 (x := (mark k).2) hr (by omega) (by omega) (fun r hj => .inr ⟨rfl, by rw [Int.toNat_natCast, hat] at hj; cases hj; rfl⟩) ?_)
        exact s_ret ⟨rfl, Ext.refl _, neI (mark k).2 (-72), rfl, Iff.intro (fun hx => absurd (neI_iff.1 hx) (by simp [mark])) False.elim⟩
      · have hbf : b = false := by cases b; rfl; exact (hb.1 rfl).elim
        subst hbf
        dsimp only
        rw [add_ok (by omega) (by omega)]
        exact s_ifF (s_ret ⟨fun _ => ⟨((k : Int) + 1, ()), rfl, ⟨e1.trans e2, by dsimp only; omega, by dsimp only; omega⟩, by dsimp only; omega⟩, fun h => absurd rfl h⟩)
    · exact s_ret ⟨fun h => absurd h (by decide), fun _ => ⟨rfl, rfl, e1⟩⟩
  · rintro t vs h1 ⟨rfl, rfl, e1⟩
    refine s_tag (s_cast0 ?_)
    have hk1 : Keep n h h1 := e1.mono hn
    refine wp_while (fun (r : Int × Unit) h' => Keep n h h' ∧ Upd s h h' ∧ 0 ≤ r.1 ∧ r.1 ≤ its.length ∧ OwnR n h' s (spoilts r.1.toNat ++ its.drop r.1.toNat ++ marksR its.length m)) (fun r _ => (its.length - r.1).toNat)
      (fun t vs h' => t = 4 ∧ vs = [] ∧ Keep n h h' ∧ Upd s h h' ∧ OwnR n h' s (spoilts its.length ++ marksR its.length m)) ⟨hk1, ext_upd e1, by simp, by simp, by simpa [spoilts] using ho.ext e1⟩ ?_ ?_
    · rintro ⟨(i : Int), u⟩ h2 ⟨k2, v2, i0, i1, ho⟩
      dsimp only at i0 i1 ho ⊢
      refine wp_ifB (fun hc => ?_) fun hc => ?_
      · rw [ltI_iff, natI_def, hwl] at hc
        obtain ⟨k, rfl⟩ := Int.eq_ofNat_of_zero_le i0
        rw [Int.toNat_natCast] at ho
        have hlt : k < its.length := by omega
        have hx : its[k]? = some its[k] := List.getElem?_eq_getElem hlt
        have hd : its.drop k = its[k] :: its.drop (k + 1) := List.drop_eq_getElem_cons hlt
        have hr := ho.runs
        have hll := ho.len
        have hat : (spoilts k ++ its.drop k ++ marksR its.length m)[k]? = some its[k] := by
          rw [List.append_assoc, List.getElem?_append_right (by rw [spoilts_len]; omega), spoilts_len, Nat.sub_self, hd]; rfl
        have hkl := (List.getElem?_eq_some_iff.1 hat).1
        have hww : Runs h2 was its := ⟨Rd.keepB hw.rd k2 (hb (by rintro rfl; simp at hlt)), hw.cap, hw.max, hw.wf⟩
        refine bind_bool False ?_ fun b h3 e3 hb3 => ?_
        · refine s_part2 (x := its[k].1) hr (by omega) (by omega) (fun r hj => .inl ⟨rfl, by rw [Int.toNat_natCast, hat] at hj; cases hj; rfl⟩) ?_
          refine s_part2 (x := its[k].1) hww (by omega) (by omega) (fun r hj => .inl ⟨rfl, by rw [Int.toNat_natCast, hx] at hj; cases hj; rfl⟩) ?_
          rw [show neI its[k].1 its[k].1 = false from neI_not.2 rfl]
          refine s_ifF (s_part2 (x := its[k].2) hr (by omega) (by omega) (fun r hj => .inr ⟨rfl, by rw [Int.toNat_natCast, hat] at hj; cases hj; rfl⟩) ?_)
          refine s_part2 (x := its[k].2) hww (by omega) (by omega) (fun r hj => .inr ⟨rfl, by rw [Int.toNat_natCast, hx] at hj; cases hj; rfl⟩) ?_
          exact s_ret ⟨rfl, Ext.refl _, _, rfl, Iff.intro (fun hz => absurd rfl (neI_iff.1 hz)) False.elim⟩
        · have hbf : b = false := by cases b; rfl; exact (hb3.1 rfl).elim
          subst hbf
          dsimp only
          have ho3 := ho.ext e3
          refine s_ifF (s_set2 (x := (spoilt k).1) (y := (spoilt k).2) ho3 (by omega) (by omega) ⟨range_i64 _, fits_i64.2 (by unfold spoilt; dsimp only; decide)⟩ fun h4 o4 u4 => ?_)
          rw [add_ok (by omega) (by omega)]
          have k4 : Keep n h h4 := Keep.trans k2 (Keep.trans (e3.mono (Nat.le_trans hn k2.size)) (Upd.keep ho3.own (Nat.le_trans hn (Nat.le_trans k2.size e3.size)) u4))
          refine s_ret ⟨fun _ => ⟨((k : Int) + 1, ()), rfl, ⟨k4, upd_trans v2 (upd_trans (ext_upd e3) u4), by dsimp only; omega, by dsimp only; omega, ?_⟩, by dsimp only; omega⟩, fun h => absurd rfl h⟩
          dsimp only
          have hset : (spoilts k ++ its.drop k ++ marksR its.length m).set k (spoilt k) = spoilts (k + 1) ++ its.drop (k + 1) ++ marksR its.length m := by
            rw [hd, List.append_assoc, List.set_append_right _ _ (by rw [spoilts_len]; omega), spoilts_len, Nat.sub_self, spoilts_succ, List.cons_append, List.set_cons_zero, List.append_assoc, List.append_assoc]; rfl
          rw [Int.toNat_natCast] at o4
          rw [show ((k : Int) + 1).toNat = k + 1 by omega, ← hset]; exact o4
      · rw [ltI_not, natI_def, hwl] at hc
        rw [show i.toNat = its.length by omega, List.drop_length, List.append_nil] at ho
        exact s_ret ⟨fun h => absurd h (by decide), fun _ => ⟨rfl, rfl, k2, v2, ho⟩⟩
    · rintro t vs h2 ⟨rfl, rfl, k2, v2, ho⟩
      exact s_tag (s_cast0 (s_ret ⟨rfl, k2, (true, ()), rfl, rfl, ho, v2⟩))

end Go.Sw.Tree

set_option linter.unusedVariables false
set_option linter.unusedSimpArgs false
set_option maxRecDepth 100000
namespace Go.Sw.Tree
variable {P : Program} {S : Ids} {h : Heap} {Q : Nat → List Value → Heap → Prop}

theorem c_alive : Gives P (F_law4_alive S) [.one .bool] h fun (y : Bool × Unit) _ => y.1 = true := by
  have hw : wfR [((5 : Int), (2 : Int)), (6, 3)] := by
    intro r hr
    simp only [List.mem_cons, List.not_mem_nil, or_false] at hr
    rcases hr with rfl | rfl <;> exact ⟨fits_i64.2 (by decide), fits_i64.2 (by decide)⟩
  have hs : sum [((5 : Int), (2 : Int)), (6, 3)] = (5, 2, 5, 6, ()) := by decide
  unfold F_law4_alive Gives
  intro elem
  have e1 : Ext h (h.push (.cells [.int .i64 5, .int .i64 2, .int .i64 6, .int .i64 3].toArray elem)) := Ext.push ..
  have q1 : OwnR h.size (h.push (.cells [.int .i64 5, .int .i64 2, .int .i64 6, .int .i64 3].toArray elem)) ⟨some ⟨h.size, 0, none⟩, 2, 2⟩ [(5, 2), (6, 3)] := ⟨own_alloc rfl (by decide) (by decide), hw⟩
  generalize (h.push (.cells [.int .i64 5, .int .i64 2, .int .i64 6, .int .i64 3].toArray elem)) = h1 at e1 q1 ⊢
  refine wp_call (c_Of q1.runs (by decide)) fun y h2 e2 hy => ?_
  obtain ⟨⟨(p : Option Addr), w0⟩, w1⟩ := y
  obtain ⟨t, nt, lt, _⟩ := hy
  dsimp only at nt ⊢
  have hwt : wfR t.list := by rw [lt]; exact hw
  have hrt : t.list.length ≤ 4398046511104 := by rw [lt]; decide
  refine s_putTree p nt fun h3 e3 oT => ?_
  have n3 := nt.ext e3
  refine s_getT oT (wp_call (c_At (i := Int.ofNat 1) (x := (6, 3)) n3 hwt hrt (by decide) (by rw [lt]; rfl)) fun y h4 e4 hy => ?_)
  obtain ⟨⟨(y1 : Int), (y2 : Int), w2⟩, (y3 : Bool), w3⟩ := y
  obtain ⟨hy1, hy2, hy3⟩ := hy
  dsimp only at hy1 hy2 hy3 ⊢
  subst y1; subst y2; subst y3
  refine s_put2 6 3 (hw (6, 3) (by simp)) fun h5 e5 oX => ?_
  have e35 := e4.trans e5
  refine s_getT (oT.ext e35) (wp_call (c_Sum (n3.ext e35) hwt hrt) fun y h6 e6 hy => ?_)
  obtain ⟨y, w4⟩ := y
  dsimp only at hy
  rw [lt, hs] at hy
  subst hy
  refine s_put4 (5, 2, 5, 6, ()) (by have := (V.sum hw).fits (by decide); rw [hs] at this; exact this) fun h7 e7 oS => ?_
  have e37 := (e35.trans e6).trans e7
  have oX := (oX.ext e6).ext e7
  have e07 := ((e1.trans e2).trans e3).trans e37
  refine bind_val (tys := [.one .bool]) (fun (x : Bool × Unit) _ => x.1 = true) ?_ fun x h8 e8 hx => s_ret ⟨rfl, e07.trans e8, (x.1, ()), rfl, hx⟩
  refine s_getT (oT.ext e37) (wp_call (c_Size (n3.ext e37)) fun y k1 d1 hy => ?_)
  obtain ⟨(y : Int), w5⟩ := y
  dsimp only at hy ⊢
  rw [show eqI y 2 = true from eqI_iff.2 (by rw [hy, lt]; rfl)]
  have l1 := (oX.ext d1).lst
  have l2 := (oS.ext d1).lst
  refine s_ifT (s_ifT (s_loadX l1 (x := 6) rfl ?_))
  rw [eqI_self]
  refine s_ifT (s_loadX l1 (x := 3) rfl ?_)
  rw [eqI_self]
  refine s_ifT (s_loadX l2 (x := 5) rfl ?_)
  rw [eqI_self]
  refine s_ifT (s_loadX l2 (x := 2) rfl ?_)
  rw [eqI_self]
  refine s_ifT (s_loadX l2 (x := 5) rfl ?_)
  rw [eqI_self]
  refine s_ifT (s_loadX l2 (x := 6) rfl ?_)
  rw [eqI_self]
  exact s_ret ⟨rfl, d1, (true, ()), rfl, rfl⟩

end Go.Sw.Tree

namespace Go.Sw.Tree
open Go.ChangeShapes Go.WideShapes Go.ChangeAt Go.RowKit Go.WideElems
variable {H : Type} {enc : TypeId × Value → H} {P : Program}

theorem open_runs_t {t e : TypeId} {f0 f1 : Field} {W : World} {fuel : Nat} {cs : List Value} {x : DataW H × List MemPlace} (ht : P.underlying t = some (.slice e)) (hs : P.underlying e = some (.struct #[f0, f1]))
    (h0 : P.underlying f0.type = some (.int .i64)) (h1 : P.underlying f1.type = some (.int .i64)) (o0 : f0.offset = 0) (o1 : f1.offset = 1) (k0 : P.cellsOf f0.type = 1) (k1 : P.cellsOf f1.type = 1) (hC : P.cellsOf e = 2)
    (h : DataW.trod enc P W 0 (fun _ => true) true fuel t cs = some x) : ∃ (s : Sl) (l : List (Int × Int)), cs = [.slice s.base s.len s.cap] ∧ Runs W.heap s l ∧ l.length ≤ dcells x.1 := by
  rcases Go.Deep.open_slice ht h with ⟨e1, e2⟩ | ⟨a, len, cap, m, n, D, Pl, e1, _, h2, h3, h4, h5, h6⟩
  · exact ⟨⟨none, 0, 0⟩, [], e1, ⟨⟨rfl, fun i v hi => by simp [cR] at hi⟩, Nat.le_refl _, (by decide), by simp [wfR]⟩, Nat.zero_le _⟩
  · simp only [if_true] at h4
    subst h4
    have key : ∀ i, i < m → ∃ xy : Int × Int, (Sw.cell W.heap (a.add (i * 2)) = some (.int .i64 xy.1) ∧ Sw.cell W.heap (a.add (i * 2 + 1)) = some (.int .i64 xy.2)) ∧ fitsI .i64 xy.1 ∧ fitsI .i64 xy.2 := by
      intro i hi
      obtain ⟨cs, c1, c2⟩ := h6 i hi
      rw [hC] at c1
      obtain ⟨_, c3, c4⟩ := World.cells?_some c1
      obtain ⟨y0, y1, n', hx, _, t0, t1⟩ := trod_struct2 hs c2
      rw [o0, k0] at t0
      rw [o1, k1] at t1
      match cs, c3 with
      | [u0, u1], _ =>
        obtain ⟨x, ex, _, wx⟩ := DataW.trod_int h0 (by simpa using t0)
        obtain ⟨y, ey, _, wy⟩ := DataW.trod_int h1 (by simpa using t1)
        simp at ex ey
        subst ex; subst ey
        refine ⟨(x, y), ⟨?_, ?_⟩, wf_fits wx, wf_fits wy⟩
        · have := c4 0 (by decide)
          rw [Go.Deep.add_add] at this
          exact this
        · have := c4 1 (by decide)
          rw [Go.Deep.add_add] at this
          exact this
    obtain ⟨F, hF⟩ := Go.Deep.choose_lt key
    have hw : wfR ((List.range len).map F) := by
      intro r hr
      obtain ⟨i, hi, rfl⟩ := List.mem_map.1 hr
      exact (hF i (by have := List.mem_range.1 hi; omega)).2
    refine ⟨⟨some a, len, m⟩, (List.range len).map F, e1, ⟨⟨by rw [cR_len]; simp, fun i v hi => ⟨a, rfl, ?_⟩⟩, h2, Nat.lt_of_le_of_lt h3 (by decide), hw⟩, ?_⟩
    · have hlt := (List.getElem?_eq_some_iff.1 hi).1
      rw [cR_len, List.length_map, List.length_range] at hlt
      have hj : ((List.range len).map F)[i / 2]? = some (F (i / 2)) := by
        rw [List.getElem?_map, List.getElem?_range (by omega)]; rfl
      obtain ⟨g1, g2⟩ := cR_at _ _ _ hj
      obtain ⟨⟨q1, q2⟩, _⟩ := hF (i / 2) (by omega)
      rcases Nat.mod_two_eq_zero_or_one i with hm | hm
      · have : i / 2 * 2 = i := by omega
        rw [this] at g1 q1
        rw [g1] at hi; cases hi; exact q1
      · have : i / 2 * 2 + 1 = i := by omega
        rw [this] at g2 q2
        rw [g2] at hi; cases hi; exact q2
    · rw [h5]; simp [dcells]

/-- A step. -/
structure OpV where
  k : Int
  w : Int
  f : Int
  t : Int
  kk : Int
  n : Int
  s : Sl
  its : List (Int × Int)
def cO (o : OpV) : List Value := [iv o.k, iv o.w, iv o.f, iv o.t, iv o.kk, iv o.n, .slice o.s.base o.s.len o.s.cap]
def OpV.fits (o : OpV) : Prop := fitsI .i64 o.k ∧ fitsI .i64 o.w ∧ fitsI .i64 o.f ∧ fitsI .i64 o.t ∧ fitsI .i64 o.kk ∧ fitsI .i64 o.n
def delems : DataW H → List (DataW H)
  | .slice e _ => e
  | _ => []
def dfield (i : Nat) : DataW H → DataW H
  | .agg l => l.getD i .nil
  | _ => .nil

structure Ops (h : Heap) (s : Sl) (l : List OpV) : Prop where
  len : s.len = l.length
  at_ : ∀ i o, l[i]? = some o → ∃ a, s.base = some a ∧ (∀ q v, (cO o)[q]? = some v → cell h (a.add (i * 7 + q)) = some v) ∧ o.fits ∧ Runs h o.s o.its
  cap : s.len ≤ s.cap
  max : s.cap < 2 ^ 63

theorem open_ops {t e ti : TypeId} {f0 f1 f2 f3 f4 f5 f6 g0 g1 : Field} {er : TypeId} {W : World} {v : Value} {d : DataW H} {p : List MemPlace} {r : Reach} {b0 : Nat} (ht : P.underlying t = some (.slice e)) (hs : P.underlying e = some (.struct #[f0, f1, f2, f3, f4, f5, f6]))
    (hi : P.underlying ti = some (.int .i64)) (hci : P.cellsOf ti = 1) (ty : f0.type = ti ∧ f1.type = ti ∧ f2.type = ti ∧ f3.type = ti ∧ f4.type = ti ∧ f5.type = ti)
    (of : f0.offset = 0 ∧ f1.offset = 1 ∧ f2.offset = 2 ∧ f3.offset = 3 ∧ f4.offset = 4 ∧ f5.offset = 5 ∧ f6.offset = 6) (hC : P.cellsOf e = 7) (hc6 : P.cellsOf f6.type = 1)
    (ht6 : P.underlying f6.type = some (.slice er)) (hsr : P.underlying er = some (.struct #[g0, g1])) (h0 : P.underlying g0.type = some (.int .i64)) (h1 : P.underlying g1.type = some (.int .i64)) (o0 : g0.offset = 0) (o1 : g1.offset = 1) (k0 : P.cellsOf g0.type = 1) (k1 : P.cellsOf g1.type = 1) (hCr : P.cellsOf er = 2)
    (hval : Value.okWide P W r b0 t v) (h : DataW.Trod enc P W 0 (fun _ => true) true t v d p) : ∃ (s : Sl) (l : List OpV), v = .slice s.base s.len s.cap ∧ Ops W.heap s l ∧ l.length ≤ dcells d ∧
      ∀ (i : Nat) (o : OpV), l[i]? = some o → ∃ d', (delems d)[i]? = some d' ∧ o.its.length ≤ dcells (dfield 6 d') := by
  obtain ⟨fuel, h⟩ := h
  obtain ⟨a', len', cap', rfl⟩ := okWide_slice ht hval
  obtain ⟨ty0, ty1, ty2, ty3, ty4, ty5⟩ := ty
  obtain ⟨of0, of1, of2, of3, of4, of5, of6⟩ := of
  rcases Go.Deep.open_slice ht h with ⟨e1, e2⟩ | ⟨a, len, cap, m, n, D, Pl, e1, _, h2, h3, h4, h5, h6⟩
  · simp [Value.cells] at e1
    obtain ⟨rfl, rfl, rfl⟩ := e1
    exact ⟨⟨none, 0, 0⟩, [], rfl, ⟨rfl, fun i o hi => by simp at hi, Nat.le_refl _, by decide⟩, Nat.zero_le _, fun i o hi => by simp at hi⟩
  · simp only [if_true] at h4
    subst h4
    simp [Value.cells] at e1
    obtain ⟨rfl, rfl, rfl⟩ := e1
    have hd : d = _ := congrArg Prod.fst h5
    have key : ∀ i, i < cap' → ∃ o : OpV, (∀ q v, (cO o)[q]? = some v → Sw.cell W.heap (a.add (i * 7 + q)) = some v) ∧ o.fits ∧ Runs W.heap o.s o.its ∧ o.its.length ≤ dcells (dfield 6 (D i)) := by
      intro i hi'
      obtain ⟨cs, c1, c2⟩ := h6 i hi'
      rw [hC] at c1
      obtain ⟨_, c3, c4⟩ := World.cells?_some c1
      obtain ⟨xs, n', _, hx, hl, hlen, hf⟩ := DataW.trod_struct hs c2
      match cs, c3, xs, hlen with
      | [u0, u1, u2, u3, u4, u5, u6], _, [y0, y1, y2, y3, y4, y5, y6], _ =>
        have q0 := hf 0 f0 rfl
        have q1 := hf 1 f1 rfl
        have q2 := hf 2 f2 rfl
        have q3 := hf 3 f3 rfl
        have q4 := hf 4 f4 rfl
        have q5 := hf 5 f5 rfl
        have q6 := hf 6 f6 rfl
        rw [ty0, hci, of0] at q0
        rw [ty1, hci, of1] at q1
        rw [ty2, hci, of2] at q2
        rw [ty3, hci, of3] at q3
        rw [ty4, hci, of4] at q4
        rw [ty5, hci, of5] at q5
        rw [hc6, of6] at q6
        obtain ⟨x0, ex0, _, wx0⟩ := DataW.trod_int hi (by simpa using q0)
        obtain ⟨x1, ex1, _, wx1⟩ := DataW.trod_int hi (by simpa using q1)
        obtain ⟨x2, ex2, _, wx2⟩ := DataW.trod_int hi (by simpa using q2)
        obtain ⟨x3, ex3, _, wx3⟩ := DataW.trod_int hi (by simpa using q3)
        obtain ⟨x4, ex4, _, wx4⟩ := DataW.trod_int hi (by simpa using q4)
        obtain ⟨x5, ex5, _, wx5⟩ := DataW.trod_int hi (by simpa using q5)
        obtain ⟨s, l, ex6, hr, hl6⟩ := open_runs_t (x := y6) ht6 hsr h0 h1 o0 o1 k0 k1 hCr (by simpa using q6)
        simp at ex0 ex1 ex2 ex3 ex4 ex5 ex6
        subst ex0; subst ex1; subst ex2; subst ex3; subst ex4; subst ex5; subst ex6
        refine ⟨⟨x0, x1, x2, x3, x4, x5, s, l⟩, fun q v hq => ?_, ⟨wf_fits wx0, wf_fits wx1, wf_fits wx2, wf_fits wx3, wf_fits wx4, wf_fits wx5⟩, hr, ?_⟩
        · have hq7 := (List.getElem?_eq_some_iff.1 hq).1
          have := c4 q hq7
          rw [Go.Deep.add_add] at this
          exact this.trans hq
        · have : D i = _ := congrArg Prod.fst hx
          rw [this]; exact hl6
    have : Inhabited OpV := ⟨⟨0, 0, 0, 0, 0, 0, ⟨none, 0, 0⟩, []⟩⟩
    obtain ⟨F, hF⟩ := Go.Deep.choose_lt key
    have hget : ∀ (i : Nat) (o : OpV), ((List.range len').map F)[i]? = some o → i < len' ∧ o = F i := by
      intro i o hi
      have hlt := (List.getElem?_eq_some_iff.1 hi).1
      rw [List.length_map, List.length_range] at hlt
      rw [List.getElem?_map, List.getElem?_range hlt] at hi
      exact ⟨hlt, by simpa using hi.symm⟩
    refine ⟨⟨some a, len', cap'⟩, (List.range len').map F, rfl, ⟨by simp, fun i o hi => ?_, h2, Nat.lt_of_le_of_lt h3 (by decide)⟩, ?_, fun i o hi => ?_⟩
    · obtain ⟨hlt, rfl⟩ := hget i o hi
      obtain ⟨k1, k2, k3, _⟩ := hF i (by omega)
      exact ⟨a, rfl, k1, k2, k3⟩
    · rw [hd]; simp [dcells]
    · obtain ⟨hlt, rfl⟩ := hget i o hi
      obtain ⟨_, _, _, k4⟩ := hF i (by omega)
      exact ⟨D i, by rw [hd]; simp [delems, hlt], k4⟩

end Go.Sw.Tree

set_option linter.unusedVariables false
set_option linter.unusedSimpArgs false
set_option maxRecDepth 100000
namespace Go.Sw
variable {P : Program} {h : Heap} {Q : Nat → List Value → Heap → Prop}

/-- All cells of a list's block are of one kind, its room too. -/
def AllK (cls : Value → Prop) (h : Heap) (s : Sl) : Prop := ∀ a, s.base = some a → ∀ i v, Sw.cell h ⟨a.block, i, none⟩ = some v → cls v

theorem AllK.nil (cls : Value → Prop) (h : Heap) : AllK cls h ⟨none, 0, 0⟩ := fun a ha => by cases ha
theorem AllK.keep {cls : Value → Prop} {h h' : Heap} {s : Sl} (c : AllK cls h s) (hk : ∀ a, s.base = some a → h'[a.block]? = h[a.block]?) : AllK cls h' s := fun a ha i v hv => c a ha i v (by
  unfold Sw.cell at hv ⊢; rw [hk a ha] at hv; exact hv)

theorem zeros_mem {z : Value} : ∀ {n : Nat} {v : Value}, v ∈ zeros [z] n → v = z := by
  intro n
  induction n with
  | zero => intro v hv; simp [zeros] at hv
  | succ n ih => intro v hv; simp only [zeros, List.cons_append, List.nil_append, List.mem_cons] at hv; rcases hv with rfl | hv; rfl; exact ih hv

theorem wp_appendK {n bytes : Nat} {z : Value} {cls : Value → Prop} {s x : Sl} {old new : List Value} {K : Sl → Prog} (ho : Own n 1 h s old) (hn : n ≤ h.size) (hx : Rd 1 h x new) (hcl : AllK cls h s) (hnew : ∀ v ∈ new, cls v) (hz : cls z)
    (hf : ∀ v ∈ new, flat v = true) (hroom : (s.len + x.len) * bytes ≤ 140737488355328) (hlen : s.len + x.len < 2 ^ 63)
    (hk : ∀ r h', Own n 1 h' r (old ++ new) → AllK cls h' r → r.len = s.len + x.len → Upd s h h' → (∀ a, r.base = some a → s.base = some a ∨ (h.size ≤ a.block)) → wp P (K r) h' Q) :
    wp P (.append 1 bytes [z] s x K) h Q := by
  refine ⟨new, hx.firsts, ?_⟩
  obtain ⟨o1, o2, o3, o4⟩ := ho
  have hlen' : (old ++ new).length = (s.len + x.len) * 1 := by rw [List.length_append, ← o1, ← hx.1, Nat.add_mul]
  by_cases hc : s.len + x.len ≤ s.cap
  · simp only [hc, if_true]
    cases hb : s.base with
    | none =>
      rw [hb] at o4
      simp only at o4 ⊢
      have e1 : s.len = 0 := by omega
      have e2 : x.len = 0 := by omega
      refine hk _ _ ⟨hlen'.symm, hc, o3, o4⟩ (fun a ha => by cases ha) rfl ⟨Nat.le_refl _, fun _ _ _ => rfl, fun _ e => e⟩ (fun a ha => by cases ha)
    | some a =>
      rw [hb] at o4
      obtain ⟨b, off, spot⟩ := a
      obtain ⟨e0, e1, e2, cs, elem, e3, e4, e5⟩ := o4
      simp only at e0 e1 e2 e3
      subst e0; subst e1
      have hfit : s.len * 1 + new.length ≤ cs.size := by
        rw [e4, ← hx.1, ← Nat.add_mul]; exact Nat.mul_le_mul_right _ hc
      have hadd : (Addr.mk b 0 none).add (s.len * 1) = ⟨b, s.len * 1, none⟩ := by simp [add_mk]
      obtain ⟨w, cs', c1, c2, c3, c4, c5, c6⟩ := puts_block (i := 0) (off := s.len * 1) e3 hf (by simpa using hfit)
      simp only [hadd]
      refine ⟨w, hk _ _ ⟨hlen'.symm, hc, o3, rfl, rfl, e2, cs', elem, c1, by rw [c2, e4], fun i v hi => ?_⟩ ?_ rfl ⟨by unfold puts; omega, fun i hi hne => c6 i fun e => (hne _ hb) e.symm, fun a e => by unfold puts; rw [thaw_putFrom]; exact e⟩ (fun a ha => Or.inl (hb.trans ha))⟩
      · rw [List.getElem?_append] at hi
        split at hi
        · rename_i hlt
          rw [c4 i (Or.inl (by omega))]
          exact e5 i v hi
        · rename_i hge
          have := c3 _ _ hi
          rw [o1] at this
          rw [show old.length + 0 + (i - old.length) = i by omega] at this
          exact this
      · intro a ha i v hv
        cases ha
        unfold Sw.cell puts at hv
        dsimp only at hv
        rw [c1] at hv
        simp only [Option.isSome_none, Bool.false_eq_true, if_false] at hv
        by_cases hin : i < s.len * 1 ∨ s.len * 1 + 0 + new.length ≤ i
        · rw [c4 i (by omega)] at hv
          refine hcl _ hb i v ?_
          unfold Sw.cell
          dsimp only
          rw [e3]
          simpa using hv
        · obtain ⟨j, hj⟩ : ∃ j, i = s.len * 1 + 0 + j := ⟨i - s.len * 1, by omega⟩
          have hjl : j < new.length := by omega
          have := c3 j _ (List.getElem?_eq_getElem hjl)
          rw [← hj, hv] at this
          cases this
          exact hnew _ (List.getElem_mem hjl)
  · simp only [hc, if_false]
    refine ⟨old, Rd.firsts (Own.rd ⟨o1, o2, o3, o4⟩), growslice_fits (by omega) hroom, hlen, fun cap elem hcap hcap' => ?_⟩
    refine hk _ _ ⟨hlen'.symm, hcap, hcap', rfl, rfl, hn, _, elem, Array.getElem?_push_size, ?_, fun i v hi => ?_⟩ ?_ rfl ⟨by simp, fun i hi _ => push_old h _ hi, (Ext.push h _ _).2.2⟩ (fun a ha => Or.inr (by cases ha; exact Nat.le_refl _))
    · simp only [List.size_toArray, List.length_append, zeros_len (zero := [z]) (size := 1) rfl]
      rw [← o1, ← hx.1, ← Nat.add_mul, ← Nat.add_mul, Nat.add_sub_cancel' hcap]
    · simp only [List.getElem?_toArray]
      rw [List.getElem?_append_left (by
        have := (List.getElem?_eq_some_iff.1 hi).1; exact this)]
      exact hi
    · intro a ha i v hv
      cases ha
      unfold Sw.cell at hv
      dsimp only at hv
      rw [Array.getElem?_push_size] at hv
      simp only [Option.isSome_none, Bool.false_eq_true, if_false, List.getElem?_toArray] at hv
      rcases List.mem_append.1 (List.mem_of_getElem? hv) with hm | hm
      · rcases List.mem_append.1 hm with hm | hm
        · obtain ⟨j, hj⟩ := List.getElem?_of_mem hm
          cases hb : s.base with
          | none =>
            rw [hb] at o4
            simp only at o4
            have := (List.getElem?_eq_some_iff.1 hj).1
            omega
          | some a =>
            rw [hb] at o4
            obtain ⟨b, off, spot⟩ := a
            obtain ⟨e0, e1, e2, cs, elem', e3, e4, e5⟩ := o4
            dsimp only at e3
            refine hcl _ hb j v ?_
            unfold Sw.cell
            dsimp only
            rw [e3]
            simpa using e5 j v hj
        · exact hnew v hm
      · rw [zeros_mem hm]; exact hz

/-- What has a cell of no such kind lies in another block. -/
theorem AllK.ne {cls : Value → Prop} {s : Sl} {a b : Addr} {vs : List Value} {j : Nat} {v : Value} (c : AllK cls h s) (ha : s.base = some a) (hb : Cells h b vs) (hj : vs[j]? = some v) (hv : ¬ cls v) : a.block ≠ b.block := by
  intro e
  have hc := cells_iff.1 hb j v hj
  obtain ⟨bb, bo, bs⟩ := b
  dsimp only at e
  have hx := hc
  unfold Sw.cell at hx
  split at hx
  · rename_i c' hcc
    split at hx
    · cases hx
    · rename_i hns
      refine hv (c a ha ((Addr.mk bb bo bs).add j).off v ?_)
      unfold Sw.cell
      dsimp only
      have h2 : h[a.block]? = h[((Addr.mk bb bo bs).add j).block]? := by rw [add_block, e]
      rw [h2, hcc]
      simpa using hx
  · cases hx
end Go.Sw

set_option linter.unusedVariables false
set_option linter.unusedSimpArgs false
set_option maxRecDepth 100000
namespace Go.Sw.Tree
variable {P : Program} {S : Ids} {h : Heap} {Q : Nat → List Value → Heap → Prop}

theorem cell_ext {h h' : Heap} (e : Ext h h') {a : Addr} {v : Value} (c : Sw.cell h a = some v) : Sw.cell h' a = some v := Ext.cell e c
theorem Ops.ext {h h' : Heap} {s : Sl} {l : List OpV} (o : Ops h s l) (e : Ext h h') : Ops h' s l :=
  ⟨o.len, fun i x hi => let ⟨a, h1, h2, h3, h4⟩ := o.at_ i x hi; ⟨a, h1, fun q v hq => cell_ext e (h2 q v hq), h3, h4.ext e⟩, o.cap, o.max⟩

theorem s_opPart {s : Sl} {l : List OpV} {o : OpV} {b : B} {j : Int} {q : Nat} {K : b.den → Prog} (x : b.den) (hr : Ops h s l) (h0 : 0 ≤ j) (hj : l[j.toNat]? = some o) (hq : (cO o)[q]? = some (b.inj x)) (hk : wp P (K x) h Q) :
    wp P (grd (andB (someB s.base) (inB j s.len)) <| grd (someB (shiftTo s.base (mulN (toN j) 7))) <| .load (.one b) (shiftTo (shiftTo s.base (mulN (toN j) 7)) q) K) h Q := by
  obtain ⟨a, ha, hc, _, _⟩ := hr.at_ _ _ hj
  have hlt := (List.getElem?_eq_some_iff.1 hj).1
  have hl := hr.len
  refine wp_grd (andB_iff.2 ⟨by simp [someB, ha], inB_is.2 ⟨h0, by omega⟩⟩) (wp_grd (by simp [someB, ha, shiftTo]) (wp_load1 (a.add (j.toNat * 7 + q)) x ?_ (hc _ _ hq) hk))
  simp [shiftTo, ha, mulN, toN, add_add]

theorem c_fits {s : Sl} {l : List OpV} (hr : Ops h s l) : Gives P (F_law4_fits S s) [.one .bool] h fun (y : Bool × Unit) _ => True := by
  have hlen := hr.len
  have hcap := hr.cap
  have hmax := hr.max
  unfold F_law4_fits Gives
  refine wp_while (fun (r : Int × Int × Int × Unit) h' => Ext h h' ∧ 0 ≤ r.2.2.1 ∧ r.2.2.1 ≤ l.length) (fun r _ => (l.length - r.2.2.1).toNat)
    (fun t vs h' => t = 2 ∧ Ext h h' ∧ ∃ x : Int × Int × Unit, vs = Ts.inj [.one (.int .i64), .one (.int .i64)] x) ⟨Ext.refl h, by simp, by simp⟩ ?_ ?_
  · rintro ⟨(n : Int), (m : Int), (i : Int), u⟩ h1 ⟨e1, i0, i1⟩
    dsimp only at i0 i1 ⊢
    refine wp_bind (fun tg vs h' => tg = 0 ∧ Ext h h' ∧ ∃ b : Bool, vs = [.bool b] ∧ (b = true → i < l.length)) ?_ ?_
    · refine wp_ifB (fun hc => ?_) fun hc => s_ret ⟨rfl, e1, false, rfl, fun h => by cases h⟩
      rw [ltI_iff, natI_def, hlen] at hc
      exact s_ret ⟨rfl, e1, _, rfl, fun _ => hc⟩
    · rintro tg vs h2 ⟨rfl, e2, b, rfl, hb⟩
      refine s_tag ⟨(b, ()), rfl, ?_⟩
      dsimp only
      refine wp_ifB (fun hc => ?_) fun hc => s_ret ⟨fun h => absurd h (by decide), fun _ => ⟨rfl, e2, (n, m, ()), rfl⟩⟩
      have hi := hb hc
      have hj : l[i.toNat]? = some l[i.toNat] := List.getElem?_eq_getElem (by omega)
      have hr2 := hr.ext e2
      refine wp_bind (fun tg vs h' => tg = 0 ∧ Ext h h' ∧ ∃ x : Int × Int × Unit, vs = Ts.inj [.one (.int .i64), .one (.int .i64)] x) ?_ ?_
      · refine s_opPart (b := .sl) (l[i.toNat].s) hr2 i0 hj rfl (wp_bind (fun tg vs h' => tg = 0 ∧ Ext h h' ∧ ∃ b : Bool, vs = [.bool b]) ?_ ?_)
        · refine s_opPart (b := .int .i64) (l[i.toNat].k) hr2 i0 hj rfl (wp_ifB (fun hd => s_ret ⟨rfl, e2, true, rfl⟩) fun hd => ?_)
          exact s_opPart (b := .int .i64) (l[i.toNat].k) hr2 i0 hj rfl (s_ret ⟨rfl, e2, _, rfl⟩)
        · rintro tg vs h3 ⟨rfl, e3, b, rfl⟩
          refine s_tag ⟨(b, ()), rfl, ?_⟩
          dsimp only
          exact wp_ifB (fun _ => s_ret ⟨rfl, e3, (_, _, ()), rfl⟩) fun _ => s_ret ⟨rfl, e3, (_, _, ()), rfl⟩
      · rintro tg vs h3 ⟨rfl, e3, x, rfl⟩
        refine s_tag ⟨x, rfl, ?_⟩
        rw [add_ok (a := i) (by omega) (by omega)]
        exact s_ret ⟨fun _ => ⟨(x.1, x.2.1, i + 1, ()), rfl, ⟨e3, by dsimp only; omega, by dsimp only; omega⟩, by dsimp only; omega⟩, fun h => absurd rfl h⟩
  · rintro tg vs h2 ⟨rfl, e2, x, rfl⟩
    refine s_tag ⟨x, rfl, wp_bind (fun tg vs h' => tg = 0 ∧ Ext h h' ∧ ∃ b : Bool, vs = [.bool b]) ?_ ?_⟩
    · exact wp_ifB (fun _ => wp_ifB (fun _ => wp_ifB (fun _ => s_ret ⟨rfl, e2, _, rfl⟩) fun _ => s_ret ⟨rfl, e2, _, rfl⟩) fun _ => s_ret ⟨rfl, e2, _, rfl⟩) fun _ => s_ret ⟨rfl, e2, _, rfl⟩
    · rintro tg vs h3 ⟨rfl, e3, b, rfl⟩
      exact s_tag ⟨(b, ()), rfl, s_ret ⟨rfl, e3, (b, ()), rfl, trivial⟩⟩

end Go.Sw.Tree

set_option linter.unusedVariables false
set_option linter.unusedSimpArgs false
set_option maxRecDepth 100000
namespace Go.Sw.Tree
variable {P : Program} {S : Ids} {h : Heap} {Q : Nat → List Value → Heap → Prop}

abbrev slV (s : Sl) : Value := .slice s.base s.len s.cap

theorem c_who {w : Addr} {ts ss : Sl} {o : Op7} (hc : Cells h w [slV ts, slV ss]) (h0 : 0 < ts.len) (h1 : ts.len ≤ 4194304) : Gives P (F_wood_who S (some w) o) [.one (.int .i64)] h fun (y : Int × Unit) _ => 0 ≤ y.1 ∧ y.1 < ts.len := by
  obtain ⟨o0, o1, o2, o3, o4, o5, s, u⟩ := o
  unfold F_wood_who Gives
  dsimp only
  intro elem
  have e1 : Ext h (h.push (.cells [iv o0, iv o1, iv o2, iv o3, iv o4, iv o5, .slice s.base s.len s.cap].toArray elem)) := Ext.push ..
  have q1 : Own h.size 1 (h.push (.cells [iv o0, iv o1, iv o2, iv o3, iv o4, iv o5, .slice s.base s.len s.cap].toArray elem)) ⟨some ⟨h.size, 0, none⟩, 7, 7⟩ [iv o0, iv o1, iv o2, iv o3, iv o4, iv o5, .slice s.base s.len s.cap] := own_alloc rfl (by decide) (by decide)
  generalize (h.push (.cells [iv o0, iv o1, iv o2, iv o3, iv o4, iv o5, .slice s.base s.len s.cap].toArray elem)) = h1 at e1 q1 ⊢
  have hc1 := e1.cells hc
  refine s_cell (b := .int .i64) (x := o1) rfl q1.cells rfl (grd_some rfl (grd_some rfl (s_cell (b := .sl) (x := ts) rfl hc1 rfl ?_)))
  have hz : eqI (natI ts.len) 0 = false := eqI_not.2 (by rw [natI_def]; omega)
  rw [hz]
  have hr : remI .i64 o1 (natI ts.len) = o1.tmod (ts.len : Int) := rfl
  have hb1 : o1.tmod (ts.len : Int) < ts.len := Int.tmod_lt_of_pos o1 (by omega)
  have hb2 : -(ts.len : Int) < o1.tmod (ts.len : Int) := Int.lt_tmod_of_pos o1 (by omega)
  rw [hr]
  refine s_not (bind_val (tys := [.one (.int .i64)]) (fun (x : Int × Unit) _ => 0 ≤ x.1 ∧ x.1 < ts.len) ?_ fun x h2 e2 hx => s_ret ⟨rfl, e1.trans e2, (x.1, ()), rfl, hx⟩)
  refine wp_ifB (fun hd => ?_) fun hd => ?_
  · rw [ltI_iff] at hd
    refine grd_some rfl (grd_some rfl (s_cell (b := .sl) (x := ts) rfl hc1 rfl ?_))
    rw [natI_def, add_ok (by omega) (by omega)]
    exact s_ret ⟨rfl, Ext.refl _, (o1.tmod (ts.len : Int) + ts.len, ()), rfl, by dsimp only; omega, by dsimp only; omega⟩
  · rw [ltI_not] at hd
    exact s_ret ⟨rfl, Ext.refl _, (o1.tmod (ts.len : Int), ()), rfl, hd, hb1⟩

end Go.Sw.Tree

set_option linter.unusedVariables false
set_option linter.unusedSimpArgs false
set_option maxRecDepth 100000
namespace Go.Sw.Tree
variable {P : Program} {S : Ids} {h : Heap} {Q : Nat → List Value → Heap → Prop}

/-- The wood, to be read: its trees, their lists. -/
structure WoodR (h : Heap) (w : Addr) (ts ss : Sl) (ps : List (Option Addr)) (sl : List Sl) (bs : List BT) : Prop where
  obj : Cells h w [slV ts, slV ss]
  t : Rd 1 h ts (ps.map .pointer)
  s : Rd 1 h ss (sl.map slV)
  tl : ps.length = bs.length
  sln : sl.length = bs.length
  pos : 0 < bs.length
  room : bs.length ≤ 4194304
  nd : ∀ (i : Nat) (b : BT), bs[i]? = some b → ∃ p x, ps[i]? = some p ∧ sl[i]? = some x ∧ Nd h p b ∧ Runs h x b.list ∧ b.Avl ∧ b.list.length ≤ 4194304

theorem WoodR.ext {h h' : Heap} {w : Addr} {ts ss : Sl} {ps : List (Option Addr)} {sl : List Sl} {bs : List BT} (o : WoodR h w ts ss ps sl bs) (e : Ext h h') : WoodR h' w ts ss ps sl bs :=
  ⟨e.cells o.obj, e.rd o.t, e.rd o.s, o.tl, o.sln, o.pos, o.room, fun i b hi => let ⟨p, x, h1, h2, h3, h4, h5, h6⟩ := o.nd i b hi; ⟨p, x, h1, h2, h3.ext e, h4.ext e, h5, h6⟩⟩

theorem s_atP {s : Sl} {ps : List (Option Addr)} {p : Option Addr} {K : TR → Prog} {j : Int} (hr : Rd 1 h s (ps.map .pointer)) (h0 : 0 ≤ j) (hj : ps[j.toNat]? = some p) (hk : wp P (K (p, ())) h Q) :
    wp P (grd (andB (someB s.base) (inB j s.len)) (.load (.agg [.ptr]) (shiftTo s.base (mulN (toN j) 1)) K)) h Q := by
  have hlt := (List.getElem?_eq_some_iff.1 hj).1
  have hl := hr.1
  rw [List.length_map] at hl
  obtain ⟨a, e, c⟩ := hr.2 j.toNat (.pointer p) (by rw [List.getElem?_map, hj]; rfl)
  refine wp_grd (andB_iff.2 ⟨by simp [someB, e], inB_is.2 ⟨h0, by omega⟩⟩) ⟨a.add j.toNat, by simp [shiftTo, e, mulN, toN], (p, ()), cells_iff.2 fun i v hi => ?_, hk⟩
  match i, hi with
  | 0, hi => simp [Ty.cells, Bs.inj] at hi; subst hi; rw [add_zero']; exact c
  | i + 1, hi => simp [Ty.cells, Bs.inj] at hi
theorem s_atS {s : Sl} {sl : List Sl} {x : Sl} {K : Sl → Prog} {j : Int} (hr : Rd 1 h s (sl.map slV)) (h0 : 0 ≤ j) (hj : sl[j.toNat]? = some x) (hk : wp P (K x) h Q) :
    wp P (grd (andB (someB s.base) (inB j s.len)) (.load (.one .sl) (shiftTo s.base (mulN (toN j) 1)) K)) h Q := by
  have hlt := (List.getElem?_eq_some_iff.1 hj).1
  have hl := hr.1
  rw [List.length_map] at hl
  obtain ⟨a, e, c⟩ := hr.2 j.toNat (slV x) (by rw [List.getElem?_map, hj]; rfl)
  exact wp_grd (andB_iff.2 ⟨by simp [someB, e], inB_is.2 ⟨h0, by omega⟩⟩) (wp_load1 (b := .sl) (a.add j.toNat) x (by simp [shiftTo, e, mulN, toN]) c hk)

theorem c_tells {w : Addr} {ts ss : Sl} {ps : List (Option Addr)} {sl : List Sl} {bs : List BT} {o : Op7} (hW : WoodR h w ts ss ps sl bs) (hk : o.1 ≠ 6 ∧ o.1 ≠ 8 ∧ o.1 ≠ 9) :
    Gives P (F_wood_tells S (some w) o) [.one .bool] h fun (y : Bool × Unit) _ => y.1 = true := by
  obtain ⟨(o0 : Int), (o1 : Int), (o2 : Int), (o3 : Int), (o4 : Int), (o5 : Int), s, u⟩ := o
  obtain ⟨hk6, hk8, hk9⟩ := hk
  dsimp only at hk6 hk8 hk9
  unfold F_wood_tells Gives
  dsimp only
  intro elem
  have e1 : Ext h (h.push (.cells [iv o0, iv o1, iv o2, iv o3, iv o4, iv o5, .slice s.base s.len s.cap].toArray elem)) := Ext.push ..
  have q1 : Own h.size 1 (h.push (.cells [iv o0, iv o1, iv o2, iv o3, iv o4, iv o5, .slice s.base s.len s.cap].toArray elem)) ⟨some ⟨h.size, 0, none⟩, 7, 7⟩ [iv o0, iv o1, iv o2, iv o3, iv o4, iv o5, .slice s.base s.len s.cap] := own_alloc rfl (by decide) (by decide)
  generalize (h.push (.cells [iv o0, iv o1, iv o2, iv o3, iv o4, iv o5, .slice s.base s.len s.cap].toArray elem)) = h1 at e1 q1 ⊢
  have hW1 := hW.ext e1
  have htl := hW.t.1
  rw [List.length_map, hW.tl] at htl
  have hpos := hW.pos
  have hrm := hW.room
  refine ⟨⟨h.size, 0, none⟩, rfl, (o0, o1, o2, o3, o4, o5, s, ()), q1.cells, ?_⟩
  refine wp_call (c_who (o := (o0, o1, o2, o3, o4, o5, s, ())) hW1.obj (by omega) (by omega)) fun y h2 e2 hy => ?_
  obtain ⟨(k : Int), w1⟩ := y
  obtain ⟨k0, k1⟩ := hy
  dsimp only at k0 k1 ⊢
  have hW2 := hW1.ext e2
  have hb : bs[k.toNat]? = some bs[k.toNat] := List.getElem?_eq_getElem (by omega)
  obtain ⟨p, x, hp, hx, nd, rn, av, rm⟩ := hW2.nd _ _ hb
  generalize bs[k.toNat] = t at nd rn av rm
  refine grd_some rfl (grd_some rfl (s_cell (b := .sl) (x := ts) rfl hW2.obj rfl (s_atP hW2.t k0 hp (s_putTree p nd fun h3 e3 oT => ?_))))
  have hW3 := hW2.ext e3
  have n3 := nd.ext e3
  have r3 := rn.ext e3
  have q3 := (q1.ext (e2.trans e3)).cells
  have hl := rn.len
  have hw := rn.wf
  have e03 := (e1.trans e2).trans e3
  refine grd_some rfl (grd_some rfl (s_cell (b := .sl) (x := ss) rfl hW3.obj rfl (s_atS hW3.s k0 hx (s_cell (b := .int .i64) (x := o0) rfl q3 rfl ?_))))
  have vL := V.sum hw
  refine wp_ifB (fun hc => ?_) fun _ => wp_ifB (fun hc => ?_) fun _ => wp_ifB (fun hc => ?_) fun _ => wp_ifB (fun hc => ?_) fun _ => wp_ifB (fun hc => ?_) fun _ => wp_ifB (fun hc => ?_) fun _ => wp_ifB (fun hc => ?_) fun _ => ?_
  · refine s_getT oT (wp_call (c_Size n3) fun y h4 e4 hy => ?_)
    obtain ⟨(y : Int), w2⟩ := y
    dsimp only at hy ⊢
    exact s_ret ⟨rfl, e03.trans e4, (_, ()), rfl, eqI_iff.2 (by rw [natI_def, hl]; exact hy)⟩
  · refine s_getT oT (wp_call (c_Sum n3 hw (by omega)) fun y h4 e4 hy => wp_call (c_Upto (r3.ext e4) (by omega)) fun z h5 e5 hz => ?_)
    obtain ⟨y, w2⟩ := y
    obtain ⟨z, w3⟩ := z
    dsimp only at hy hz
    rw [natI_def, hl, Int.toNat_natCast, List.take_length, ← hy] at hz
    subst hz
    subst hy
    refine wp_call (c_sameRuns vL (by omega)) fun y h6 e6 hy => ?_
    exact s_ret ⟨rfl, ((e03.trans e4).trans e5).trans e6, (y.1, ()), rfl, hy⟩
  · refine s_getT oT (s_cell (b := .int .i64) (x := o5) rfl q3 rfl (s_cell (b := .int .i64) (x := o5) rfl q3 rfl (wp_call (c_Upto' n3 hw (by omega)) fun y h4 e4 hy => ?_)))
    refine q_same (j := 5) (e4.cells q3) (fun i v hi => by match i, hi with | 0, hi => exact hi) (wp_call (c_Upto (r3.ext e4) (by omega)) fun z h5 e5 hz => ?_)
    obtain ⟨y, w2⟩ := y
    obtain ⟨z, w3⟩ := z
    dsimp only at hy hz
    rw [← hy] at hz
    subst hz
    subst hy
    have vt : V t.list.length (sum (t.list.take o5.toNat)) := (V.sum (hw.take _)).mono (by rw [List.length_take]; omega)
    refine wp_call (c_sameRuns vt (by omega)) fun y h6 e6 hy => ?_
    exact s_ret ⟨rfl, ((e03.trans e4).trans e5).trans e6, (y.1, ()), rfl, hy⟩
  · exact absurd (eqI_iff.1 hc) hk6
  · refine s_getT oT (s_cell (b := .int .i64) (x := o4) rfl q3 rfl (s_cell (b := .int .i64) (x := o5) rfl q3 rfl (s_cell (b := .int .i64) (x := o4) rfl q3 rfl (s_cell (b := .int .i64) (x := o5) rfl q3 rfl (wp_call (c_Find n3 hw (by omega)) fun y h4 e4 hy => ?_)))))
    refine q_same (j := 5) (e4.cells q3) (fun i v hi => by match i, hi with | 0, hi => exact hi) (q_same (j := 4) (e4.cells q3) (fun i v hi => by match i, hi with | 0, hi => exact hi) (wp_call (c_refFind (r3.ext e4) (by omega)) fun z h5 e5 hz => ?_))
    exact s_ret ⟨rfl, (e03.trans e4).trans e5, (_, ()), rfl, eqI_iff.2 (found_one hw hy hz)⟩
  · exact absurd (eqI_iff.1 hc) hk8
  · exact absurd (eqI_iff.1 hc) hk9
  · exact s_ret ⟨rfl, e03, (true, ()), rfl, rfl⟩

end Go.Sw.Tree

set_option linter.unusedVariables false
set_option linter.unusedSimpArgs false
set_option maxRecDepth 100000
namespace Go.Sw.Tree
variable {P : Program} {S : Ids} {h : Heap} {Q : Nat → List Value → Heap → Prop}

/-- What lies in no cell of the changed block stays. -/
theorem cell_upd {s : Sl} {h h' : Heap} {a : Addr} {v : Value} (u : Upd s h h') (c : Sw.cell h a = some v) (hne : ∀ b, s.base = some b → b.block ≠ a.block) : Sw.cell h' a = some v := by
  have hlt := cell_lt c
  unfold Sw.cell at c ⊢
  rw [u.2.1 a.block hlt (fun b hb => hne b hb)]
  exact c
theorem rd_upd {s t : Sl} {h h' : Heap} {size : Nat} {vs : List Value} (u : Upd s h h') (r : Rd size h t vs) (hne : ∀ b, s.base = some b → ∀ a v, v ∈ vs → Sw.cell h a = some v → b.block ≠ a.block) : Rd size h' t vs :=
  ⟨r.1, fun i v hi => let ⟨a, e, c⟩ := r.2 i v hi; ⟨a, e, cell_upd u c fun b hb => hne b hb _ v (List.mem_of_getElem? hi) c⟩⟩
theorem cells_updK {s : Sl} {h h' : Heap} {a : Addr} {vs : List Value} (u : Upd s h h') (c : Cells h a vs) (hne : ∀ b, s.base = some b → b.block ≠ a.block) : Cells h' a vs :=
  cells_iff.2 fun j v hj => cell_upd u (cells_iff.1 c j v hj) fun b hb => by rw [add_block]; exact hne b hb

theorem allK_ne1 {cls : Value → Prop} {s : Sl} {a b : Addr} {v : Value} (c : AllK cls h s) (ha : s.base = some a) (hb : Sw.cell h b = some v) (hv : ¬ cls v) : a.block ≠ b.block :=
  AllK.ne (vs := [v]) (j := 0) c ha (cells_iff.2 fun j w hj => by
    match j, hj with
    | 0, hj => simp at hj; subst hj; rw [add_zero']; exact hb
    | j + 1, hj => simp at hj) rfl hv

def isPtr : Value → Prop
  | .pointer _ => True
  | _ => False
def isSl : Value → Prop
  | .slice _ _ _ => True
  | _ => False
def isInt : Value → Prop
  | .int _ _ => True
  | _ => False

/-- A node stays where a block of one kind changes. -/
theorem nd_updK {cls : Value → Prop} {s : Sl} {h h' : Heap} (u : Upd s h h') (k : AllK cls h s) (hp : (∀ p, ¬ cls (.pointer p)) ∨ (∀ n, ¬ cls (iv n))) : ∀ {t : BT} {p : Option Addr}, Nd h p t → Nd h' p t
  | .nil, _, n => n
  | .node l x r, p, ⟨a, pl, pr, e1, hc, n1, n2⟩ => ⟨a, pl, pr, e1, cells_updK u hc (fun b hb => by
      rcases hp with hp | hp
      · exact k.ne (j := 0) hb hc rfl (hp pl)
      · exact k.ne (j := 2) hb hc rfl (hp x.1)), nd_updK u k hp n1, nd_updK u k hp n2⟩
theorem cR_mem {l : List (Int × Int)} {v : Value} (hv : v ∈ cR l) : ∃ n, v = iv n := by
  obtain ⟨r, _, hr⟩ := List.mem_flatMap.1 hv
  simp only [List.mem_cons, List.not_mem_nil, or_false] at hr
  rcases hr with rfl | rfl
  · exact ⟨_, rfl⟩
  · exact ⟨_, rfl⟩
theorem runs_updK {cls : Value → Prop} {s t : Sl} {h h' : Heap} {l : List (Int × Int)} (u : Upd s h h') (k : AllK cls h s) (hp : ∀ n, ¬ cls (iv n)) (r : Runs h t l) : Runs h' t l :=
  ⟨rd_upd u r.rd fun b hb a v hv c => by obtain ⟨n, rfl⟩ := cR_mem hv; exact allK_ne1 k hb c (hp n), r.cap, r.max, r.wf⟩

/-- The wood, to be changed. -/
structure WoodO (n : Nat) (h : Heap) (w : Addr) (ts ss : Sl) (ps : List (Option Addr)) (sl : List Sl) (bs : List BT) : Prop where
  rd : WoodR h w ts ss ps sl bs
  ow : Own n 1 h ⟨some w, 2, 2⟩ [slV ts, slV ss]
  ot : Own n 1 h ts (ps.map .pointer)
  os : Own n 1 h ss (sl.map slV)
  kt : AllK isPtr h ts
  ks : AllK isSl h ss
  ne : ∀ a, ss.base = some a → a.block ≠ w.block

theorem WoodO.ext {n : Nat} {h h' : Heap} {w : Addr} {ts ss : Sl} {ps : List (Option Addr)} {sl : List Sl} {bs : List BT} (o : WoodO n h w ts ss ps sl bs) (e : Ext h h') : WoodO n h' w ts ss ps sl bs :=
  ⟨o.rd.ext e, o.ow.ext e, o.ot.ext e, o.os.ext e, o.kt.keep fun a ha => e.2.1 _ (o.ot.lt ha).2, o.ks.keep fun a ha => e.2.1 _ (o.os.lt ha).2, o.ne⟩

end Go.Sw.Tree
