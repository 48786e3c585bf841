/-
  The shallow programs of the functions of some cuts, as text (printed by program). Nothing is proved here.
-/
import Derived.Test.YtjhnjehmbgaciaaSwSw
import Derived.Test.YtjhnjehmbgaciaaSwFab
set_option linter.unusedVariables false
set_option maxRecDepth 100000
namespace Go.Sw
/-- The numbers of types and functions, the names of methods. -/
structure Ids where
  f_Both_alls_1 : FuncId
  f_Both_alls_2 : FuncId
  f_Both_alls_3 : FuncId
  f_Both_alls_3_1 : FuncId
  f_Text_Atoms_1 : FuncId
  f_Text_Chunks_1 : FuncId
  f_Text_Tags_1 : FuncId
  f_Tree_part_Items_1 : FuncId
  f_Tree_part_Items_1_1 : FuncId
  f_law5_PieceFlow_1 : FuncId
  f_law5_begun_1 : FuncId
  f_law5_ranged_1 : FuncId
  f_law6_LinesLater_1 : FuncId
  f_law6_LinesLater_2 : FuncId
  f_law6_LinesTurned_1 : FuncId
  f_law6_LinesTurned_2 : FuncId
  f_lines_All_1 : FuncId
  f_quiet_ask_1 : FuncId
  f_shelf_handOut_1 : FuncId
  f_world_chunks_1 : FuncId
  m_first : String
  m_put : String
  m_size : String
  t_codec_eight : TypeId
  t_codec_latin : TypeId
  t_codec_sixteen : TypeId
  none : Unit
noncomputable section
def F_codec_of (S : Ids) (enc : Int) : Prog :=
 ifB (eqI enc 1)
 (.ret 0 [(Value.iface S.t_codec_eight (Value.agg #[]))]) <|
 ifB (eqI enc 2)
 (.ret 0 [(Value.iface S.t_codec_sixteen (Value.agg (#[vI 0])))]) <|
 ifB (eqI enc 3)
 (.ret 0 [(Value.iface S.t_codec_sixteen (Value.agg (#[vI 1])))]) <|
 ifB (eqI enc 4)
 (.ret 0 [(Value.iface S.t_codec_latin (Value.agg #[]))]) <|
 .ret 0 [Value.nilIface]
def F_codec_Next (S : Ids) (enc : Int) (b : Sl) (at_ : Int) : Prog :=
 .call (F_codec_of S enc) [(Ty.one B.any)] fun (r1 : Value × Unit) =>
 thn 0 [tB] (grd (isIface r1.1) <|
 ifB (isNilIface r1.1)
 (.ret 0 [vB true]) <|
 ifB (ltI at_ 0)
 (.ret 0 [vB true]) <|
 .ret 0 [vB (geI at_ (natI b.len))]) fun (r8 : Bool × Unit) =>
 ifB r8.1
 (.ret 0 [vI 0, vI 0]) <|
 grd (leB at_ b.len) <|
 .nilok (Value.func (Fn.method S.m_first) #[r1.1] #[]) <|
 .invoke r1.1 S.m_first [(Value.slice (cutBase b.base b.cap (toN at_) 1) (subN b.len (toN at_)) (subN b.cap (toN at_)))] [tI, tI] fun (r9 : Int × Int × Unit) =>
 .ret 0 [vI r9.1, vI r9.2.1]
def F_piece_single (S : Ids) (atom : Int) (size : Int) : Prog :=
 .alloc z5 fun (a1 : Addr) =>
 .alloc z5 fun (a2 : Addr) =>
 .store (some a2) [vI 1, vI size, vI 0, vB (eqI atom 10), vB (eqI atom 13)] <|
 thn 0 [] (thn 0 [tB] (.load tB (shiftTo (some a2) 3) fun (b0 : Bool) =>
 ifB b0
 (.ret 0 [vB true]) <|
 .load tB (shiftTo (some a2) 4) fun (b1 : Bool) =>
 .ret 0 [vB b1]) fun (r0 : Bool × Unit) =>
 ifB r0.1
 (.store (shiftTo (some a2) 2) [vI 1] <|
 .ret 0 []) <|
 .ret 0 []) fun (u0 : Unit) =>
 .load (Ty.agg b5) (some a2) fun (r1 : d5) =>
 .store (some a1) (Bs.inj b5 r1) <|
 .load (Ty.agg b5) (some a1) fun (r2 : d5) =>
 .ret 0 [(Value.agg (Bs.inj b5 r2).toArray)]
def F_sums_Add (S : Ids) (s : d5) (o : d5) : Prog :=
 .alloc (Bs.inj b5 s) fun (a1 : Addr) =>
 .alloc (Bs.inj b5 o) fun (a2 : Addr) =>
 .alloc z5 fun (a3 : Addr) =>
 .load tI (shiftTo (some a1) 0) fun (n4 : Int) =>
 ifB (eqI n4 0)
 (.load (Ty.agg b5) (some a2) fun (r5 : d5) =>
 .store (some a3) (Bs.inj b5 r5) <|
 .load (Ty.agg b5) (some a3) fun (r6 : d5) =>
 .ret 0 [(Value.agg (Bs.inj b5 r6).toArray)]) <|
 .load tI (shiftTo (some a2) 0) fun (n7 : Int) =>
 ifB (eqI n7 0)
 (.load (Ty.agg b5) (some a1) fun (r8 : d5) =>
 .store (some a3) (Bs.inj b5 r8) <|
 .load (Ty.agg b5) (some a3) fun (r9 : d5) =>
 .ret 0 [(Value.agg (Bs.inj b5 r9).toArray)]) <|
 .load tI (shiftTo (some a1) 0) fun (n0 : Int) =>
 .load tI (shiftTo (some a2) 0) fun (n1 : Int) =>
 .load tI (shiftTo (some a1) 1) fun (n2 : Int) =>
 .load tI (shiftTo (some a2) 1) fun (n3 : Int) =>
 .load tI (shiftTo (some a1) 2) fun (n5 : Int) =>
 .load tI (shiftTo (some a2) 2) fun (n6 : Int) =>
 .load tB (shiftTo (some a1) 3) fun (b0 : Bool) =>
 .load tB (shiftTo (some a2) 4) fun (b1 : Bool) =>
 .alloc z5 fun (a0 : Addr) =>
 .store (some a0) [vI (addI .i64 n0 n1), vI (addI .i64 n2 n3), vI (addI .i64 n5 n6), vB b0, vB b1] <|
 thn 0 [] (thn 0 [tB] (.load tB (shiftTo (some a1) 4) fun (b2 : Bool) =>
 ifB b2
 (.load tB (shiftTo (some a2) 3) fun (b3 : Bool) =>
 .ret 0 [vB b3]) <|
 .ret 0 [vB false]) fun (r0 : Bool × Unit) =>
 ifB r0.1
 (.load tI (shiftTo (some a0) 2) fun (n8 : Int) =>
 .store (shiftTo (some a0) 2) [vI (subI .i64 n8 1)] <|
 .ret 0 []) <|
 .ret 0 []) fun (u0 : Unit) =>
 .load (Ty.agg b5) (some a0) fun (r1 : d5) =>
 .store (some a3) (Bs.inj b5 r1) <|
 .load (Ty.agg b5) (some a3) fun (r2 : d5) =>
 .ret 0 [(Value.agg (Bs.inj b5 r2).toArray)]
def F_piece_newPart (S : Ids) (enc : Int) (b : Sl) (tag : Int) : Prog :=
 .alloc z7 fun (a1 : Addr) =>
 .alloc z7 fun (a2 : Addr) =>
 .store (some a2) [vS b, vI tag, vI 0, vI 0, vI 0, vB false, vB false] <|
 thn 2 [] (.loop [tI] ((0 : Int), ()) fun (r0 : Int × Unit) =>
 ifB (ltI r0.1 (natI b.len))
 (.call (F_codec_Next S enc b r0.1) [tI, tI] fun (r1 : Int × Int × Unit) =>
 .load (Ty.agg b5) (shiftTo (some a2) 2) fun (r2 : d5) =>
 .call (F_piece_single S r1.1 r1.2.1) [(Ty.agg b5)] fun (r3 : d5 × Unit) =>
 .check (shiftTo (some a2) 2) (Bs.inj b5 r2) <|
 .call (F_sums_Add S (r2.1, (r2.2.1, (r2.2.2.1, (r2.2.2.2.1, (r2.2.2.2.2.1, ()))))) (r3.1.1, (r3.1.2.1, (r3.1.2.2.1, (r3.1.2.2.2.1, (r3.1.2.2.2.2.1, ())))))) [(Ty.agg b5)] fun (r4 : d5 × Unit) =>
 .store (shiftTo (some a2) 2) (Bs.inj b5 r4.1) <|
 .ret 0 [vI (addI .i64 r0.1 r1.2.1)]) <|
 .ret 2 []) fun (u0 : Unit) =>
 .load (Ty.agg b7) (some a2) fun (r5 : d7) =>
 .store (some a1) (Bs.inj b7 r5) <|
 .load (Ty.agg b7) (some a1) fun (r6 : d7) =>
 .ret 0 [(Value.agg (Bs.inj b7 r6).toArray)]
def F_node_part_count (S : Ids) (n : OA) : Prog :=
 ifB (noneB n)
 (.ret 0 [vI 0]) <|
 fld tI n 9 fun (n1 : Int) =>
 .ret 0 [vI n1]
def F_node_part_tall (S : Ids) (n : OA) : Prog :=
 ifB (noneB n)
 (.ret 0 [vI 0]) <|
 fld tI n 10 fun (n1 : Int) =>
 .ret 0 [vI n1]
def F_part_Measure (S : Ids) (p : d7) : Prog :=
 .alloc (Bs.inj b7 p) fun (a1 : Addr) =>
 .alloc z5 fun (a2 : Addr) =>
 .load (Ty.agg b5) (shiftTo (some a1) 2) fun (r3 : d5) =>
 .store (some a2) (Bs.inj b5 r3) <|
 .load (Ty.agg b5) (some a2) fun (r4 : d5) =>
 .ret 0 [(Value.agg (Bs.inj b5 r4).toArray)]
def F_tree_of_part (S : Ids) (l : OA) (x : d7) (r : OA) : Prog :=
 .alloc (Bs.inj b7 x) fun (a1 : Addr) =>
 .load (Ty.agg b7) (some a1) fun (r2 : d7) =>
 .call (F_node_part_count S l) [tI] fun (r3 : Int × Unit) =>
 .check (some a1) (Bs.inj b7 r2) <|
 .call (F_node_part_count S r) [tI] fun (r4 : Int × Unit) =>
 .check (some a1) (Bs.inj b7 r2) <|
 .call (F_node_part_tall S l) [tI] fun (r5 : Int × Unit) =>
 .check (some a1) (Bs.inj b7 r2) <|
 .call (F_node_part_tall S r) [tI] fun (r6 : Int × Unit) =>
 .check (some a1) (Bs.inj b7 r2) <|
 .alloc [vP l, vP r, vS r2.1, vI r2.2.1, vI r2.2.2.1, vI r2.2.2.2.1, vI r2.2.2.2.2.1, vB r2.2.2.2.2.2.1, vB r2.2.2.2.2.2.2.1, vI (addI .i64 (addI .i64 r3.1 1) r4.1), vI (addI .i64 (maxI r5.1 r6.1) 1), vI 0, vI 0, vI 0, vB false, vB false] fun (a7 : Addr) =>
 .load (Ty.agg b7) (some a1) fun (r8 : d7) =>
 .call (F_part_Measure S (r8.1, (r8.2.1, (r8.2.2.1, (r8.2.2.2.1, (r8.2.2.2.2.1, (r8.2.2.2.2.2.1, (r8.2.2.2.2.2.2.1, ())))))))) [(Ty.agg b5)] fun (r9 : d5 × Unit) =>
 .store (shiftTo (some a7) 11) (Bs.inj b5 r9.1) <|
 thn 0 [] (ifB (notB (noneB l))
 (fld (Ty.agg b5) l 11 fun (r0 : d5) =>
 .load (Ty.agg b5) (shiftTo (some a7) 11) fun (r1 : d5) =>
 .call (F_sums_Add S (r0.1, (r0.2.1, (r0.2.2.1, (r0.2.2.2.1, (r0.2.2.2.2.1, ()))))) (r1.1, (r1.2.1, (r1.2.2.1, (r1.2.2.2.1, (r1.2.2.2.2.1, ())))))) [(Ty.agg b5)] fun (r7 : d5 × Unit) =>
 .store (shiftTo (some a7) 11) (Bs.inj b5 r7.1) <|
 .ret 0 []) <|
 .ret 0 []) fun (u0 : Unit) =>
 thn 0 [] (ifB (notB (noneB r))
 (.load (Ty.agg b5) (shiftTo (some a7) 11) fun (r10 : d5) =>
 fld (Ty.agg b5) r 11 fun (r11 : d5) =>
 .call (F_sums_Add S (r10.1, (r10.2.1, (r10.2.2.1, (r10.2.2.2.1, (r10.2.2.2.2.1, ()))))) (r11.1, (r11.2.1, (r11.2.2.1, (r11.2.2.2.1, (r11.2.2.2.2.1, ())))))) [(Ty.agg b5)] fun (r12 : d5 × Unit) =>
 .store (shiftTo (some a7) 11) (Bs.inj b5 r12.1) <|
 .ret 0 []) <|
 .ret 0 []) fun (u1 : Unit) =>
 .ret 0 [vP (some a7)]
def R_tree_build_part (fuelN : Nat) (S : Ids) (items : Sl) : Prog :=
 match fuelN with
 | 0 => .fail
 | fuelN + 1 =>
  ifB (eqI (natI items.len) 0)
  (.ret 0 [vP none]) <|
  grd (notB false) <|
  grd (leB (quoI .i64 (natI items.len) 2) items.cap) <|
  grd (andB (someB items.base) (inB (quoI .i64 (natI items.len) 2) items.len)) <|
  .load (Ty.agg b7) (shiftTo items.base (mulN (toN (quoI .i64 (natI items.len) 2)) 7)) fun (r1 : d7) =>
  grd (leB (addI .i64 (quoI .i64 (natI items.len) 2) 1) items.len) <|
  .call (R_tree_build_part fuelN S (⟨(cutBase items.base items.cap 0 7), (subN (toN (quoI .i64 (natI items.len) 2)) 0), (subN items.cap 0)⟩)) [tP] fun (r2 : OA × Unit) =>
  .check (shiftTo items.base (mulN (toN (quoI .i64 (natI items.len) 2)) 7)) (Bs.inj b7 r1) <|
  .call (R_tree_build_part fuelN S (⟨(cutBase items.base items.cap (toN (addI .i64 (quoI .i64 (natI items.len) 2) 1)) 7), (subN items.len (toN (addI .i64 (quoI .i64 (natI items.len) 2) 1))), (subN items.cap (toN (addI .i64 (quoI .i64 (natI items.len) 2) 1)))⟩)) [tP] fun (r3 : OA × Unit) =>
  .check (shiftTo items.base (mulN (toN (quoI .i64 (natI items.len) 2)) 7)) (Bs.inj b7 r1) <|
  .call (F_tree_of_part S r2.1 (r1.1, (r1.2.1, (r1.2.2.1, (r1.2.2.2.1, (r1.2.2.2.2.1, (r1.2.2.2.2.2.1, (r1.2.2.2.2.2.2.1, ()))))))) r3.1) [tP] fun (r4 : OA × Unit) =>
  .ret 0 [vP r4.1]
def F_tree_build_part (S : Ids) (items : Sl) : Prog := .ex fun fuelN => R_tree_build_part fuelN S items
def F_tree_Of_part (S : Ids) (items : Sl) : Prog :=
 .alloc [vP none] fun (a1 : Addr) =>
 .call (F_tree_build_part S items) [tP] fun (r2 : OA × Unit) =>
 .store (some a1) [vP r2.1] <|
 .load (Ty.agg [B.ptr]) (some a1) fun (r3 : OA × Unit) =>
 .ret 0 [(Value.agg (#[vP r3.1]))]
def F_piece_Open (S : Ids) (enc : Int) (b : Sl) (limit : Int) : Prog :=
 thn 0 [tB] (ifB (ltI enc 1)
 (.ret 0 [vB true]) <|
 .ret 0 [vB (gtI enc 4)]) fun (r0 : Bool × Unit) =>
 ifB r0.1
 (.ret 0 [vP none, vI 10]) <|
 thn 0 [tB] (ifB (ltI limit 0)
 (.ret 0 [vB true]) <|
 .ret 0 [vB (gtI limit 65536)]) fun (r1 : Bool × Unit) =>
 ifB r1.1
 (.ret 0 [vP none, vI 1]) <|
 ifB (gtI (natI b.len) limit)
 (.ret 0 [vP none, vI 50]) <|
 .mk 1 [vU 0] (natI b.len) (natI b.len) fun (l0 : Sl) =>
 .copy 1 l0 b fun (k0 : Nat) =>
 .alloc [vI enc, vI limit, vP none, nS] fun (a0 : Addr) =>
 thn 3 [tS] (.loop [tS, tI] ((⟨none, 0, 0⟩ : Sl), ((0 : Int), ())) fun (r2 : Sl × Int × Unit) =>
 ifB (ltI r2.2.1 (natI l0.len))
 (thn 5 [tI] (.loop [tI, tI] (r2.2.1, ((0 : Int), ())) fun (r3 : Int × Int × Unit) =>
 thn 0 [tB] (ifB (ltI r3.1 (natI l0.len))
 (.ret 0 [vB (ltI r3.2.1 128)]) <|
 .ret 0 [vB false]) fun (r4 : Bool × Unit) =>
 ifB r4.1
 (.call (F_codec_Next S enc l0 r3.1) [tI, tI] fun (r5 : Int × Int × Unit) =>
 .ret 0 [vI (addI .i64 r3.1 r5.2.1), vI (addI .i64 r3.2.1 1)]) <|
 .ret 5 [vI r3.1]) fun (r6 : Int × Unit) =>
 grd (andB (leB r6.1 l0.cap) (andB (leB r6.1 (toN r6.1)) (leB r2.2.1 (toN r6.1)))) <|
 .call (F_piece_newPart S enc (⟨(cutBase l0.base (toN r6.1) (toN r2.2.1) 1), (subN (toN r6.1) (toN r2.2.1)), (subN (toN r6.1) (toN r2.2.1))⟩) r2.2.1) [(Ty.agg b7)] fun (r7 : d7 × Unit) =>
 .alloc (Bs.inj b7 r7.1) fun (a1 : Addr) =>
 .append 7 64 z7 r2.1 (⟨(some a1), 1, 1⟩) fun (l1 : Sl) =>
 .ret 0 [vS l1, vI r6.1]) <|
 .ret 3 [vS r2.1]) fun (r8 : Sl × Unit) =>
 .call (F_tree_Of_part S r8.1) [(Ty.agg [B.ptr])] fun (r9 : ((OA × Unit) × Unit)) =>
 .store (shiftTo (some a0) 2) [vP r9.1.1] <|
 .ret 0 [vP (some a0), vI 0]
def F_Tree_part_Sum (S : Ids) (t : (OA × Unit)) : Prog :=
 .alloc [vP t.1] fun (a1 : Addr) =>
 .alloc z5 fun (a2 : Addr) =>
 .load tP (shiftTo (some a1) 0) fun (p3 : OA) =>
 ifB (noneB p3)
 (.alloc z5 fun (a4 : Addr) =>
 .load (Ty.agg b5) (some a4) fun (r5 : d5) =>
 .store (some a2) (Bs.inj b5 r5) <|
 .load (Ty.agg b5) (some a2) fun (r6 : d5) =>
 .ret 0 [(Value.agg (Bs.inj b5 r6).toArray)]) <|
 .load tP (shiftTo (some a1) 0) fun (p7 : OA) =>
 fld (Ty.agg b5) p7 11 fun (r8 : d5) =>
 .store (some a2) (Bs.inj b5 r8) <|
 .load (Ty.agg b5) (some a2) fun (r9 : d5) =>
 .ret 0 [(Value.agg (Bs.inj b5 r9).toArray)]
def F_Text_Len (S : Ids) (t : OA) : Prog :=
 fld (Ty.agg [B.ptr]) t 2 fun (r1 : OA × Unit) =>
 .call (F_Tree_part_Sum S (r1.1, ())) [(Ty.agg b5)] fun (r2 : d5 × Unit) =>
 .ret 0 [vI r2.1.1]
def F_Text_Size (S : Ids) (t : OA) : Prog :=
 fld (Ty.agg [B.ptr]) t 2 fun (r1 : OA × Unit) =>
 .call (F_Tree_part_Sum S (r1.1, ())) [(Ty.agg b5)] fun (r2 : d5 × Unit) =>
 .ret 0 [vI r2.1.2.1]
def F_codec_Size (S : Ids) (enc : Int) (atom : Int) : Prog :=
 .call (F_codec_of S enc) [(Ty.one B.any)] fun (r1 : Value × Unit) =>
 grd (isIface r1.1) <|
 ifB (isNilIface r1.1)
 (.ret 0 [vI 0]) <|
 .invoke r1.1 S.m_size [vI atom] [tI] fun (r2 : Int × Unit) =>
 .ret 0 [vI r2.1]
def F_sums_Key (S : Ids) (s : d5) (k : Int) : Prog :=
 .alloc (Bs.inj b5 s) fun (a1 : Addr) =>
 ifB (eqI k 0)
 (.load tI (shiftTo (some a1) 0) fun (n2 : Int) =>
 .ret 0 [vI n2]) <|
 ifB (eqI k 1)
 (.load tI (shiftTo (some a1) 2) fun (n3 : Int) =>
 .ret 0 [vI n3]) <|
 .ret 0 [vI 0]
def F_Tree_part_Find (S : Ids) (t : (OA × Unit)) (k : Int) (n : Int) : Prog :=
 .alloc [vP t.1] fun (a1 : Addr) =>
 ifB (leI n 0)
 (.ret 0 [vI 0]) <|
 .alloc z5 fun (a2 : Addr) =>
 .load tP (shiftTo (some a1) 0) fun (p3 : OA) =>
 .bind
 (.loop [tI, tP] ((0 : Int), (p3, ())) fun (r0 : Int × OA × Unit) =>
 ifB (notB (noneB r0.2.1))
 (.load (Ty.agg b5) (some a2) fun (r1 : d5) =>
 .alloc z5 fun (a0 : Addr) =>
 .store (some a0) (Bs.inj b5 r1) <|
 thn 0 [] (fld tP r0.2.1 0 fun (p0 : OA) =>
 ifB (notB (noneB p0))
 (.load (Ty.agg b5) (some a2) fun (r2 : d5) =>
 fld tP r0.2.1 0 fun (p1 : OA) =>
 fld (Ty.agg b5) p1 11 fun (r3 : d5) =>
 .call (F_sums_Add S (r2.1, (r2.2.1, (r2.2.2.1, (r2.2.2.2.1, (r2.2.2.2.2.1, ()))))) (r3.1, (r3.2.1, (r3.2.2.1, (r3.2.2.2.1, (r3.2.2.2.2.1, ())))))) [(Ty.agg b5)] fun (r4 : d5 × Unit) =>
 .store (some a0) (Bs.inj b5 r4.1) <|
 .ret 0 []) <|
 .ret 0 []) fun (u0 : Unit) =>
 .load (Ty.agg b5) (some a0) fun (r5 : d5) =>
 .call (F_sums_Key S (r5.1, (r5.2.1, (r5.2.2.1, (r5.2.2.2.1, (r5.2.2.2.2.1, ()))))) k) [tI] fun (r6 : Int × Unit) =>
 ifB (geI r6.1 n)
 (fld tP r0.2.1 0 fun (p2 : OA) =>
 .ret 0 [vI r0.1, vP p2]) <|
 fld tP r0.2.1 0 fun (p4 : OA) =>
 .call (F_node_part_count S p4) [tI] fun (r7 : Int × Unit) =>
 .load (Ty.agg b5) (some a0) fun (r8 : d5) =>
 fld (Ty.agg b7) r0.2.1 2 fun (r9 : d7) =>
 .call (F_part_Measure S (r9.1, (r9.2.1, (r9.2.2.1, (r9.2.2.2.1, (r9.2.2.2.2.1, (r9.2.2.2.2.2.1, (r9.2.2.2.2.2.2.1, ())))))))) [(Ty.agg b5)] fun (r10 : d5 × Unit) =>
 .check (some a0) (Bs.inj b5 r8) <|
 .call (F_sums_Add S (r8.1, (r8.2.1, (r8.2.2.1, (r8.2.2.2.1, (r8.2.2.2.2.1, ()))))) (r10.1.1, (r10.1.2.1, (r10.1.2.2.1, (r10.1.2.2.2.1, (r10.1.2.2.2.2.1, ())))))) [(Ty.agg b5)] fun (r11 : d5 × Unit) =>
 .store (some a2) (Bs.inj b5 r11.1) <|
 .load (Ty.agg b5) (some a2) fun (r12 : d5) =>
 .call (F_sums_Key S (r12.1, (r12.2.1, (r12.2.2.1, (r12.2.2.2.1, (r12.2.2.2.2.1, ()))))) k) [tI] fun (r13 : Int × Unit) =>
 ifB (geI r13.1 n)
 (.ret 1 [vI (addI .i64 r0.1 (addI .i64 r7.1 1))]) <|
 fld tP r0.2.1 1 fun (p5 : OA) =>
 .ret 0 [vI (addI .i64 r0.1 (addI .i64 r7.1 1)), vP p5]) <|
 .ret 2 [vI r0.1]) fun (k0 : Nat) =>
 fun (v0 : List Value) =>
 ifB (eqN k0 2)
 (.cast [tI] v0 fun (r14 : Int × Unit) =>
 .ret 0 [vI (addI .i64 r14.1 1)]) <|
 ifB (eqN k0 1)
 (.cast [tI] v0 fun (r15 : Int × Unit) =>
 .ret 0 [vI r15.1]) <|
 .fail
def F_Tree_part_Size (S : Ids) (t : (OA × Unit)) : Prog :=
 .alloc [vP t.1] fun (a1 : Addr) =>
 .load tP (shiftTo (some a1) 0) fun (p2 : OA) =>
 .call (F_node_part_count S p2) [tI] fun (r3 : Int × Unit) =>
 .ret 0 [vI r3.1]
def F_Tree_part_Upto (S : Ids) (t : (OA × Unit)) (i : Int) : Prog :=
 .alloc [vP t.1] fun (a1 : Addr) =>
 .alloc z5 fun (a2 : Addr) =>
 .alloc z5 fun (a3 : Addr) =>
 .load (Ty.agg [B.ptr]) (some a1) fun (r4 : OA × Unit) =>
 .call (F_Tree_part_Size S (r4.1, ())) [tI] fun (r5 : Int × Unit) =>
 .load tP (shiftTo (some a1) 0) fun (p6 : OA) =>
 thn 2 [] (.loop [tI, tP] ((minI i r5.1), (p6, ())) fun (r0 : Int × OA × Unit) =>
 thn 0 [tB] (ifB (notB (noneB r0.2.1))
 (.ret 0 [vB (gtI r0.1 0)]) <|
 .ret 0 [vB false]) fun (r1 : Bool × Unit) =>
 ifB r1.1
 (fld tP r0.2.1 0 fun (p0 : OA) =>
 .call (F_node_part_count S p0) [tI] fun (r2 : Int × Unit) =>
 ifB (leI r0.1 r2.1)
 (fld tP r0.2.1 0 fun (p1 : OA) =>
 .ret 0 [vI r0.1, vP p1]) <|
 thn 0 [] (fld tP r0.2.1 0 fun (p2 : OA) =>
 ifB (notB (noneB p2))
 (.load (Ty.agg b5) (some a3) fun (r3 : d5) =>
 fld tP r0.2.1 0 fun (p3 : OA) =>
 fld (Ty.agg b5) p3 11 fun (r6 : d5) =>
 .call (F_sums_Add S (r3.1, (r3.2.1, (r3.2.2.1, (r3.2.2.2.1, (r3.2.2.2.2.1, ()))))) (r6.1, (r6.2.1, (r6.2.2.1, (r6.2.2.2.1, (r6.2.2.2.2.1, ())))))) [(Ty.agg b5)] fun (r7 : d5 × Unit) =>
 .store (some a3) (Bs.inj b5 r7.1) <|
 .ret 0 []) <|
 .ret 0 []) fun (u0 : Unit) =>
 .load (Ty.agg b5) (some a3) fun (r8 : d5) =>
 fld (Ty.agg b7) r0.2.1 2 fun (r9 : d7) =>
 .call (F_part_Measure S (r9.1, (r9.2.1, (r9.2.2.1, (r9.2.2.2.1, (r9.2.2.2.2.1, (r9.2.2.2.2.2.1, (r9.2.2.2.2.2.2.1, ())))))))) [(Ty.agg b5)] fun (r10 : d5 × Unit) =>
 .check (some a3) (Bs.inj b5 r8) <|
 .call (F_sums_Add S (r8.1, (r8.2.1, (r8.2.2.1, (r8.2.2.2.1, (r8.2.2.2.2.1, ()))))) (r10.1.1, (r10.1.2.1, (r10.1.2.2.1, (r10.1.2.2.2.1, (r10.1.2.2.2.2.1, ())))))) [(Ty.agg b5)] fun (r11 : d5 × Unit) =>
 .store (some a3) (Bs.inj b5 r11.1) <|
 fld tP r0.2.1 1 fun (p4 : OA) =>
 .ret 0 [vI (subI .i64 (subI .i64 r0.1 r2.1) 1), vP p4]) <|
 .ret 2 []) fun (u1 : Unit) =>
 .load (Ty.agg b5) (some a3) fun (r12 : d5) =>
 .store (some a2) (Bs.inj b5 r12) <|
 .load (Ty.agg b5) (some a2) fun (r13 : d5) =>
 .ret 0 [(Value.agg (Bs.inj b5 r13).toArray)]
def F_Text_find (S : Ids) (t : OA) (at_ : Int) : Prog :=
 ifB (leI at_ 0)
 (.ret 0 [vI 0, vI 0]) <|
 fld (Ty.agg [B.ptr]) t 2 fun (r1 : OA × Unit) =>
 .call (F_Tree_part_Find S (r1.1, ()) (Int.ofNat 0) at_) [tI] fun (r2 : Int × Unit) =>
 fld (Ty.agg [B.ptr]) t 2 fun (r3 : OA × Unit) =>
 .call (F_Tree_part_Upto S (r3.1, ()) (subI .i64 r2.1 1)) [(Ty.agg b5)] fun (r4 : d5 × Unit) =>
 .ret 0 [vI (subI .i64 r2.1 1), vI (subI .i64 at_ r4.1.1)]
def F_Tree_part_At (S : Ids) (t : (OA × Unit)) (i : Int) : Prog :=
 .alloc [vP t.1] fun (a1 : Addr) =>
 .alloc z7 fun (a2 : Addr) =>
 .load tP (shiftTo (some a1) 0) fun (p3 : OA) =>
 .bind
 (.loop [tI, tP] (i, (p3, ())) fun (r0 : Int × OA × Unit) =>
 thn 0 [tB] (ifB (notB (noneB r0.2.1))
 (.ret 0 [vB (geI r0.1 0)]) <|
 .ret 0 [vB false]) fun (r1 : Bool × Unit) =>
 ifB r1.1
 (fld tP r0.2.1 0 fun (p0 : OA) =>
 .call (F_node_part_count S p0) [tI] fun (r2 : Int × Unit) =>
 ifB (eqI r0.1 r2.1)
 (fld (Ty.agg b7) r0.2.1 2 fun (r3 : d7) =>
 .store (some a2) (Bs.inj b7 r3) <|
 .ret 1 [vP (some a2), vB true]) <|
 ifB (ltI r0.1 r2.1)
 (fld tP r0.2.1 0 fun (p1 : OA) =>
 .ret 0 [vI r0.1, vP p1]) <|
 fld tP r0.2.1 1 fun (p2 : OA) =>
 .ret 0 [vI (subI .i64 (subI .i64 r0.1 r2.1) 1), vP p2]) <|
 .ret 2 []) fun (k0 : Nat) =>
 fun (v0 : List Value) =>
 ifB (eqN k0 2)
 (.cast [] v0 fun (u0 : Unit) =>
 .alloc z7 fun (a0 : Addr) =>
 .load (Ty.agg b7) (some a0) fun (r4 : d7) =>
 .store (some a2) (Bs.inj b7 r4) <|
 .load (Ty.agg b7) (some a2) fun (r5 : d7) =>
 .ret 0 [(Value.agg (Bs.inj b7 r5).toArray), vB false]) <|
 ifB (eqN k0 1)
 (.cast [tP, tB] v0 fun (r6 : OA × Bool × Unit) =>
 .load (Ty.agg b7) r6.1 fun (r7 : d7) =>
 .ret 0 [(Value.agg (Bs.inj b7 r7).toArray), vB r6.2.1]) <|
 .fail
def F_part_cut (S : Ids) (p : d7) (enc : Int) (n : Int) : Prog :=
 .alloc (Bs.inj b7 p) fun (a1 : Addr) =>
 .alloc z7 fun (a2 : Addr) =>
 .alloc z7 fun (a3 : Addr) =>
 thn 2 [tI] (.loop [tI, tI] (n, ((0 : Int), ())) fun (r0 : Int × Int × Unit) =>
 thn 0 [tB] (ifB (gtI r0.1 0)
 (.load tS (shiftTo (some a1) 0) fun (l0 : Sl) =>
 .ret 0 [vB (ltI r0.2.1 (natI l0.len))]) <|
 .ret 0 [vB false]) fun (r1 : Bool × Unit) =>
 ifB r1.1
 (.load tS (shiftTo (some a1) 0) fun (l1 : Sl) =>
 .call (F_codec_Next S enc l1 r0.2.1) [tI, tI] fun (r2 : Int × Int × Unit) =>
 .ret 0 [vI (subI .i64 r0.1 1), vI (addI .i64 r0.2.1 r2.2.1)]) <|
 .ret 2 [vI r0.2.1]) fun (r3 : Int × Unit) =>
 .load tI (shiftTo (some a1) 1) fun (n0 : Int) =>
 thn 0 [tI] (ifB (geI n0 0)
 (.ret 0 [vI (addI .i64 n0 r3.1)]) <|
 .ret 0 [vI n0]) fun (r4 : Int × Unit) =>
 .load tS (shiftTo (some a1) 0) fun (l2 : Sl) =>
 grd (andB (leB r3.1 l2.cap) (leB r3.1 (toN r3.1))) <|
 .load tI (shiftTo (some a1) 1) fun (n1 : Int) =>
 .load tS (shiftTo (some a1) 0) fun (l3 : Sl) =>
 grd (leB r3.1 l3.len) <|
 .call (F_piece_newPart S enc (⟨(cutBase l2.base (toN r3.1) 0 1), (subN (toN r3.1) 0), (subN (toN r3.1) 0)⟩) n1) [(Ty.agg b7)] fun (r5 : d7 × Unit) =>
 .check (shiftTo (some a1) 0) [vS l3] <|
 .call (F_piece_newPart S enc (⟨(cutBase l3.base l3.cap (toN r3.1) 1), (subN l3.len (toN r3.1)), (subN l3.cap (toN r3.1))⟩) r4.1) [(Ty.agg b7)] fun (r6 : d7 × Unit) =>
 .store (some a2) (Bs.inj b7 r5.1) <|
 .store (some a3) (Bs.inj b7 r6.1) <|
 .load (Ty.agg b7) (some a2) fun (r7 : d7) =>
 .load (Ty.agg b7) (some a3) fun (r8 : d7) =>
 .ret 0 [(Value.agg (Bs.inj b7 r7).toArray), (Value.agg (Bs.inj b7 r8).toArray)]
def F_Text_ahead (S : Ids) (t : OA) (at_ : Int) : Prog :=
 .alloc z5 fun (a1 : Addr) =>
 .call (F_Text_find S t at_) [tI, tI] fun (r2 : Int × Int × Unit) =>
 fld (Ty.agg [B.ptr]) t 2 fun (r3 : OA × Unit) =>
 .call (F_Tree_part_Upto S (r3.1, ()) r2.1) [(Ty.agg b5)] fun (r4 : d5 × Unit) =>
 .alloc z5 fun (a5 : Addr) =>
 .store (some a5) (Bs.inj b5 r4.1) <|
 thn 0 [] (fld (Ty.agg [B.ptr]) t 2 fun (r0 : OA × Unit) =>
 .call (F_Tree_part_At S (r0.1, ()) r2.1) [(Ty.agg b7), tB] fun (r1 : d7 × Bool × Unit) =>
 .alloc z7 fun (a0 : Addr) =>
 .store (some a0) (Bs.inj b7 r1.1) <|
 ifB r1.2.1
 (thn 0 [tP] (.both (.load (Ty.agg b7) (some a0) fun (r5 : d7) =>
 fld tI t 0 fun (n0 : Int) =>
 .call (F_part_cut S (r5.1, (r5.2.1, (r5.2.2.1, (r5.2.2.2.1, (r5.2.2.2.2.1, (r5.2.2.2.2.2.1, (r5.2.2.2.2.2.2.1, ()))))))) n0 r2.2.1) [(Ty.agg b7), (Ty.agg b7)] fun (r6 : d7 × d7 × Unit) =>
 .alloc z7 fun (a2 : Addr) =>
 .check (shiftTo t 0) [vI n0] <|
 .check (some a0) (Bs.inj b7 r5) <|
 .alloc z7 fun (a3 : Addr) =>
 .check (shiftTo t 0) [vI n0] <|
 .check (some a0) (Bs.inj b7 r5) <|
 .store (some a2) (Bs.inj b7 r6.1) <|
 .store (some a3) (Bs.inj b7 r6.2.1) <|
 .ret 0 [vP (some a2)]) <|
 .both (.load (Ty.agg b7) (some a0) fun (r7 : d7) =>
 fld tI t 0 fun (n1 : Int) =>
 .call (F_part_cut S (r7.1, (r7.2.1, (r7.2.2.1, (r7.2.2.2.1, (r7.2.2.2.2.1, (r7.2.2.2.2.2.1, (r7.2.2.2.2.2.2.1, ()))))))) n1 r2.2.1) [(Ty.agg b7), (Ty.agg b7)] fun (r8 : d7 × d7 × Unit) =>
 .alloc z7 fun (a4 : Addr) =>
 .check (shiftTo t 0) [vI n1] <|
 .check (some a0) (Bs.inj b7 r7) <|
 .alloc z7 fun (a6 : Addr) =>
 .check (shiftTo t 0) [vI n1] <|
 .check (some a0) (Bs.inj b7 r7) <|
 .store (some a6) (Bs.inj b7 r8.1) <|
 .store (some a4) (Bs.inj b7 r8.2.1) <|
 .ret 0 [vP (some a6)]) <|
 .both (.load (Ty.agg b7) (some a0) fun (r9 : d7) =>
 fld tI t 0 fun (n2 : Int) =>
 .alloc z7 fun (a7 : Addr) =>
 .check (shiftTo t 0) [vI n2] <|
 .check (some a0) (Bs.inj b7 r9) <|
 .call (F_part_cut S (r9.1, (r9.2.1, (r9.2.2.1, (r9.2.2.2.1, (r9.2.2.2.2.1, (r9.2.2.2.2.2.1, (r9.2.2.2.2.2.2.1, ()))))))) n2 r2.2.1) [(Ty.agg b7), (Ty.agg b7)] fun (r10 : d7 × d7 × Unit) =>
 .alloc z7 fun (a8 : Addr) =>
 .check (shiftTo t 0) [vI n2] <|
 .check (some a0) (Bs.inj b7 r9) <|
 .store (some a7) (Bs.inj b7 r10.1) <|
 .store (some a8) (Bs.inj b7 r10.2.1) <|
 .ret 0 [vP (some a7)]) <|
 .both (.load (Ty.agg b7) (some a0) fun (r11 : d7) =>
 fld tI t 0 fun (n3 : Int) =>
 .alloc z7 fun (a9 : Addr) =>
 .check (shiftTo t 0) [vI n3] <|
 .check (some a0) (Bs.inj b7 r11) <|
 .alloc z7 fun (a10 : Addr) =>
 .check (shiftTo t 0) [vI n3] <|
 .check (some a0) (Bs.inj b7 r11) <|
 .call (F_part_cut S (r11.1, (r11.2.1, (r11.2.2.1, (r11.2.2.2.1, (r11.2.2.2.2.1, (r11.2.2.2.2.2.1, (r11.2.2.2.2.2.2.1, ()))))))) n3 r2.2.1) [(Ty.agg b7), (Ty.agg b7)] fun (r12 : d7 × d7 × Unit) =>
 .store (some a9) (Bs.inj b7 r12.1) <|
 .store (some a10) (Bs.inj b7 r12.2.1) <|
 .ret 0 [vP (some a9)]) <|
 .both (.load (Ty.agg b7) (some a0) fun (r13 : d7) =>
 fld tI t 0 fun (n4 : Int) =>
 .alloc z7 fun (a11 : Addr) =>
 .check (shiftTo t 0) [vI n4] <|
 .check (some a0) (Bs.inj b7 r13) <|
 .call (F_part_cut S (r13.1, (r13.2.1, (r13.2.2.1, (r13.2.2.2.1, (r13.2.2.2.2.1, (r13.2.2.2.2.2.1, (r13.2.2.2.2.2.2.1, ()))))))) n4 r2.2.1) [(Ty.agg b7), (Ty.agg b7)] fun (r14 : d7 × d7 × Unit) =>
 .alloc z7 fun (a12 : Addr) =>
 .check (shiftTo t 0) [vI n4] <|
 .check (some a0) (Bs.inj b7 r13) <|
 .store (some a12) (Bs.inj b7 r14.1) <|
 .store (some a11) (Bs.inj b7 r14.2.1) <|
 .ret 0 [vP (some a12)]) <|
 .load (Ty.agg b7) (some a0) fun (r15 : d7) =>
 fld tI t 0 fun (n5 : Int) =>
 .alloc z7 fun (a13 : Addr) =>
 .check (shiftTo t 0) [vI n5] <|
 .check (some a0) (Bs.inj b7 r15) <|
 .alloc z7 fun (a14 : Addr) =>
 .check (shiftTo t 0) [vI n5] <|
 .check (some a0) (Bs.inj b7 r15) <|
 .call (F_part_cut S (r15.1, (r15.2.1, (r15.2.2.1, (r15.2.2.2.1, (r15.2.2.2.2.1, (r15.2.2.2.2.2.1, (r15.2.2.2.2.2.2.1, ()))))))) n5 r2.2.1) [(Ty.agg b7), (Ty.agg b7)] fun (r16 : d7 × d7 × Unit) =>
 .store (some a14) (Bs.inj b7 r16.1) <|
 .store (some a13) (Bs.inj b7 r16.2.1) <|
 .ret 0 [vP (some a14)]) fun (r17 : OA × Unit) =>
 .load (Ty.agg b5) (some a5) fun (r18 : d5) =>
 grd (someB r17.1) <|
 .load (Ty.agg b5) (shiftTo r17.1 2) fun (r19 : d5) =>
 .call (F_sums_Add S (r18.1, (r18.2.1, (r18.2.2.1, (r18.2.2.2.1, (r18.2.2.2.2.1, ()))))) (r19.1, (r19.2.1, (r19.2.2.1, (r19.2.2.2.1, (r19.2.2.2.2.1, ())))))) [(Ty.agg b5)] fun (r20 : d5 × Unit) =>
 .store (some a5) (Bs.inj b5 r20.1) <|
 .ret 0 []) <|
 .ret 0 []) fun (u0 : Unit) =>
 .load (Ty.agg b5) (some a5) fun (r21 : d5) =>
 .store (some a1) (Bs.inj b5 r21) <|
 .load (Ty.agg b5) (some a1) fun (r22 : d5) =>
 .ret 0 [(Value.agg (Bs.inj b5 r22).toArray)]
def F_Text_refuse (S : Ids) (t : OA) (edits : Sl) : Prog :=
 ifB (gtI (natI edits.len) 70000)
 (.ret 0 [vI 3]) <|
 .call (F_Text_Len S t) [tI] fun (r1 : Int × Unit) =>
 .bind
 (.loop [tI, tI] ((0 : Int), ((0 : Int), ())) fun (r0 : Int × Int × Unit) =>
 ifB (ltI r0.2.1 (natI edits.len))
 (atx (Ty.agg [bI, bI, B.sl]) edits r0.2.1 3 fun (r2 : Int × Int × Sl × Unit) =>
 .alloc [vI 0, vI 0, nS] fun (a0 : Addr) =>
 .store (some a0) [vI r2.1, vI r2.2.1, vS r2.2.2.1] <|
 thn 0 [tB] (.load tI (shiftTo (some a0) 0) fun (n0 : Int) =>
 ifB (ltI n0 r0.1)
 (.ret 0 [vB true]) <|
 .load tI (shiftTo (some a0) 1) fun (n1 : Int) =>
 .load tI (shiftTo (some a0) 0) fun (n2 : Int) =>
 ifB (ltI n1 n2)
 (.ret 0 [vB true]) <|
 .load tI (shiftTo (some a0) 1) fun (n3 : Int) =>
 .ret 0 [vB (gtI n3 r1.1)]) fun (r3 : Bool × Unit) =>
 ifB r3.1
 (.ret 1 [vI 2]) <|
 .load tI (shiftTo (some a0) 1) fun (n4 : Int) =>
 .ret 0 [vI n4, vI (addI .i64 r0.2.1 1)]) <|
 .ret 2 []) fun (k0 : Nat) =>
 fun (v0 : List Value) =>
 ifB (eqN k0 2)
 (.cast [] v0 fun (u0 : Unit) =>
 .call (F_Text_Size S t) [tI] fun (r4 : Int × Unit) =>
 .bind
 (.loop [tI, tI] (r4.1, ((0 : Int), ())) fun (r5 : Int × Int × Unit) =>
 ifB (ltI r5.2.1 (natI edits.len))
 (atx (Ty.agg [bI, bI, B.sl]) edits r5.2.1 3 fun (r6 : Int × Int × Sl × Unit) =>
 .alloc [vI 0, vI 0, nS] fun (a1 : Addr) =>
 .store (some a1) [vI r6.1, vI r6.2.1, vS r6.2.2.1] <|
 .load tS (shiftTo (some a1) 2) fun (l0 : Sl) =>
 .bind
 (.loop [tI, tI] (r5.1, ((0 : Int), ())) fun (r7 : Int × Int × Unit) =>
 ifB (ltI r7.2.1 (natI l0.len))
 (atx tI l0 r7.2.1 1 fun (n5 : Int) =>
 fld tI t 0 fun (n6 : Int) =>
 .call (F_codec_Size S n6 n5) [tI] fun (r8 : Int × Unit) =>
 ifB (eqI r8.1 0)
 (.ret 1 [vI 11]) <|
 .ret 0 [vI (addI .i64 r7.1 r8.1), vI (addI .i64 r7.2.1 1)]) <|
 .ret 6 [vI r7.1]) fun (k1 : Nat) =>
 fun (v1 : List Value) =>
 ifB (eqN k1 6)
 (.cast [tI] v1 fun (r9 : Int × Unit) =>
 .ret 0 [vI r9.1, vI (addI .i64 r5.2.1 1)]) <|
 ifB (eqN k1 1)
 (.cast [tI] v1 fun (r10 : Int × Unit) =>
 .ret 1 [vI r10.1]) <|
 .fail) <|
 .ret 4 [vI r5.1]) fun (k2 : Nat) =>
 fun (v2 : List Value) =>
 ifB (eqN k2 4)
 (.cast [tI] v2 fun (r11 : Int × Unit) =>
 thn 8 [tI] (.loop [tI, tI] (r11.1, ((0 : Int), ())) fun (r12 : Int × Int × Unit) =>
 ifB (ltI r12.2.1 (natI edits.len))
 (thn 0 [tI] (atx (Ty.agg [bI, bI, B.sl]) edits r12.2.1 3 fun (r13 : Int × Int × Sl × Unit) =>
 .alloc [vI 0, vI 0, nS] fun (a2 : Addr) =>
 .store (some a2) [vI r13.1, vI r13.2.1, vS r13.2.2.1] <|
 .load tI (shiftTo (some a2) 1) fun (n7 : Int) =>
 .load tI (shiftTo (some a2) 0) fun (n8 : Int) =>
 ifB (gtI n7 n8)
 (.load tI (shiftTo (some a2) 1) fun (n9 : Int) =>
 .load tI (shiftTo (some a2) 0) fun (n10 : Int) =>
 .call (F_Text_ahead S t n9) [(Ty.agg b5)] fun (r14 : d5 × Unit) =>
 .check (shiftTo (some a2) 0) [vI n10] <|
 .call (F_Text_ahead S t n10) [(Ty.agg b5)] fun (r15 : d5 × Unit) =>
 .ret 0 [vI (subI .i64 r12.1 (subI .i64 r14.1.2.1 r15.1.2.1))]) <|
 .ret 0 [vI r12.1]) fun (r16 : Int × Unit) =>
 .ret 0 [vI r16.1, vI (addI .i64 r12.2.1 1)]) <|
 .ret 8 [vI r12.1]) fun (r17 : Int × Unit) =>
 fld tI t 1 fun (n11 : Int) =>
 ifB (gtI r17.1 n11)
 (.ret 0 [vI 50]) <|
 .ret 0 [vI 0]) <|
 ifB (eqN k2 1)
 (.cast [tI] v2 fun (r18 : Int × Unit) =>
 .ret 0 [vI r18.1]) <|
 .fail) <|
 ifB (eqN k0 1)
 (.cast [tI] v0 fun (r19 : Int × Unit) =>
 .ret 0 [vI r19.1]) <|
 .fail
def F_Text_fresh_1 (S : Ids) (x0 : OA) (x1 : OA) (x2 : OA) (x3 : OA) : Prog :=
 .load tP x0 fun (p1 : OA) =>
 fld tS p1 3 fun (l2 : Sl) =>
 .load tI x1 fun (n3 : Int) =>
 ifB (gtI (natI l2.len) n3)
 (.load tS x2 fun (l4 : Sl) =>
 .load tP x0 fun (p5 : OA) =>
 fld tI p5 0 fun (n6 : Int) =>
 .load tP x0 fun (p7 : OA) =>
 fld tS p7 3 fun (l8 : Sl) =>
 .load tI x1 fun (n9 : Int) =>
 grd (andB (leB (natI l2.len) l8.cap) (andB (leB (natI l2.len) (toN (natI l2.len))) (leB n9 (toN (natI l2.len))))) <|
 .call (F_piece_newPart S n6 (⟨(cutBase l8.base (toN (natI l2.len)) (toN n9) 1), (subN (toN (natI l2.len)) (toN n9)), (subN (toN (natI l2.len)) (toN n9))⟩) (Int.negSucc 0)) [(Ty.agg b7)] fun (r0 : d7 × Unit) =>
 .check x2 [vS l4] <|
 .alloc (Bs.inj b7 r0.1) fun (a0 : Addr) =>
 .check x2 [vS l4] <|
 .append 7 64 z7 l4 (⟨(some a0), 1, 1⟩) fun (l0 : Sl) =>
 .store x2 [vS l0] <|
 .store x1 [vI (natI l2.len)] <|
 .store x3 [vI 0] <|
 .ret 0 []) <|
 .ret 0 []
def F_codec_Encode (S : Ids) (enc : Int) (atoms : Sl) : Prog :=
 .call (F_codec_of S enc) [(Ty.one B.any)] fun (r1 : Value × Unit) =>
 grd (isIface r1.1) <|
 ifB (isNilIface r1.1)
 (.ret 0 [nS, vI 0, vI 10]) <|
 .bind
 (.loop [tS, tI] ((⟨none, 0, 0⟩ : Sl), ((0 : Int), ())) fun (r0 : Sl × Int × Unit) =>
 ifB (ltI r0.2.1 (natI atoms.len))
 (atx tI atoms r0.2.1 1 fun (n0 : Int) =>
 .invoke r1.1 S.m_size [vI n0] [tI] fun (r2 : Int × Unit) =>
 ifB (eqI r2.1 0)
 (.ret 1 [nS, vI r0.2.1, vI 11]) <|
 .invoke r1.1 S.m_put [vS r0.1, vI n0] [tS] fun (r3 : Sl × Unit) =>
 .ret 0 [vS r3.1, vI (addI .i64 r0.2.1 1)]) <|
 .ret 2 [vS r0.1]) fun (k0 : Nat) =>
 fun (v0 : List Value) =>
 ifB (eqN k0 2)
 (.cast [tS] v0 fun (r4 : Sl × Unit) =>
 .ret 0 [vS r4.1, vI 0, vI 0]) <|
 ifB (eqN k0 1)
 (.cast [tS, tI, tI] v0 fun (r5 : Sl × Int × Int × Unit) =>
 .ret 0 [vS r5.1, vI r5.2.1, vI r5.2.2.1]) <|
 .fail
def F_Text_fresh (S : Ids) (t : OA) (put : Sl) : Prog :=
 .alloc [vP t] fun (a1 : Addr) =>
 .alloc [nS] fun (a2 : Addr) =>
 .load tP (some a1) fun (p3 : OA) =>
 fld tS p3 3 fun (l4 : Sl) =>
 .alloc [vI 0] fun (a5 : Addr) =>
 .store (some a5) [vI (natI l4.len)] <|
 .alloc [vI 0] fun (a6 : Addr) =>
 .store (some a6) [vI 0] <|
 thn 2 [] (.loop [tI] ((0 : Int), ()) fun (r0 : Int × Unit) =>
 ifB (ltI r0.1 (natI put.len))
 (thn 0 [] (atx tI put r0.1 1 fun (n0 : Int) =>
 thn 0 [tB] (ifB (geI n0 0)
 (ifB (ltI n0 55296)
 (.ret 0 [vB true]) <|
 .ret 0 [vB (gtI n0 57343)]) <|
 .ret 0 [vB false]) fun (r1 : Bool × Unit) =>
 thn 0 [] (thn 0 [tB] (ifB (notB r1.1)
 (.ret 0 [vB true]) <|
 .load tI (some a6) fun (n1 : Int) =>
 .ret 0 [vB (eqI n1 128)]) fun (r2 : Bool × Unit) =>
 ifB r2.1
 (.call (F_Text_fresh_1 S (some a1) (some a5) (some a2) (some a6)) [] fun (u0 : Unit) =>
 .ret 0 []) <|
 .ret 0 []) fun (u1 : Unit) =>
 .load tP (some a1) fun (p0 : OA) =>
 fld tI p0 0 fun (n2 : Int) =>
 .alloc [vI n0] fun (a0 : Addr) =>
 .call (F_codec_Encode S n2 (⟨(some a0), 1, 1⟩)) [tS, tI, tI] fun (r3 : Sl × Int × Int × Unit) =>
 .load tP (some a1) fun (p1 : OA) =>
 .load tP (some a1) fun (p2 : OA) =>
 fld tS p2 3 fun (l0 : Sl) =>
 .append 1 1 [vU 0] l0 r3.1 fun (l1 : Sl) =>
 .check (some a1) [vP p1] <|
 sto p1 3 [vS l1] <|
 .load tI (some a6) fun (n3 : Int) =>
 .store (some a6) [vI (addI .i64 n3 1)] <|
 ifB (notB r1.1)
 (.call (F_Text_fresh_1 S (some a1) (some a5) (some a2) (some a6)) [] fun (u2 : Unit) =>
 .ret 0 []) <|
 .ret 0 []) fun (u3 : Unit) =>
 .ret 0 [vI (addI .i64 r0.1 1)]) <|
 .ret 2 []) fun (u4 : Unit) =>
 .call (F_Text_fresh_1 S (some a1) (some a5) (some a2) (some a6)) [] fun (u5 : Unit) =>
 .load tS (some a2) fun (l2 : Sl) =>
 .ret 0 [vS l2]
def F_tree_even_part (S : Ids) (l : OA) (x : d7) (r : OA) : Prog :=
 .alloc (Bs.inj b7 x) fun (a1 : Addr) =>
 .call (F_node_part_tall S l) [tI] fun (r2 : Int × Unit) =>
 .call (F_node_part_tall S r) [tI] fun (r3 : Int × Unit) =>
 ifB (gtI r2.1 (addI .i64 r3.1 1))
 (fld tP l 0 fun (p4 : OA) =>
 fld tP l 1 fun (p5 : OA) =>
 .call (F_node_part_tall S p4) [tI] fun (r6 : Int × Unit) =>
 .check (shiftTo l 1) [vP p5] <|
 .call (F_node_part_tall S p5) [tI] fun (r7 : Int × Unit) =>
 ifB (geI r6.1 r7.1)
 (fld tP l 0 fun (p8 : OA) =>
 fld (Ty.agg b7) l 2 fun (r9 : d7) =>
 fld tP l 1 fun (p0 : OA) =>
 .load (Ty.agg b7) (some a1) fun (r0 : d7) =>
 .call (F_tree_of_part S p0 (r0.1, (r0.2.1, (r0.2.2.1, (r0.2.2.2.1, (r0.2.2.2.2.1, (r0.2.2.2.2.2.1, (r0.2.2.2.2.2.2.1, ()))))))) r) [tP] fun (r1 : OA × Unit) =>
 .check (shiftTo l 2) (Bs.inj b7 r9) <|
 .check (shiftTo l 0) [vP p8] <|
 .call (F_tree_of_part S p8 (r9.1, (r9.2.1, (r9.2.2.1, (r9.2.2.2.1, (r9.2.2.2.2.1, (r9.2.2.2.2.2.1, (r9.2.2.2.2.2.2.1, ()))))))) r1.1) [tP] fun (r4 : OA × Unit) =>
 .ret 0 [vP r4.1]) <|
 fld tP l 1 fun (p1 : OA) =>
 fld tP l 0 fun (p2 : OA) =>
 fld (Ty.agg b7) l 2 fun (r5 : d7) =>
 fld tP p1 0 fun (p3 : OA) =>
 fld (Ty.agg b7) p1 2 fun (r8 : d7) =>
 fld tP p1 1 fun (p6 : OA) =>
 .load (Ty.agg b7) (some a1) fun (r10 : d7) =>
 .call (F_tree_of_part S p2 (r5.1, (r5.2.1, (r5.2.2.1, (r5.2.2.2.1, (r5.2.2.2.2.1, (r5.2.2.2.2.2.1, (r5.2.2.2.2.2.2.1, ()))))))) p3) [tP] fun (r14 : OA × Unit) =>
 .check (some a1) (Bs.inj b7 r10) <|
 .check (shiftTo p1 1) [vP p6] <|
 .check (shiftTo p1 2) (Bs.inj b7 r8) <|
 .call (F_tree_of_part S p6 (r10.1, (r10.2.1, (r10.2.2.1, (r10.2.2.2.1, (r10.2.2.2.2.1, (r10.2.2.2.2.2.1, (r10.2.2.2.2.2.2.1, ()))))))) r) [tP] fun (r15 : OA × Unit) =>
 .check (shiftTo p1 2) (Bs.inj b7 r8) <|
 .call (F_tree_of_part S r14.1 (r8.1, (r8.2.1, (r8.2.2.1, (r8.2.2.2.1, (r8.2.2.2.2.1, (r8.2.2.2.2.2.1, (r8.2.2.2.2.2.2.1, ()))))))) r15.1) [tP] fun (r17 : OA × Unit) =>
 .ret 0 [vP r17.1]) <|
 .call (F_node_part_tall S r) [tI] fun (r19 : Int × Unit) =>
 .call (F_node_part_tall S l) [tI] fun (r26 : Int × Unit) =>
 ifB (gtI r19.1 (addI .i64 r26.1 1))
 (fld tP r 1 fun (p7 : OA) =>
 fld tP r 0 fun (p9 : OA) =>
 .call (F_node_part_tall S p7) [tI] fun (r27 : Int × Unit) =>
 .check (shiftTo r 0) [vP p9] <|
 .call (F_node_part_tall S p9) [tI] fun (r31 : Int × Unit) =>
 ifB (geI r27.1 r31.1)
 (.load (Ty.agg b7) (some a1) fun (r33 : d7) =>
 fld tP r 0 fun (p11 : OA) =>
 fld (Ty.agg b7) r 2 fun (r36 : d7) =>
 fld tP r 1 fun (p12 : OA) =>
 .call (F_tree_of_part S l (r33.1, (r33.2.1, (r33.2.2.1, (r33.2.2.2.1, (r33.2.2.2.2.1, (r33.2.2.2.2.2.1, (r33.2.2.2.2.2.2.1, ()))))))) p11) [tP] fun (r38 : OA × Unit) =>
 .check (shiftTo r 1) [vP p12] <|
 .check (shiftTo r 2) (Bs.inj b7 r36) <|
 .call (F_tree_of_part S r38.1 (r36.1, (r36.2.1, (r36.2.2.1, (r36.2.2.2.1, (r36.2.2.2.2.1, (r36.2.2.2.2.2.1, (r36.2.2.2.2.2.2.1, ()))))))) p12) [tP] fun (r40 : OA × Unit) =>
 .ret 0 [vP r40.1]) <|
 fld tP r 0 fun (p13 : OA) =>
 .load (Ty.agg b7) (some a1) fun (r42 : d7) =>
 fld tP p13 0 fun (p16 : OA) =>
 fld (Ty.agg b7) p13 2 fun (r48 : d7) =>
 fld tP p13 1 fun (p18 : OA) =>
 fld (Ty.agg b7) r 2 fun (r49 : d7) =>
 fld tP r 1 fun (p20 : OA) =>
 .call (F_tree_of_part S l (r42.1, (r42.2.1, (r42.2.2.1, (r42.2.2.2.1, (r42.2.2.2.2.1, (r42.2.2.2.2.2.1, (r42.2.2.2.2.2.2.1, ()))))))) p16) [tP] fun (r50 : OA × Unit) =>
 .check (shiftTo r 1) [vP p20] <|
 .check (shiftTo r 2) (Bs.inj b7 r49) <|
 .check (shiftTo p13 1) [vP p18] <|
 .check (shiftTo p13 2) (Bs.inj b7 r48) <|
 .call (F_tree_of_part S p18 (r49.1, (r49.2.1, (r49.2.2.1, (r49.2.2.2.1, (r49.2.2.2.2.1, (r49.2.2.2.2.2.1, (r49.2.2.2.2.2.2.1, ()))))))) p20) [tP] fun (r51 : OA × Unit) =>
 .check (shiftTo p13 2) (Bs.inj b7 r48) <|
 .call (F_tree_of_part S r50.1 (r48.1, (r48.2.1, (r48.2.2.1, (r48.2.2.2.1, (r48.2.2.2.2.1, (r48.2.2.2.2.2.1, (r48.2.2.2.2.2.2.1, ()))))))) r51.1) [tP] fun (r52 : OA × Unit) =>
 .ret 0 [vP r52.1]) <|
 .load (Ty.agg b7) (some a1) fun (r53 : d7) =>
 .call (F_tree_of_part S l (r53.1, (r53.2.1, (r53.2.2.1, (r53.2.2.2.1, (r53.2.2.2.2.1, (r53.2.2.2.2.2.1, (r53.2.2.2.2.2.2.1, ()))))))) r) [tP] fun (r54 : OA × Unit) =>
 .ret 0 [vP r54.1]
def R_tree_join_part (fuelN : Nat) (S : Ids) (l : OA) (x : d7) (r : OA) : Prog :=
 match fuelN with
 | 0 => .fail
 | fuelN + 1 =>
  .alloc (Bs.inj b7 x) fun (a1 : Addr) =>
  .call (F_node_part_tall S l) [tI] fun (r2 : Int × Unit) =>
  .call (F_node_part_tall S r) [tI] fun (r3 : Int × Unit) =>
  ifB (gtI r2.1 (addI .i64 r3.1 1))
  (fld tP l 0 fun (p4 : OA) =>
  fld (Ty.agg b7) l 2 fun (r5 : d7) =>
  fld tP l 1 fun (p6 : OA) =>
  .load (Ty.agg b7) (some a1) fun (r7 : d7) =>
  .call (R_tree_join_part fuelN S p6 (r7.1, (r7.2.1, (r7.2.2.1, (r7.2.2.2.1, (r7.2.2.2.2.1, (r7.2.2.2.2.2.1, (r7.2.2.2.2.2.2.1, ()))))))) r) [tP] fun (r8 : OA × Unit) =>
  .check (shiftTo l 2) (Bs.inj b7 r5) <|
  .check (shiftTo l 0) [vP p4] <|
  .call (F_tree_even_part S p4 (r5.1, (r5.2.1, (r5.2.2.1, (r5.2.2.2.1, (r5.2.2.2.2.1, (r5.2.2.2.2.2.1, (r5.2.2.2.2.2.2.1, ()))))))) r8.1) [tP] fun (r9 : OA × Unit) =>
  .ret 0 [vP r9.1]) <|
  .call (F_node_part_tall S r) [tI] fun (r0 : Int × Unit) =>
  .call (F_node_part_tall S l) [tI] fun (r1 : Int × Unit) =>
  ifB (gtI r0.1 (addI .i64 r1.1 1))
  (.load (Ty.agg b7) (some a1) fun (r4 : d7) =>
  fld tP r 0 fun (p0 : OA) =>
  fld (Ty.agg b7) r 2 fun (r6 : d7) =>
  fld tP r 1 fun (p1 : OA) =>
  .call (R_tree_join_part fuelN S l (r4.1, (r4.2.1, (r4.2.2.1, (r4.2.2.2.1, (r4.2.2.2.2.1, (r4.2.2.2.2.2.1, (r4.2.2.2.2.2.2.1, ()))))))) p0) [tP] fun (r13 : OA × Unit) =>
  .check (shiftTo r 1) [vP p1] <|
  .check (shiftTo r 2) (Bs.inj b7 r6) <|
  .call (F_tree_even_part S r13.1 (r6.1, (r6.2.1, (r6.2.2.1, (r6.2.2.2.1, (r6.2.2.2.2.1, (r6.2.2.2.2.2.1, (r6.2.2.2.2.2.2.1, ()))))))) p1) [tP] fun (r15 : OA × Unit) =>
  .ret 0 [vP r15.1]) <|
  .load (Ty.agg b7) (some a1) fun (r20 : d7) =>
  .call (F_tree_of_part S l (r20.1, (r20.2.1, (r20.2.2.1, (r20.2.2.2.1, (r20.2.2.2.2.1, (r20.2.2.2.2.2.1, (r20.2.2.2.2.2.2.1, ()))))))) r) [tP] fun (r21 : OA × Unit) =>
  .ret 0 [vP r21.1]
def F_tree_join_part (S : Ids) (l : OA) (x : d7) (r : OA) : Prog := .ex fun fuelN => R_tree_join_part fuelN S l x r
def R_node_part_cut (fuelN : Nat) (S : Ids) (n : OA) (i : Int) : Prog :=
 match fuelN with
 | 0 => .fail
 | fuelN + 1 =>
  ifB (noneB n)
  (.ret 0 [vP none, vP none]) <|
  fld tP n 0 fun (p1 : OA) =>
  .call (F_node_part_count S p1) [tI] fun (r2 : Int × Unit) =>
  ifB (leI i r2.1)
  (fld tP n 0 fun (p3 : OA) =>
  .call (R_node_part_cut fuelN S p3 i) [tP, tP] fun (r4 : OA × OA × Unit) =>
  fld (Ty.agg b7) n 2 fun (r5 : d7) =>
  fld tP n 1 fun (p6 : OA) =>
  .call (F_tree_join_part S r4.2.1 (r5.1, (r5.2.1, (r5.2.2.1, (r5.2.2.2.1, (r5.2.2.2.2.1, (r5.2.2.2.2.2.1, (r5.2.2.2.2.2.2.1, ()))))))) p6) [tP] fun (r7 : OA × Unit) =>
  .ret 0 [vP r4.1, vP r7.1]) <|
  fld tP n 1 fun (p8 : OA) =>
  .call (R_node_part_cut fuelN S p8 (subI .i64 (subI .i64 i r2.1) 1)) [tP, tP] fun (r9 : OA × OA × Unit) =>
  fld tP n 0 fun (p0 : OA) =>
  fld (Ty.agg b7) n 2 fun (r0 : d7) =>
  .call (F_tree_join_part S p0 (r0.1, (r0.2.1, (r0.2.2.1, (r0.2.2.2.1, (r0.2.2.2.2.1, (r0.2.2.2.2.2.1, (r0.2.2.2.2.2.2.1, ()))))))) r9.1) [tP] fun (r1 : OA × Unit) =>
  .ret 0 [vP r1.1, vP r9.2.1]
def F_node_part_cut (S : Ids) (n : OA) (i : Int) : Prog := .ex fun fuelN => R_node_part_cut fuelN S n i
def R_node_part_first (fuelN : Nat) (S : Ids) (n : OA) : Prog :=
 match fuelN with
 | 0 => .fail
 | fuelN + 1 =>
  .alloc z7 fun (a1 : Addr) =>
  fld tP n 0 fun (p2 : OA) =>
  ifB (noneB p2)
  (fld (Ty.agg b7) n 2 fun (r3 : d7) =>
  fld tP n 1 fun (p4 : OA) =>
  .store (some a1) (Bs.inj b7 r3) <|
  .check (shiftTo n 1) [vP p4] <|
  .load (Ty.agg b7) (some a1) fun (r5 : d7) =>
  .ret 0 [(Value.agg (Bs.inj b7 r5).toArray), vP p4]) <|
  fld tP n 0 fun (p6 : OA) =>
  .call (R_node_part_first fuelN S p6) [(Ty.agg b7), tP] fun (r7 : d7 × OA × Unit) =>
  .alloc z7 fun (a8 : Addr) =>
  .store (some a8) (Bs.inj b7 r7.1) <|
  .load (Ty.agg b7) (some a8) fun (r9 : d7) =>
  fld (Ty.agg b7) n 2 fun (r0 : d7) =>
  fld tP n 1 fun (p0 : OA) =>
  .call (F_tree_even_part S r7.2.1 (r0.1, (r0.2.1, (r0.2.2.1, (r0.2.2.2.1, (r0.2.2.2.2.1, (r0.2.2.2.2.2.1, (r0.2.2.2.2.2.2.1, ()))))))) p0) [tP] fun (r1 : OA × Unit) =>
  .check (some a8) (Bs.inj b7 r9) <|
  .store (some a1) (Bs.inj b7 r9) <|
  .load (Ty.agg b7) (some a1) fun (r2 : d7) =>
  .ret 0 [(Value.agg (Bs.inj b7 r2).toArray), vP r1.1]
def F_node_part_first (S : Ids) (n : OA) : Prog := .ex fun fuelN => R_node_part_first fuelN S n
def F_tree_both_part (S : Ids) (l : OA) (r : OA) : Prog :=
 ifB (noneB r)
 (.ret 0 [vP l]) <|
 .call (F_node_part_first S r) [(Ty.agg b7), tP] fun (r1 : d7 × OA × Unit) =>
 .alloc z7 fun (a2 : Addr) =>
 .store (some a2) (Bs.inj b7 r1.1) <|
 .load (Ty.agg b7) (some a2) fun (r3 : d7) =>
 .call (F_tree_join_part S l (r3.1, (r3.2.1, (r3.2.2.1, (r3.2.2.2.1, (r3.2.2.2.2.1, (r3.2.2.2.2.2.1, (r3.2.2.2.2.2.2.1, ()))))))) r1.2.1) [tP] fun (r4 : OA × Unit) =>
 .ret 0 [vP r4.1]
def F_Tree_part_Replace (S : Ids) (t : (OA × Unit)) (from_ : Int) (to : Int) (items : Sl) : Prog :=
 .alloc [vP t.1] fun (a1 : Addr) =>
 .alloc [vP none] fun (a2 : Addr) =>
 thn 0 [tB] (ifB (ltI from_ 0)
 (.ret 0 [vB true]) <|
 ifB (gtI from_ to)
 (.ret 0 [vB true]) <|
 .load (Ty.agg [B.ptr]) (some a1) fun (r0 : OA × Unit) =>
 .call (F_Tree_part_Size S (r0.1, ())) [tI] fun (r1 : Int × Unit) =>
 .ret 0 [vB (gtI to r1.1)]) fun (r2 : Bool × Unit) =>
 ifB r2.1
 (.store (some a2) [vP none] <|
 .load (Ty.agg [B.ptr]) (some a2) fun (r3 : OA × Unit) =>
 .ret 0 [(Value.agg (#[vP r3.1])), (vI 1)]) <|
 .load tP (shiftTo (some a1) 0) fun (p0 : OA) =>
 .call (F_node_part_cut S p0 from_) [tP, tP] fun (r4 : OA × OA × Unit) =>
 .load tP (shiftTo (some a1) 0) fun (p1 : OA) =>
 .call (F_node_part_cut S p1 to) [tP, tP] fun (r5 : OA × OA × Unit) =>
 .call (F_tree_build_part S items) [tP] fun (r6 : OA × Unit) =>
 .call (F_tree_both_part S r4.1 r6.1) [tP] fun (r7 : OA × Unit) =>
 .call (F_tree_both_part S r7.1 r5.2.1) [tP] fun (r8 : OA × Unit) =>
 .store (some a2) [vP r8.1] <|
 .load (Ty.agg [B.ptr]) (some a2) fun (r9 : OA × Unit) =>
 .ret 0 [(Value.agg (#[vP r9.1])), (vI 0)]
def F_Text_replace (S : Ids) (t : OA) (from_ : Int) (to : Int) (put : Sl) : Prog :=
 .call (F_Text_find S t from_) [tI, tI] fun (r1 : Int × Int × Unit) =>
 .call (F_Text_find S t to) [tI, tI] fun (r2 : Int × Int × Unit) =>
 thn 0 [tS] (fld (Ty.agg [B.ptr]) t 2 fun (r0 : OA × Unit) =>
 .call (F_Tree_part_At S (r0.1, ()) r1.1) [(Ty.agg b7), tB] fun (r3 : d7 × Bool × Unit) =>
 .alloc z7 fun (a0 : Addr) =>
 .store (some a0) (Bs.inj b7 r3.1) <|
 thn 0 [tB] (ifB r3.2.1
 (.ret 0 [vB (gtI r1.2.1 0)]) <|
 .ret 0 [vB false]) fun (r4 : Bool × Unit) =>
 ifB r4.1
 (thn 0 [tP] (.both (.load (Ty.agg b7) (some a0) fun (r5 : d7) =>
 fld tI t 0 fun (n0 : Int) =>
 .call (F_part_cut S (r5.1, (r5.2.1, (r5.2.2.1, (r5.2.2.2.1, (r5.2.2.2.2.1, (r5.2.2.2.2.2.1, (r5.2.2.2.2.2.2.1, ()))))))) n0 r1.2.1) [(Ty.agg b7), (Ty.agg b7)] fun (r6 : d7 × d7 × Unit) =>
 .alloc z7 fun (a1 : Addr) =>
 .check (shiftTo t 0) [vI n0] <|
 .check (some a0) (Bs.inj b7 r5) <|
 .alloc z7 fun (a2 : Addr) =>
 .check (shiftTo t 0) [vI n0] <|
 .check (some a0) (Bs.inj b7 r5) <|
 .store (some a1) (Bs.inj b7 r6.1) <|
 .store (some a2) (Bs.inj b7 r6.2.1) <|
 .ret 0 [vP (some a1)]) <|
 .both (.load (Ty.agg b7) (some a0) fun (r7 : d7) =>
 fld tI t 0 fun (n1 : Int) =>
 .call (F_part_cut S (r7.1, (r7.2.1, (r7.2.2.1, (r7.2.2.2.1, (r7.2.2.2.2.1, (r7.2.2.2.2.2.1, (r7.2.2.2.2.2.2.1, ()))))))) n1 r1.2.1) [(Ty.agg b7), (Ty.agg b7)] fun (r8 : d7 × d7 × Unit) =>
 .alloc z7 fun (a3 : Addr) =>
 .check (shiftTo t 0) [vI n1] <|
 .check (some a0) (Bs.inj b7 r7) <|
 .alloc z7 fun (a4 : Addr) =>
 .check (shiftTo t 0) [vI n1] <|
 .check (some a0) (Bs.inj b7 r7) <|
 .store (some a4) (Bs.inj b7 r8.1) <|
 .store (some a3) (Bs.inj b7 r8.2.1) <|
 .ret 0 [vP (some a4)]) <|
 .both (.load (Ty.agg b7) (some a0) fun (r9 : d7) =>
 fld tI t 0 fun (n2 : Int) =>
 .alloc z7 fun (a5 : Addr) =>
 .check (shiftTo t 0) [vI n2] <|
 .check (some a0) (Bs.inj b7 r9) <|
 .call (F_part_cut S (r9.1, (r9.2.1, (r9.2.2.1, (r9.2.2.2.1, (r9.2.2.2.2.1, (r9.2.2.2.2.2.1, (r9.2.2.2.2.2.2.1, ()))))))) n2 r1.2.1) [(Ty.agg b7), (Ty.agg b7)] fun (r10 : d7 × d7 × Unit) =>
 .alloc z7 fun (a6 : Addr) =>
 .check (shiftTo t 0) [vI n2] <|
 .check (some a0) (Bs.inj b7 r9) <|
 .store (some a5) (Bs.inj b7 r10.1) <|
 .store (some a6) (Bs.inj b7 r10.2.1) <|
 .ret 0 [vP (some a5)]) <|
 .both (.load (Ty.agg b7) (some a0) fun (r11 : d7) =>
 fld tI t 0 fun (n3 : Int) =>
 .alloc z7 fun (a7 : Addr) =>
 .check (shiftTo t 0) [vI n3] <|
 .check (some a0) (Bs.inj b7 r11) <|
 .alloc z7 fun (a8 : Addr) =>
 .check (shiftTo t 0) [vI n3] <|
 .check (some a0) (Bs.inj b7 r11) <|
 .call (F_part_cut S (r11.1, (r11.2.1, (r11.2.2.1, (r11.2.2.2.1, (r11.2.2.2.2.1, (r11.2.2.2.2.2.1, (r11.2.2.2.2.2.2.1, ()))))))) n3 r1.2.1) [(Ty.agg b7), (Ty.agg b7)] fun (r12 : d7 × d7 × Unit) =>
 .store (some a7) (Bs.inj b7 r12.1) <|
 .store (some a8) (Bs.inj b7 r12.2.1) <|
 .ret 0 [vP (some a7)]) <|
 .both (.load (Ty.agg b7) (some a0) fun (r13 : d7) =>
 fld tI t 0 fun (n4 : Int) =>
 .alloc z7 fun (a9 : Addr) =>
 .check (shiftTo t 0) [vI n4] <|
 .check (some a0) (Bs.inj b7 r13) <|
 .call (F_part_cut S (r13.1, (r13.2.1, (r13.2.2.1, (r13.2.2.2.1, (r13.2.2.2.2.1, (r13.2.2.2.2.2.1, (r13.2.2.2.2.2.2.1, ()))))))) n4 r1.2.1) [(Ty.agg b7), (Ty.agg b7)] fun (r14 : d7 × d7 × Unit) =>
 .alloc z7 fun (a10 : Addr) =>
 .check (shiftTo t 0) [vI n4] <|
 .check (some a0) (Bs.inj b7 r13) <|
 .store (some a10) (Bs.inj b7 r14.1) <|
 .store (some a9) (Bs.inj b7 r14.2.1) <|
 .ret 0 [vP (some a10)]) <|
 .load (Ty.agg b7) (some a0) fun (r15 : d7) =>
 fld tI t 0 fun (n5 : Int) =>
 .alloc z7 fun (a11 : Addr) =>
 .check (shiftTo t 0) [vI n5] <|
 .check (some a0) (Bs.inj b7 r15) <|
 .alloc z7 fun (a12 : Addr) =>
 .check (shiftTo t 0) [vI n5] <|
 .check (some a0) (Bs.inj b7 r15) <|
 .call (F_part_cut S (r15.1, (r15.2.1, (r15.2.2.1, (r15.2.2.2.1, (r15.2.2.2.2.1, (r15.2.2.2.2.2.1, (r15.2.2.2.2.2.2.1, ()))))))) n5 r1.2.1) [(Ty.agg b7), (Ty.agg b7)] fun (r16 : d7 × d7 × Unit) =>
 .store (some a12) (Bs.inj b7 r16.1) <|
 .store (some a11) (Bs.inj b7 r16.2.1) <|
 .ret 0 [vP (some a12)]) fun (r17 : OA × Unit) =>
 .load (Ty.agg b7) r17.1 fun (r18 : d7) =>
 .alloc (Bs.inj b7 r18) fun (a13 : Addr) =>
 .append 7 64 z7 (⟨none, 0, 0⟩) (⟨(some a13), 1, 1⟩) fun (l0 : Sl) =>
 .ret 0 [vS l0]) <|
 .ret 0 [nS]) fun (r19 : Sl × Unit) =>
 .call (F_Text_fresh S t put) [tS] fun (r20 : Sl × Unit) =>
 .append 7 64 z7 r19.1 r20.1 fun (l1 : Sl) =>
 thn 0 [tS] (fld (Ty.agg [B.ptr]) t 2 fun (r21 : OA × Unit) =>
 .call (F_Tree_part_At S (r21.1, ()) r2.1) [(Ty.agg b7), tB] fun (r22 : d7 × Bool × Unit) =>
 .alloc z7 fun (a14 : Addr) =>
 .store (some a14) (Bs.inj b7 r22.1) <|
 ifB r22.2.1
 (thn 0 [tP] (.both (.load (Ty.agg b7) (some a14) fun (r23 : d7) =>
 fld tI t 0 fun (n6 : Int) =>
 .call (F_part_cut S (r23.1, (r23.2.1, (r23.2.2.1, (r23.2.2.2.1, (r23.2.2.2.2.1, (r23.2.2.2.2.2.1, (r23.2.2.2.2.2.2.1, ()))))))) n6 r2.2.1) [(Ty.agg b7), (Ty.agg b7)] fun (r24 : d7 × d7 × Unit) =>
 .alloc z7 fun (a15 : Addr) =>
 .check (shiftTo t 0) [vI n6] <|
 .check (some a14) (Bs.inj b7 r23) <|
 .alloc z7 fun (a16 : Addr) =>
 .check (shiftTo t 0) [vI n6] <|
 .check (some a14) (Bs.inj b7 r23) <|
 .store (some a15) (Bs.inj b7 r24.1) <|
 .store (some a16) (Bs.inj b7 r24.2.1) <|
 .ret 0 [vP (some a16)]) <|
 .both (.load (Ty.agg b7) (some a14) fun (r25 : d7) =>
 fld tI t 0 fun (n7 : Int) =>
 .call (F_part_cut S (r25.1, (r25.2.1, (r25.2.2.1, (r25.2.2.2.1, (r25.2.2.2.2.1, (r25.2.2.2.2.2.1, (r25.2.2.2.2.2.2.1, ()))))))) n7 r2.2.1) [(Ty.agg b7), (Ty.agg b7)] fun (r26 : d7 × d7 × Unit) =>
 .alloc z7 fun (a17 : Addr) =>
 .check (shiftTo t 0) [vI n7] <|
 .check (some a14) (Bs.inj b7 r25) <|
 .alloc z7 fun (a18 : Addr) =>
 .check (shiftTo t 0) [vI n7] <|
 .check (some a14) (Bs.inj b7 r25) <|
 .store (some a18) (Bs.inj b7 r26.1) <|
 .store (some a17) (Bs.inj b7 r26.2.1) <|
 .ret 0 [vP (some a17)]) <|
 .both (.load (Ty.agg b7) (some a14) fun (r27 : d7) =>
 fld tI t 0 fun (n8 : Int) =>
 .alloc z7 fun (a19 : Addr) =>
 .check (shiftTo t 0) [vI n8] <|
 .check (some a14) (Bs.inj b7 r27) <|
 .call (F_part_cut S (r27.1, (r27.2.1, (r27.2.2.1, (r27.2.2.2.1, (r27.2.2.2.2.1, (r27.2.2.2.2.2.1, (r27.2.2.2.2.2.2.1, ()))))))) n8 r2.2.1) [(Ty.agg b7), (Ty.agg b7)] fun (r28 : d7 × d7 × Unit) =>
 .alloc z7 fun (a20 : Addr) =>
 .check (shiftTo t 0) [vI n8] <|
 .check (some a14) (Bs.inj b7 r27) <|
 .store (some a19) (Bs.inj b7 r28.1) <|
 .store (some a20) (Bs.inj b7 r28.2.1) <|
 .ret 0 [vP (some a20)]) <|
 .both (.load (Ty.agg b7) (some a14) fun (r29 : d7) =>
 fld tI t 0 fun (n9 : Int) =>
 .alloc z7 fun (a21 : Addr) =>
 .check (shiftTo t 0) [vI n9] <|
 .check (some a14) (Bs.inj b7 r29) <|
 .alloc z7 fun (a22 : Addr) =>
 .check (shiftTo t 0) [vI n9] <|
 .check (some a14) (Bs.inj b7 r29) <|
 .call (F_part_cut S (r29.1, (r29.2.1, (r29.2.2.1, (r29.2.2.2.1, (r29.2.2.2.2.1, (r29.2.2.2.2.2.1, (r29.2.2.2.2.2.2.1, ()))))))) n9 r2.2.1) [(Ty.agg b7), (Ty.agg b7)] fun (r30 : d7 × d7 × Unit) =>
 .store (some a21) (Bs.inj b7 r30.1) <|
 .store (some a22) (Bs.inj b7 r30.2.1) <|
 .ret 0 [vP (some a22)]) <|
 .both (.load (Ty.agg b7) (some a14) fun (r31 : d7) =>
 fld tI t 0 fun (n10 : Int) =>
 .alloc z7 fun (a23 : Addr) =>
 .check (shiftTo t 0) [vI n10] <|
 .check (some a14) (Bs.inj b7 r31) <|
 .call (F_part_cut S (r31.1, (r31.2.1, (r31.2.2.1, (r31.2.2.2.1, (r31.2.2.2.2.1, (r31.2.2.2.2.2.1, (r31.2.2.2.2.2.2.1, ()))))))) n10 r2.2.1) [(Ty.agg b7), (Ty.agg b7)] fun (r32 : d7 × d7 × Unit) =>
 .alloc z7 fun (a24 : Addr) =>
 .check (shiftTo t 0) [vI n10] <|
 .check (some a14) (Bs.inj b7 r31) <|
 .store (some a24) (Bs.inj b7 r32.1) <|
 .store (some a23) (Bs.inj b7 r32.2.1) <|
 .ret 0 [vP (some a23)]) <|
 .load (Ty.agg b7) (some a14) fun (r33 : d7) =>
 fld tI t 0 fun (n11 : Int) =>
 .alloc z7 fun (a25 : Addr) =>
 .check (shiftTo t 0) [vI n11] <|
 .check (some a14) (Bs.inj b7 r33) <|
 .alloc z7 fun (a26 : Addr) =>
 .check (shiftTo t 0) [vI n11] <|
 .check (some a14) (Bs.inj b7 r33) <|
 .call (F_part_cut S (r33.1, (r33.2.1, (r33.2.2.1, (r33.2.2.2.1, (r33.2.2.2.2.1, (r33.2.2.2.2.2.1, (r33.2.2.2.2.2.2.1, ()))))))) n11 r2.2.1) [(Ty.agg b7), (Ty.agg b7)] fun (r34 : d7 × d7 × Unit) =>
 .store (some a26) (Bs.inj b7 r34.1) <|
 .store (some a25) (Bs.inj b7 r34.2.1) <|
 .ret 0 [vP (some a25)]) fun (r35 : OA × Unit) =>
 grd (someB r35.1) <|
 grd (someB (shiftTo r35.1 2)) <|
 .load tI (shiftTo (shiftTo r35.1 2) 0) fun (n12 : Int) =>
 ifB (gtI n12 0)
 (.load (Ty.agg b7) r35.1 fun (r36 : d7) =>
 .alloc (Bs.inj b7 r36) fun (a27 : Addr) =>
 .append 7 64 z7 l1 (⟨(some a27), 1, 1⟩) fun (l2 : Sl) =>
 .ret 0 [vS l2]) <|
 .ret 0 [vS l1]) <|
 .ret 0 [vS l1]) fun (r37 : Sl × Unit) =>
 fld (Ty.agg [B.ptr]) t 2 fun (r38 : OA × Unit) =>
 fld (Ty.agg [B.ptr]) t 2 fun (r39 : OA × Unit) =>
 .call (F_Tree_part_Size S (r39.1, ())) [tI] fun (r40 : Int × Unit) =>
 .check (shiftTo t 2) [vP r38.1] <|
 .call (F_Tree_part_Replace S (r38.1, ()) r1.1 (minI (addI .i64 r2.1 1) r40.1) r37.1) [(Ty.agg [B.ptr]), tI] fun (r41 : ((OA × Unit) × Int × Unit)) =>
 sto t 2 [vP r41.1.1] <|
 .ret 0 []
def F_Text_Change (S : Ids) (t : OA) (edits : Sl) : Prog :=
 .call (F_Text_refuse S t edits) [tI] fun (r1 : Int × Unit) =>
 ifB (neI r1.1 0)
 (.ret 0 [vI r1.1]) <|
 thn 2 [] (.loop [tI] ((subI .i64 (natI edits.len) 1), ()) fun (r0 : Int × Unit) =>
 ifB (geI r0.1 0)
 (thn 0 [] (atx (Ty.agg [bI, bI, B.sl]) edits r0.1 3 fun (r2 : Int × Int × Sl × Unit) =>
 .alloc [vI 0, vI 0, nS] fun (a0 : Addr) =>
 .store (some a0) [vI r2.1, vI r2.2.1, vS r2.2.2.1] <|
 thn 0 [tB] (.load tI (shiftTo (some a0) 0) fun (n0 : Int) =>
 .load tI (shiftTo (some a0) 1) fun (n1 : Int) =>
 ifB (ltI n0 n1)
 (.ret 0 [vB true]) <|
 .load tS (shiftTo (some a0) 2) fun (l0 : Sl) =>
 .ret 0 [vB (gtI (natI l0.len) 0)]) fun (r3 : Bool × Unit) =>
 ifB r3.1
 (.load tI (shiftTo (some a0) 0) fun (n2 : Int) =>
 .load tI (shiftTo (some a0) 1) fun (n3 : Int) =>
 .load tS (shiftTo (some a0) 2) fun (l1 : Sl) =>
 .call (F_Text_replace S t n2 n3 l1) [] fun (u0 : Unit) =>
 .ret 0 []) <|
 .ret 0 []) fun (u1 : Unit) =>
 .ret 0 [vI (subI .i64 r0.1 1)]) <|
 .ret 2 []) fun (u2 : Unit) =>
 .ret 0 [vI 0]
def F_law5_able (S : Ids) : Prog :=
 .alloc [vU 97] fun (a1 : Addr) =>
 .call (F_codec_Next S (Int.ofNat 1) (⟨(some a1), 1, 1⟩) (Int.ofNat 0)) [tI, tI] fun (r2 : Int × Int × Unit) =>
 thn 0 [tB] (ifB (neI r2.1 97)
 (.ret 0 [vB true]) <|
 .ret 0 [vB (neI r2.2.1 1)]) fun (r0 : Bool × Unit) =>
 ifB r0.1
 (.ret 0 [vB false]) <|
 .alloc [vU 97] fun (a0 : Addr) =>
 .call (F_piece_Open S (Int.ofNat 1) (⟨(some a0), 1, 1⟩) (Int.ofNat 2)) [tP, tI] fun (r1 : OA × Int × Unit) =>
 thn 0 [tB] (ifB (noneB r1.1)
 (.ret 0 [vB true]) <|
 ifB (neI r1.2.1 0)
 (.ret 0 [vB true]) <|
 .call (F_Text_Len S r1.1) [tI] fun (r3 : Int × Unit) =>
 .ret 0 [vB (neI r3.1 1)]) fun (r4 : Bool × Unit) =>
 ifB r4.1
 (.ret 0 [vB false]) <|
 thn 0 [tB] (.alloc [vI 98] fun (a2 : Addr) =>
 .alloc [vI 1, vI 1, (Value.slice (some a2) 1 1)] fun (a3 : Addr) =>
 .call (F_Text_Change S r1.1 (⟨(some a3), 1, 1⟩)) [tI] fun (r5 : Int × Unit) =>
 ifB (eqI r5.1 0)
 (.call (F_Text_Len S r1.1) [tI] fun (r6 : Int × Unit) =>
 .ret 0 [vB (eqI r6.1 2)]) <|
 .ret 0 [vB false]) fun (r7 : Bool × Unit) =>
 .ret 0 [vB r7.1]
def F_law5_known (S : Ids) (enc : Int) (b : Sl) : Prog :=
 thn 0 [tB] (ifB (geI enc 1)
 (ifB (leI enc 4)
 (.ret 0 [vB (leI (natI b.len) 65536)]) <|
 .ret 0 [vB false]) <|
 .ret 0 [vB false]) fun (r6 : Bool × Unit) =>
 .ret 0 [vB r6.1]
def F_Text_Chunks (S : Ids) (t : OA) (size : Int) : Prog :=
 .alloc [vI size] fun (a1 : Addr) =>
 fld (Ty.agg [B.ptr]) t 2 fun (r2 : OA × Unit) =>
 .alloc [vP none] fun (a3 : Addr) =>
 .store (some a3) [vP r2.1] <|
 .ret 0 [(Value.func (Fn.func S.f_Text_Chunks_1) #[] (#[vP (some a1), vP (some a3)]))]
def F_law5_sameBytes (S : Ids) (a : Sl) (b : Sl) : Prog :=
 ifB (neI (natI a.len) (natI b.len))
 (.ret 0 [vB false]) <|
 .bind
 (.loop [tI] ((0 : Int), ()) fun (r0 : Int × Unit) =>
 ifB (ltI r0.1 (natI a.len))
 (atx tU a r0.1 1 fun (n0 : Int) =>
 atx tU b r0.1 1 fun (n1 : Int) =>
 ifB (neI n0 n1)
 (.ret 1 [vB false]) <|
 .ret 0 [vI (addI .i64 r0.1 1)]) <|
 .ret 2 []) fun (k0 : Nat) =>
 fun (v0 : List Value) =>
 ifB (eqN k0 2)
 (.cast [] v0 fun (u0 : Unit) =>
 .ret 0 [vB true]) <|
 ifB (eqN k0 1)
 (.cast [tB] v0 fun (r1 : Bool × Unit) =>
 .ret 0 [vB r1.1]) <|
 .fail
def F_Tree_part_Items (S : Ids) (t : (OA × Unit)) (from_ : Int) : Prog :=
 .alloc [vP t.1] fun (a1 : Addr) =>
 .alloc [vI from_] fun (a2 : Addr) =>
 .ret 0 [(Value.func (Fn.func S.f_Tree_part_Items_1) #[] (#[vP (some a1), vP (some a2)]))]
def F_Text_walk (S : Ids) (t : OA) (from_ : Int) (to : Int) (see : Value) : Prog :=
 .alloc [vP t] fun (a1 : Addr) =>
 grd (flatB see) <|
 .alloc [see] fun (a2 : Addr) =>
 .load tP (some a1) fun (p3 : OA) =>
 .call (F_Text_Len S p3) [tI] fun (r4 : Int × Unit) =>
 ifB (geI (maxI from_ 0) (minI to r4.1))
 (.ret 0 []) <|
 .load tP (some a1) fun (p5 : OA) =>
 .call (F_Text_find S p5 (maxI from_ 0)) [tI, tI] fun (r6 : Int × Int × Unit) =>
 .alloc [vI 0] fun (a7 : Addr) =>
 .store (some a7) [vI r6.2.1] <|
 .alloc [vI 0] fun (a8 : Addr) =>
 .store (some a8) [vI (subI .i64 (minI to r4.1) (maxI from_ 0))] <|
 .load tP (some a1) fun (p9 : OA) =>
 fld (Ty.agg [B.ptr]) p9 2 fun (r0 : OA × Unit) =>
 .call (F_Tree_part_Items S (r0.1, ()) r6.1) [(Ty.one B.any)] fun (r1 : Value × Unit) =>
 .range r1.1 [(Ty.agg b7)] [tP] (fun (r2 : d7 × Unit) =>
 .alloc z7 fun (a0 : Addr) =>
 .store (some a0) (Bs.inj b7 r2.1) <|
 .ret 0 [vP (some a0)]) (fun (r3 : OA × Unit) =>
 .bind
 (.loop [tI] ((0 : Int), ()) fun (r5 : Int × Unit) =>
 grd (someB r3.1) <|
 .load tS (shiftTo r3.1 0) fun (l0 : Sl) =>
 ifB (ltI r5.1 (natI l0.len))
 (.load tP (some a1) fun (p0 : OA) =>
 fld tI p0 0 fun (n0 : Int) =>
 grd (someB r3.1) <|
 .load tS (shiftTo r3.1 0) fun (l1 : Sl) =>
 .call (F_codec_Next S n0 l1 r5.1) [tI, tI] fun (r7 : Int × Int × Unit) =>
 .bind
 (.load tI (some a7) fun (n1 : Int) =>
 ifB (gtI n1 0)
 (.load tI (some a7) fun (n2 : Int) =>
 .store (some a7) [vI (subI .i64 n2 1)] <|
 .ret 0 []) <|
 thn 0 [] (grd (someB r3.1) <|
 .load tI (shiftTo r3.1 1) fun (n3 : Int) =>
 ifB (ltI n3 0)
 (.load (Ty.one B.any) (some a2) fun (c0 : Value) =>
 .callv c0 [vI r7.1, vI (-1)] [] fun (u0 : Unit) =>
 .ret 0 []) <|
 .load (Ty.one B.any) (some a2) fun (c1 : Value) =>
 grd (someB r3.1) <|
 .load tI (shiftTo r3.1 1) fun (n4 : Int) =>
 .callv c1 [vI r7.1, vI (addI .i64 n4 r5.1)] [] fun (u1 : Unit) =>
 .ret 0 []) fun (u2 : Unit) =>
 .load tI (some a8) fun (n5 : Int) =>
 .store (some a8) [vI (subI .i64 n5 1)] <|
 .load tI (some a8) fun (n6 : Int) =>
 ifB (eqI n6 0)
 (.ret 1 []) <|
 .ret 0 []) fun (k0 : Nat) =>
 fun (v0 : List Value) =>
 ifB (eqN k0 1)
 (.cast [] v0 fun (u3 : Unit) =>
 .ret 1 []) <|
 ifB (eqN k0 0)
 (.cast [] v0 fun (u4 : Unit) =>
 .ret 0 [vI (addI .i64 r5.1 r7.2.1)]) <|
 .fail) <|
 .ret 4 []) fun (k1 : Nat) =>
 fun (v1 : List Value) =>
 ifB (eqN k1 4)
 (.cast [] v1 fun (u5 : Unit) =>
 .ret 0 []) <|
 ifB (eqN k1 1)
 (.cast [] v1 fun (u6 : Unit) =>
 .ret 1 []) <|
 .fail) fun (k2 : Nat) =>
 ifB (eqN k2 1)
 (.ret 0 []) <|
 ifB (eqN k2 0)
 (.ret 0 []) <|
 .fail
def F_Text_Atoms (S : Ids) (t : OA) (from_ : Int) (to : Int) : Prog :=
 .alloc [nS] fun (a1 : Addr) =>
 .call (F_Text_walk S t from_ to (Value.func (Fn.func S.f_Text_Atoms_1) #[] (#[vP (some a1)]))) [] fun (u2 : Unit) =>
 .load tS (some a1) fun (l3 : Sl) =>
 .ret 0 [vS l3]
def F_law5_sameInts (S : Ids) (a : Sl) (b : Sl) : Prog :=
 ifB (neI (natI a.len) (natI b.len))
 (.ret 0 [vB false]) <|
 .bind
 (.loop [tI] ((0 : Int), ()) fun (r0 : Int × Unit) =>
 ifB (ltI r0.1 (natI a.len))
 (atx tI a r0.1 1 fun (n0 : Int) =>
 atx tI b r0.1 1 fun (n1 : Int) =>
 ifB (neI n0 n1)
 (.ret 1 [vB false]) <|
 .ret 0 [vI (addI .i64 r0.1 1)]) <|
 .ret 2 []) fun (k0 : Nat) =>
 fun (v0 : List Value) =>
 ifB (eqN k0 2)
 (.cast [] v0 fun (u0 : Unit) =>
 .ret 0 [vB true]) <|
 ifB (eqN k0 1)
 (.cast [tB] v0 fun (r1 : Bool × Unit) =>
 .ret 0 [vB r1.1]) <|
 .fail
def F_Text_Tags (S : Ids) (t : OA) (from_ : Int) (to : Int) : Prog :=
 .alloc [nS] fun (a1 : Addr) =>
 .call (F_Text_walk S t from_ to (Value.func (Fn.func S.f_Text_Tags_1) #[] (#[vP (some a1)]))) [] fun (u2 : Unit) =>
 .load tS (some a1) fun (l3 : Sl) =>
 .ret 0 [vS l3]
def F_Text_Bytes (S : Ids) (t : OA) : Prog :=
 .call (F_Text_Size S t) [tI] fun (r1 : Int × Unit) =>
 .mk 1 [vU 0] r1.1 r1.1 fun (l2 : Sl) =>
 .alloc [nS] fun (a3 : Addr) =>
 .store (some a3) [vS l2] <|
 .alloc [vI 0] fun (a4 : Addr) =>
 .store (some a4) [vI 0] <|
 fld (Ty.agg [B.ptr]) t 2 fun (r5 : OA × Unit) =>
 .call (F_Tree_part_Items S (r5.1, ()) (Int.ofNat 0)) [(Ty.one B.any)] fun (r6 : Value × Unit) =>
 .range r6.1 [(Ty.agg b7)] [tP] (fun (r7 : d7 × Unit) =>
 .alloc z7 fun (a8 : Addr) =>
 .store (some a8) (Bs.inj b7 r7.1) <|
 .ret 0 [vP (some a8)]) (fun (r9 : OA × Unit) =>
 .load tI (some a4) fun (n0 : Int) =>
 .load tS (some a3) fun (l0 : Sl) =>
 .load tI (some a4) fun (n1 : Int) =>
 grd (leB n1 l0.len) <|
 grd (someB r9.1) <|
 .load tS (shiftTo r9.1 0) fun (l1 : Sl) =>
 .copy 1 (⟨(cutBase l0.base l0.cap (toN n1) 1), (subN l0.len (toN n1)), (subN l0.cap (toN n1))⟩) l1 fun (k0 : Nat) =>
 .check (some a4) [vI n0] <|
 .store (some a4) [vI (addI .i64 n0 (natI k0))] <|
 .ret 0 []) fun (k1 : Nat) =>
 ifB (eqN k1 0)
 (.load tS (some a3) fun (l3 : Sl) =>
 .ret 0 [vS l3]) <|
 .fail
def F_law5_see (S : Ids) (t : OA) : Prog :=
 .alloc [nS, nS, nS] fun (a1 : Addr) =>
 .call (F_Text_Len S t) [tI] fun (r2 : Int × Unit) =>
 .call (F_Text_Atoms S t (Int.ofNat 0) r2.1) [tS] fun (r3 : Sl × Unit) =>
 .call (F_Text_Tags S t (Int.ofNat 0) r2.1) [tS] fun (r4 : Sl × Unit) =>
 .call (F_Text_Bytes S t) [tS] fun (r5 : Sl × Unit) =>
 .store (some a1) [vS r3.1, vS r4.1, vS r5.1] <|
 .load (Ty.agg [B.sl, B.sl, B.sl]) (some a1) fun (r6 : Sl × Sl × Sl × Unit) =>
 .ret 0 [(Value.agg (#[vS r6.1, vS r6.2.1, vS r6.2.2.1]))]
def F_pen_edits (S : Ids) (p : OA) (n : Int) : Prog :=
 thn 0 [tB] (ifB (noneB p)
 (.ret 0 [vB true]) <|
 .ret 0 [vB (gtI n 200)]) fun (r0 : Bool × Unit) =>
 ifB r0.1
 (.mk 40 [vI 0, vI 0, nS] n n fun (l0 : Sl) =>
 .ret 0 [vS l0]) <|
 thn 0 [] (fld tS p 0 fun (l1 : Sl) =>
 ifB (noneB l1.base)
 (.mk 40 [vI 0, vI 0, nS] 200 200 fun (l2 : Sl) =>
 sto p 0 [vS l2] <|
 .ret 0 []) <|
 .ret 0 []) fun (u0 : Unit) =>
 fld tS p 0 fun (l3 : Sl) =>
 grd (andB (leB n l3.cap) (leB n (toN n))) <|
 .ret 0 [(Value.slice (cutBase l3.base (toN n) 0 3) (subN (toN n) 0) (subN (toN n) 0))]
def F_pen_put (S : Ids) (p : OA) (i : Int) (n : Int) : Prog :=
 thn 0 [tB] (ifB (noneB p)
 (.ret 0 [vB true]) <|
 ifB (geI i 8)
 (.ret 0 [vB true]) <|
 .ret 0 [vB (gtI n 400)]) fun (r0 : Bool × Unit) =>
 ifB r0.1
 (.mk 8 [vI 0] n n fun (l0 : Sl) =>
 .ret 0 [vS l0]) <|
 thn 2 [] (.loop [] () fun (u0 : Unit) =>
 fld tS p 1 fun (l1 : Sl) =>
 ifB (leI (natI l1.len) i)
 (fld tS p 1 fun (l2 : Sl) =>
 .mk 8 [vI 0] 400 400 fun (l3 : Sl) =>
 .check (shiftTo p 1) [vS l2] <|
 .alloc [vS l3] fun (a0 : Addr) =>
 .check (shiftTo p 1) [vS l2] <|
 .append 1 24 [nS] l2 (⟨(some a0), 1, 1⟩) fun (l4 : Sl) =>
 sto p 1 [vS l4] <|
 .ret 0 []) <|
 .ret 2 []) fun (u1 : Unit) =>
 fld tS p 1 fun (l5 : Sl) =>
 atx tS l5 i 1 fun (l6 : Sl) =>
 grd (andB (leB n l6.cap) (leB n (toN n))) <|
 .ret 0 [(Value.slice (cutBase l6.base (toN n) 0 1) (subN (toN n) 0) (subN (toN n) 0))]
def F_law5_hand (S : Ids) (p : OA) (l : Sl) : Prog :=
 .alloc [vI 0, nS, nS] fun (a1 : Addr) =>
 .alloc [vI 0, nS, nS] fun (a2 : Addr) =>
 .store (some a2) [vI 100, nS, nS] <|
 thn 0 [] (ifB (gtI (natI l.len) 64)
 (.store (shiftTo (some a2) 0) [vI 2] <|
 .ret 0 []) <|
 .ret 0 []) fun (u0 : Unit) =>
 .load tI (shiftTo (some a2) 0) fun (n0 : Int) =>
 .call (F_pen_edits S p (addI .i64 (natI l.len) n0)) [tS] fun (r0 : Sl × Unit) =>
 .store (shiftTo (some a2) 1) [vS r0.1] <|
 thn 2 [] (.loop [tI] ((0 : Int), ()) fun (r1 : Int × Unit) =>
 ifB (ltI r1.1 (natI l.len))
 (grd (andB (someB l.base) (inB r1.1 l.len)) <|
 grd (someB (shiftTo l.base (mulN (toN r1.1) 3))) <|
 .load tS (shiftTo (shiftTo l.base (mulN (toN r1.1) 3)) 2) fun (l0 : Sl) =>
 .load tI (shiftTo (some a2) 0) fun (n1 : Int) =>
 .call (F_pen_put S p r1.1 (addI .i64 (natI l0.len) n1)) [tS] fun (r2 : Sl × Unit) =>
 grd (andB (someB l.base) (inB r1.1 l.len)) <|
 grd (someB (shiftTo l.base (mulN (toN r1.1) 3))) <|
 .load tS (shiftTo (shiftTo l.base (mulN (toN r1.1) 3)) 2) fun (l1 : Sl) =>
 .copy 1 r2.1 l1 fun (k0 : Nat) =>
 thn 4 [] (.loop [tI] ((natI l0.len), ()) fun (r3 : Int × Unit) =>
 ifB (ltI r3.1 (natI r2.1.len))
 (grd (andB (someB r2.1.base) (inB r3.1 r2.1.len)) <|
 .store (shiftTo r2.1.base (mulN (toN r3.1) 1)) [vI (addI .i64 771 r3.1)] <|
 .ret 0 [vI (addI .i64 r3.1 1)]) <|
 .ret 4 []) fun (u1 : Unit) =>
 .load tS (shiftTo (some a2) 2) fun (l2 : Sl) =>
 .alloc [vS r2.1] fun (a0 : Addr) =>
 .append 1 24 [nS] l2 (⟨(some a0), 1, 1⟩) fun (l3 : Sl) =>
 .store (shiftTo (some a2) 2) [vS l3] <|
 grd (andB (someB l.base) (inB r1.1 l.len)) <|
 grd (someB (shiftTo l.base (mulN (toN r1.1) 3))) <|
 .load tI (shiftTo (shiftTo l.base (mulN (toN r1.1) 3)) 0) fun (n2 : Int) =>
 grd (andB (someB l.base) (inB r1.1 l.len)) <|
 grd (someB (shiftTo l.base (mulN (toN r1.1) 3))) <|
 .load tI (shiftTo (shiftTo l.base (mulN (toN r1.1) 3)) 1) fun (n3 : Int) =>
 .alloc [vI 0, vI 0, nS] fun (a3 : Addr) =>
 .check (shiftTo (shiftTo l.base (mulN (toN r1.1) 3)) 1) [vI n3] <|
 .check (shiftTo (shiftTo l.base (mulN (toN r1.1) 3)) 0) [vI n2] <|
 .store (some a3) [vI n2, vI n3, nS] <|
 thn 0 [] (grd (andB (someB l.base) (inB r1.1 l.len)) <|
 grd (someB (shiftTo l.base (mulN (toN r1.1) 3))) <|
 .load tS (shiftTo (shiftTo l.base (mulN (toN r1.1) 3)) 2) fun (l4 : Sl) =>
 ifB (notB (noneB l4.base))
 (grd (leB (natI l0.len) r2.1.cap) <|
 .store (shiftTo (some a3) 2) [(Value.slice (cutBase r2.1.base r2.1.cap 0 1) (subN (toN (natI l0.len)) 0) (subN r2.1.cap 0))] <|
 .ret 0 []) <|
 .ret 0 []) fun (u2 : Unit) =>
 .load tS (shiftTo (some a2) 1) fun (l5 : Sl) =>
 .load (Ty.agg [bI, bI, B.sl]) (some a3) fun (r4 : Int × Int × Sl × Unit) =>
 grd (andB (someB l5.base) (inB r1.1 l5.len)) <|
 .store (shiftTo l5.base (mulN (toN r1.1) 3)) [vI r4.1, vI r4.2.1, vS r4.2.2.1] <|
 .ret 0 [vI (addI .i64 r1.1 1)]) <|
 .ret 2 []) fun (u3 : Unit) =>
 thn 6 [] (.loop [tI] ((natI l.len), ()) fun (r5 : Int × Unit) =>
 .load tS (shiftTo (some a2) 1) fun (l6 : Sl) =>
 ifB (ltI r5.1 (natI l6.len))
 (.load tS (shiftTo (some a2) 1) fun (l7 : Sl) =>
 grd (andB (someB l7.base) (inB r5.1 l7.len)) <|
 .store (shiftTo l7.base (mulN (toN r5.1) 3)) [vI (subI .i64 (-771) r5.1), vI (-772), nS] <|
 .ret 0 [vI (addI .i64 r5.1 1)]) <|
 .ret 6 []) fun (u4 : Unit) =>
 .load (Ty.agg [bI, B.sl, B.sl]) (some a2) fun (r6 : Int × Sl × Sl × Unit) =>
 .store (some a1) [vI r6.1, vS r6.2.1, vS r6.2.2.1] <|
 .load (Ty.agg [bI, B.sl, B.sl]) (some a1) fun (r7 : Int × Sl × Sl × Unit) =>
 .ret 0 [(Value.agg (#[vI r7.1, vS r7.2.1, vS r7.2.2.1]))]
def F_handed_edits (S : Ids) (h : (Int × Sl × Sl × Unit)) : Prog :=
 .alloc [vI h.1, vS h.2.1, vS h.2.2.1] fun (a1 : Addr) =>
 .load tS (shiftTo (some a1) 1) fun (l2 : Sl) =>
 .load tS (shiftTo (some a1) 1) fun (l3 : Sl) =>
 .load tI (shiftTo (some a1) 0) fun (n4 : Int) =>
 grd (leB (subI .i64 (natI l3.len) n4) l2.cap) <|
 .ret 0 [(Value.slice (cutBase l2.base l2.cap 0 3) (subN (toN (subI .i64 (natI l3.len) n4)) 0) (subN l2.cap 0))]
def F_law5_sameEdits (S : Ids) (a : Sl) (b : Sl) : Prog :=
 ifB (neI (natI a.len) (natI b.len))
 (.ret 0 [vB false]) <|
 .bind
 (.loop [tI] ((0 : Int), ()) fun (r0 : Int × Unit) =>
 ifB (ltI r0.1 (natI a.len))
 (thn 0 [tB] (grd (andB (someB a.base) (inB r0.1 a.len)) <|
 grd (someB (shiftTo a.base (mulN (toN r0.1) 3))) <|
 .load tI (shiftTo (shiftTo a.base (mulN (toN r0.1) 3)) 0) fun (n0 : Int) =>
 grd (andB (someB b.base) (inB r0.1 b.len)) <|
 grd (someB (shiftTo b.base (mulN (toN r0.1) 3))) <|
 .load tI (shiftTo (shiftTo b.base (mulN (toN r0.1) 3)) 0) fun (n1 : Int) =>
 ifB (neI n0 n1)
 (.ret 0 [vB true]) <|
 grd (andB (someB a.base) (inB r0.1 a.len)) <|
 grd (someB (shiftTo a.base (mulN (toN r0.1) 3))) <|
 .load tI (shiftTo (shiftTo a.base (mulN (toN r0.1) 3)) 1) fun (n2 : Int) =>
 grd (andB (someB b.base) (inB r0.1 b.len)) <|
 grd (someB (shiftTo b.base (mulN (toN r0.1) 3))) <|
 .load tI (shiftTo (shiftTo b.base (mulN (toN r0.1) 3)) 1) fun (n3 : Int) =>
 ifB (neI n2 n3)
 (.ret 0 [vB true]) <|
 grd (andB (someB a.base) (inB r0.1 a.len)) <|
 grd (someB (shiftTo a.base (mulN (toN r0.1) 3))) <|
 .load tS (shiftTo (shiftTo a.base (mulN (toN r0.1) 3)) 2) fun (l0 : Sl) =>
 grd (andB (someB b.base) (inB r0.1 b.len)) <|
 grd (someB (shiftTo b.base (mulN (toN r0.1) 3))) <|
 .load tS (shiftTo (shiftTo b.base (mulN (toN r0.1) 3)) 2) fun (l1 : Sl) =>
 .call (F_law5_sameInts S l0 l1) [tB] fun (r1 : Bool × Unit) =>
 .ret 0 [vB (notB r1.1)]) fun (r2 : Bool × Unit) =>
 ifB r2.1
 (.ret 1 [vB false]) <|
 .ret 0 [vI (addI .i64 r0.1 1)]) <|
 .ret 2 []) fun (k0 : Nat) =>
 fun (v0 : List Value) =>
 ifB (eqN k0 2)
 (.cast [] v0 fun (u0 : Unit) =>
 .ret 0 [vB true]) <|
 ifB (eqN k0 1)
 (.cast [tB] v0 fun (r3 : Bool × Unit) =>
 .ret 0 [vB r3.1]) <|
 .fail
def F_handed_whole (S : Ids) (h : (Int × Sl × Sl × Unit)) (l : Sl) : Prog :=
 .alloc [vI h.1, vS h.2.1, vS h.2.2.1] fun (a1 : Addr) =>
 .load tS (shiftTo (some a1) 1) fun (l2 : Sl) =>
 .load tI (shiftTo (some a1) 0) fun (n3 : Int) =>
 ifB (neI (natI l2.len) (addI .i64 (natI l.len) n3))
 (.ret 0 [vB false]) <|
 .bind
 (.loop [tI] ((natI l.len), ()) fun (r0 : Int × Unit) =>
 .load tS (shiftTo (some a1) 1) fun (l0 : Sl) =>
 ifB (ltI r0.1 (natI l0.len))
 (thn 0 [tB] (.load tS (shiftTo (some a1) 1) fun (l1 : Sl) =>
 grd (andB (someB l1.base) (inB r0.1 l1.len)) <|
 grd (someB (shiftTo l1.base (mulN (toN r0.1) 3))) <|
 .load tI (shiftTo (shiftTo l1.base (mulN (toN r0.1) 3)) 0) fun (n0 : Int) =>
 ifB (neI n0 (subI .i64 (-771) r0.1))
 (.ret 0 [vB true]) <|
 .load tS (shiftTo (some a1) 1) fun (l3 : Sl) =>
 grd (andB (someB l3.base) (inB r0.1 l3.len)) <|
 grd (someB (shiftTo l3.base (mulN (toN r0.1) 3))) <|
 .load tI (shiftTo (shiftTo l3.base (mulN (toN r0.1) 3)) 1) fun (n1 : Int) =>
 ifB (neI n1 (-772))
 (.ret 0 [vB true]) <|
 .load tS (shiftTo (some a1) 1) fun (l4 : Sl) =>
 grd (andB (someB l4.base) (inB r0.1 l4.len)) <|
 grd (someB (shiftTo l4.base (mulN (toN r0.1) 3))) <|
 .load tS (shiftTo (shiftTo l4.base (mulN (toN r0.1) 3)) 2) fun (l5 : Sl) =>
 .ret 0 [vB (neI (natI l5.len) 0)]) fun (r1 : Bool × Unit) =>
 ifB r1.1
 (.ret 1 [vB false]) <|
 .ret 0 [vI (addI .i64 r0.1 1)]) <|
 .ret 2 []) fun (k0 : Nat) =>
 fun (v0 : List Value) =>
 ifB (eqN k0 2)
 (.cast [] v0 fun (u0 : Unit) =>
 .bind
 (.loop [tI] ((0 : Int), ()) fun (r2 : Int × Unit) =>
 ifB (ltI r2.1 (natI l.len))
 (.load tS (shiftTo (some a1) 2) fun (l6 : Sl) =>
 atx tS l6 r2.1 1 fun (l7 : Sl) =>
 grd (andB (someB l.base) (inB r2.1 l.len)) <|
 grd (someB (shiftTo l.base (mulN (toN r2.1) 3))) <|
 .load tS (shiftTo (shiftTo l.base (mulN (toN r2.1) 3)) 2) fun (l8 : Sl) =>
 thn 0 [tB] (.load tI (shiftTo (some a1) 0) fun (n2 : Int) =>
 ifB (neI (natI l7.len) (addI .i64 (natI l8.len) n2))
 (.ret 0 [vB true]) <|
 grd (leB (natI l8.len) l7.cap) <|
 grd (andB (someB l.base) (inB r2.1 l.len)) <|
 grd (someB (shiftTo l.base (mulN (toN r2.1) 3))) <|
 .load tS (shiftTo (shiftTo l.base (mulN (toN r2.1) 3)) 2) fun (l9 : Sl) =>
 .call (F_law5_sameInts S (⟨(cutBase l7.base l7.cap 0 1), (subN (toN (natI l8.len)) 0), (subN l7.cap 0)⟩) l9) [tB] fun (r3 : Bool × Unit) =>
 .ret 0 [vB (notB r3.1)]) fun (r4 : Bool × Unit) =>
 ifB r4.1
 (.ret 1 [vB false]) <|
 .bind
 (.loop [tI] ((natI l8.len), ()) fun (r5 : Int × Unit) =>
 ifB (ltI r5.1 (natI l7.len))
 (atx tI l7 r5.1 1 fun (n4 : Int) =>
 ifB (neI n4 (addI .i64 771 r5.1))
 (.ret 1 [vB false]) <|
 .ret 0 [vI (addI .i64 r5.1 1)]) <|
 .ret 6 []) fun (k1 : Nat) =>
 fun (v1 : List Value) =>
 ifB (eqN k1 6)
 (.cast [] v1 fun (u1 : Unit) =>
 .ret 0 [vI (addI .i64 r2.1 1)]) <|
 ifB (eqN k1 1)
 (.cast [tB] v1 fun (r6 : Bool × Unit) =>
 .ret 1 [vB r6.1]) <|
 .fail) <|
 .ret 4 []) fun (k2 : Nat) =>
 fun (v2 : List Value) =>
 ifB (eqN k2 4)
 (.cast [] v2 fun (u2 : Unit) =>
 .load (Ty.agg [bI, B.sl, B.sl]) (some a1) fun (r7 : Int × Sl × Sl × Unit) =>
 .call (F_handed_edits S (r7.1, (r7.2.1, (r7.2.2.1, ())))) [tS] fun (r8 : Sl × Unit) =>
 .call (F_law5_sameEdits S r8.1 l) [tB] fun (r9 : Bool × Unit) =>
 .ret 0 [vB r9.1]) <|
 ifB (eqN k2 1)
 (.cast [tB] v2 fun (r10 : Bool × Unit) =>
 .ret 0 [vB r10.1]) <|
 .fail) <|
 ifB (eqN k0 1)
 (.cast [tB] v0 fun (r11 : Bool × Unit) =>
 .ret 0 [vB r11.1]) <|
 .fail
def F_handed_spoil (S : Ids) (h : (Int × Sl × Sl × Unit)) : Prog :=
 .alloc [vI h.1, vS h.2.1, vS h.2.2.1] fun (a1 : Addr) =>
 thn 2 [] (.loop [tI] ((0 : Int), ()) fun (r0 : Int × Unit) =>
 .load tS (shiftTo (some a1) 2) fun (l0 : Sl) =>
 ifB (ltI r0.1 (natI l0.len))
 (thn 4 [] (.loop [tI] ((0 : Int), ()) fun (r1 : Int × Unit) =>
 .load tS (shiftTo (some a1) 2) fun (l1 : Sl) =>
 atx tS l1 r0.1 1 fun (l2 : Sl) =>
 ifB (ltI r1.1 (natI l2.len))
 (.load tS (shiftTo (some a1) 2) fun (l3 : Sl) =>
 atx tS l3 r0.1 1 fun (l4 : Sl) =>
 grd (notB false) <|
 grd (andB (someB l4.base) (inB r1.1 l4.len)) <|
 .store (shiftTo l4.base (mulN (toN r1.1) 1)) [vI (addI .i64 33 (remI .i64 r1.1 90))] <|
 .ret 0 [vI (addI .i64 r1.1 1)]) <|
 .ret 4 []) fun (u0 : Unit) =>
 .ret 0 [vI (addI .i64 r0.1 1)]) <|
 .ret 2 []) fun (u1 : Unit) =>
 thn 6 [] (.loop [tI] ((0 : Int), ()) fun (r2 : Int × Unit) =>
 .load tS (shiftTo (some a1) 1) fun (l5 : Sl) =>
 ifB (ltI r2.1 (natI l5.len))
 (.load tS (shiftTo (some a1) 1) fun (l6 : Sl) =>
 grd (andB (someB l6.base) (inB r2.1 l6.len)) <|
 grd (someB (shiftTo l6.base (mulN (toN r2.1) 3))) <|
 .store (shiftTo (shiftTo l6.base (mulN (toN r2.1) 3)) 0) [vI 7] <|
 .ret 0 [vI (addI .i64 r2.1 1)]) <|
 .ret 6 []) fun (u2 : Unit) =>
 .ret 0 []
def F_law5_written (S : Ids) (t : OA) (p : OA) (l : Sl) : Prog :=
 .call (F_law5_hand S p l) [(Ty.agg [bI, B.sl, B.sl])] fun (r1 : ((Int × Sl × Sl × Unit) × Unit)) =>
 .alloc [vI 0, nS, nS] fun (a2 : Addr) =>
 .store (some a2) [vI r1.1.1, vS r1.1.2.1, vS r1.1.2.2.1] <|
 .load (Ty.agg [bI, B.sl, B.sl]) (some a2) fun (r3 : Int × Sl × Sl × Unit) =>
 .call (F_handed_edits S (r3.1, (r3.2.1, (r3.2.2.1, ())))) [tS] fun (r4 : Sl × Unit) =>
 .call (F_Text_Change S t r4.1) [tI] fun (r5 : Int × Unit) =>
 .load (Ty.agg [bI, B.sl, B.sl]) (some a2) fun (r6 : Int × Sl × Sl × Unit) =>
 .call (F_handed_whole S (r6.1, (r6.2.1, (r6.2.2.1, ()))) l) [tB] fun (r7 : Bool × Unit) =>
 .load (Ty.agg [bI, B.sl, B.sl]) (some a2) fun (r8 : Int × Sl × Sl × Unit) =>
 .call (F_handed_spoil S (r8.1, (r8.2.1, (r8.2.2.1, ())))) [] fun (u9 : Unit) =>
 .ret 0 [vI r5.1, vB r7.1]
def F_law5_changed (S : Ids) (t : OA) (l : Sl) : Prog :=
 .call (F_law5_written S t none l) [tI, tB] fun (r1 : Int × Bool × Unit) =>
 .ret 0 [vI r1.1, vB r1.2.1]
def F_seen_same (S : Ids) (s : (Sl × Sl × Sl × Unit)) (o : (Sl × Sl × Sl × Unit)) : Prog :=
 .alloc [vS s.1, vS s.2.1, vS s.2.2.1] fun (a1 : Addr) =>
 .alloc [vS o.1, vS o.2.1, vS o.2.2.1] fun (a2 : Addr) =>
 thn 0 [tB] (.load tS (shiftTo (some a1) 0) fun (l0 : Sl) =>
 .load tS (shiftTo (some a2) 0) fun (l1 : Sl) =>
 .call (F_law5_sameInts S l0 l1) [tB] fun (r0 : Bool × Unit) =>
 ifB r0.1
 (.load tS (shiftTo (some a1) 1) fun (l2 : Sl) =>
 .load tS (shiftTo (some a2) 1) fun (l3 : Sl) =>
 .call (F_law5_sameInts S l2 l3) [tB] fun (r1 : Bool × Unit) =>
 ifB r1.1
 (.load tS (shiftTo (some a1) 2) fun (l4 : Sl) =>
 .load tS (shiftTo (some a2) 2) fun (l5 : Sl) =>
 .call (F_law5_sameBytes S l4 l5) [tB] fun (r2 : Bool × Unit) =>
 .ret 0 [vB r2.1]) <|
 .ret 0 [vB false]) <|
 .ret 0 [vB false]) fun (r3 : Bool × Unit) =>
 .ret 0 [vB r3.1]
def F_law5_copied (S : Ids) (s : (Sl × Sl × Sl × Unit)) : Prog :=
 .alloc [vS s.1, vS s.2.1, vS s.2.2.1] fun (a1 : Addr) =>
 .alloc [nS, nS, nS] fun (a2 : Addr) =>
 .load tS (shiftTo (some a1) 0) fun (l3 : Sl) =>
 .load tS (shiftTo (some a1) 1) fun (l4 : Sl) =>
 .load tS (shiftTo (some a1) 2) fun (l5 : Sl) =>
 .append 1 8 [vI 0] (⟨none, 0, 0⟩) l3 fun (l6 : Sl) =>
 .check (shiftTo (some a1) 2) [vS l5] <|
 .check (shiftTo (some a1) 1) [vS l4] <|
 .append 1 8 [vI 0] (⟨none, 0, 0⟩) l4 fun (l7 : Sl) =>
 .check (shiftTo (some a1) 2) [vS l5] <|
 .append 1 1 [vU 0] (⟨none, 0, 0⟩) l5 fun (l8 : Sl) =>
 .store (some a2) [vS l6, vS l7, vS l8] <|
 .load (Ty.agg [B.sl, B.sl, B.sl]) (some a2) fun (r9 : Sl × Sl × Sl × Unit) =>
 .ret 0 [(Value.agg (#[vS r9.1, vS r9.2.1, vS r9.2.2.1]))]
def F_quiet_ask (S : Ids) (q : OA) (t : OA) (h : (Int × Int × Int × Int × Sl × Unit)) : Prog :=
 .alloc [vI h.1, vI h.2.1, vI h.2.2.1, vI h.2.2.2.1, vS h.2.2.2.2.1] fun (a1 : Addr) =>
 thn 2 [] (.loop [tI] ((0 : Int), ()) fun (r0 : Int × Unit) =>
 ifB (ltI r0.1 2)
 (.load tI (shiftTo (some a1) 1) fun (n0 : Int) =>
 .load tI (shiftTo (some a1) 2) fun (n1 : Int) =>
 .load tI (shiftTo (some a1) 1) fun (n2 : Int) =>
 .load tI (shiftTo (some a1) 2) fun (n3 : Int) =>
 .call (F_Text_Atoms S t n0 n1) [tS] fun (r1 : Sl × Unit) =>
 .check (shiftTo (some a1) 2) [vI n3] <|
 .check (shiftTo (some a1) 1) [vI n2] <|
 .call (F_Text_Tags S t n2 n3) [tS] fun (r2 : Sl × Unit) =>
 .alloc [vS r1.1, vS r2.1] fun (a0 : Addr) =>
 thn 4 [] (.loop [tI] ((0 : Int), ()) fun (r3 : Int × Unit) =>
 ifB (ltI r3.1 2)
 (grd (inB r3.1 2) <|
 .load tS (shiftTo (some a0) (mulN (toN r3.1) 1)) fun (l0 : Sl) =>
 fld tS q 0 fun (l1 : Sl) =>
 .alloc [vS l0] fun (a2 : Addr) =>
 .append 1 24 [nS] l1 (⟨(some a2), 1, 1⟩) fun (l2 : Sl) =>
 sto q 0 [vS l2] <|
 fld tS q 1 fun (l3 : Sl) =>
 .append 1 8 [vI 0] (⟨none, 0, 0⟩) l0 fun (l4 : Sl) =>
 .check (shiftTo q 1) [vS l3] <|
 .alloc [vS l4] fun (a3 : Addr) =>
 .check (shiftTo q 1) [vS l3] <|
 .append 1 24 [nS] l3 (⟨(some a3), 1, 1⟩) fun (l5 : Sl) =>
 sto q 1 [vS l5] <|
 .ret 0 [vI (addI .i64 r3.1 1)]) <|
 .ret 4 []) fun (u0 : Unit) =>
 .call (F_Text_Bytes S t) [tS] fun (r4 : Sl × Unit) =>
 .alloc [vS r4.1] fun (a4 : Addr) =>
 .alloc [nS] fun (a5 : Addr) =>
 .store (some a5) [(Value.slice (some a4) 1 1)] <|
 .load tI (shiftTo (some a1) 3) fun (n4 : Int) =>
 .call (F_Text_Chunks S t n4) [(Ty.one B.any)] fun (r5 : Value × Unit) =>
 thn 0 [] (grd (isFunc r5.1) <|
 ifB (notB (isNilFunc r5.1))
 (.callv r5.1 [(Value.func (Fn.func S.f_quiet_ask_1) #[] (#[vP (some a5)]))] [] fun (u1 : Unit) =>
 .ret 0 []) <|
 .ret 0 []) fun (u2 : Unit) =>
 .load tS (some a5) fun (l6 : Sl) =>
 thn 6 [] (.loop [tI] ((0 : Int), ()) fun (r6 : Int × Unit) =>
 ifB (ltI r6.1 (natI l6.len))
 (atx tS l6 r6.1 1 fun (l7 : Sl) =>
 fld tS q 2 fun (l8 : Sl) =>
 .alloc [vS l7] fun (a6 : Addr) =>
 .append 1 24 [nS] l8 (⟨(some a6), 1, 1⟩) fun (l9 : Sl) =>
 sto q 2 [vS l9] <|
 fld tS q 3 fun (l10 : Sl) =>
 .append 1 1 [vU 0] (⟨none, 0, 0⟩) l7 fun (l11 : Sl) =>
 .check (shiftTo q 3) [vS l10] <|
 .alloc [vS l11] fun (a7 : Addr) =>
 .check (shiftTo q 3) [vS l10] <|
 .append 1 24 [nS] l10 (⟨(some a7), 1, 1⟩) fun (l12 : Sl) =>
 sto q 3 [vS l12] <|
 .ret 0 [vI (addI .i64 r6.1 1)]) <|
 .ret 6 []) fun (u3 : Unit) =>
 .ret 0 [vI (addI .i64 r0.1 1)]) <|
 .ret 2 []) fun (u4 : Unit) =>
 .ret 0 []
def F_law5_reach (S : Ids) (n : Int) : Prog :=
 ifB (ltI n 8)
 (.ret 0 [vI 70000]) <|
 ifB (ltI n 40)
 (.ret 0 [vI 5000]) <|
 .ret 0 [vI 100]
def F_shelf_put (S : Ids) (s : OA) (l : Sl) : Prog :=
 fld tS s 0 fun (l1 : Sl) =>
 thn 2 [] (.loop [tI] ((0 : Int), ()) fun (r0 : Int × Unit) =>
 ifB (ltI r0.1 (natI l.len))
 (grd (andB (someB l.base) (inB r0.1 l.len)) <|
 .store (shiftTo l.base (mulN (toN r0.1) 1)) [vI (addI .i64 1000 (natI l1.len))] <|
 .ret 0 [vI (addI .i64 r0.1 1)]) <|
 .ret 2 []) fun (u0 : Unit) =>
 .alloc [vI (addI .i64 1000 (natI l1.len))] fun (a0 : Addr) =>
 .append 1 8 [vI 0] l (⟨(some a0), 1, 1⟩) fun (l0 : Sl) =>
 .alloc [vI (addI .i64 1000 (natI l1.len)), vI (addI .i64 1000 (natI l1.len))] fun (a1 : Addr) =>
 .append 1 8 [vI 0] l (⟨(some a1), 2, 2⟩) fun (l2 : Sl) =>
 .alloc [vI (addI .i64 1000 (natI l1.len)), vI (addI .i64 1000 (natI l1.len)), vI (addI .i64 1000 (natI l1.len))] fun (a2 : Addr) =>
 .append 1 8 [vI 0] l (⟨(some a2), 3, 3⟩) fun (l3 : Sl) =>
 fld tS s 0 fun (l4 : Sl) =>
 .call (F_law5_reach S (natI l4.len)) [tI] fun (r1 : Int × Unit) =>
 thn 4 [tS] (.loop [tS, tI] (l3, (r1.1, ())) fun (r2 : Sl × Int × Unit) =>
 ifB (gtI r2.2.1 0)
 (.alloc [vI (addI .i64 1000 (natI l1.len))] fun (a3 : Addr) =>
 .append 1 8 [vI 0] r2.1 (⟨(some a3), 1, 1⟩) fun (l5 : Sl) =>
 .ret 0 [vS l5, vI (subI .i64 r2.2.1 1)]) <|
 .ret 4 [vS r2.1]) fun (r3 : Sl × Unit) =>
 fld tS s 0 fun (l6 : Sl) =>
 .alloc [vS l, vS l0, vS l2, vS r3.1] fun (a4 : Addr) =>
 .append 1 24 [nS] l6 (⟨(some a4), 4, 4⟩) fun (l7 : Sl) =>
 sto s 0 [vS l7] <|
 fld tS s 2 fun (l8 : Sl) =>
 .alloc [vI (addI .i64 1000 (natI l1.len)), vI (addI .i64 1000 (natI l1.len)), vI (addI .i64 1000 (natI l1.len)), vI (addI .i64 1000 (natI l1.len))] fun (a5 : Addr) =>
 .append 1 8 [vI 0] l8 (⟨(some a5), 4, 4⟩) fun (l9 : Sl) =>
 sto s 2 [vS l9] <|
 .ret 0 []
def F_shelf_putBytes (S : Ids) (s : OA) (l : Sl) : Prog :=
 fld tS s 1 fun (l1 : Sl) =>
 grd (notB false) <|
 grd (notB false) <|
 thn 2 [] (.loop [tI] ((0 : Int), ()) fun (r0 : Int × Unit) =>
 ifB (ltI r0.1 (natI l.len))
 (grd (andB (someB l.base) (inB r0.1 l.len)) <|
 .store (shiftTo l.base (mulN (toN r0.1) 1)) [vU (wrapI .u8 (addI .i64 1 (remI .i64 (quoI .i64 (natI l1.len) 4) 250)))] <|
 .ret 0 [vI (addI .i64 r0.1 1)]) <|
 .ret 2 []) fun (u0 : Unit) =>
 .alloc [vU (wrapI .u8 (addI .i64 1 (remI .i64 (quoI .i64 (natI l1.len) 4) 250)))] fun (a0 : Addr) =>
 .append 1 1 [vU 0] l (⟨(some a0), 1, 1⟩) fun (l0 : Sl) =>
 .alloc [vU (wrapI .u8 (addI .i64 1 (remI .i64 (quoI .i64 (natI l1.len) 4) 250))), vU (wrapI .u8 (addI .i64 1 (remI .i64 (quoI .i64 (natI l1.len) 4) 250)))] fun (a1 : Addr) =>
 .append 1 1 [vU 0] l (⟨(some a1), 2, 2⟩) fun (l2 : Sl) =>
 .alloc [vU (wrapI .u8 (addI .i64 1 (remI .i64 (quoI .i64 (natI l1.len) 4) 250))), vU (wrapI .u8 (addI .i64 1 (remI .i64 (quoI .i64 (natI l1.len) 4) 250))), vU (wrapI .u8 (addI .i64 1 (remI .i64 (quoI .i64 (natI l1.len) 4) 250)))] fun (a2 : Addr) =>
 .append 1 1 [vU 0] l (⟨(some a2), 3, 3⟩) fun (l3 : Sl) =>
 fld tS s 1 fun (l4 : Sl) =>
 .call (F_law5_reach S (natI l4.len)) [tI] fun (r1 : Int × Unit) =>
 thn 4 [tS] (.loop [tS, tI] (l3, (r1.1, ())) fun (r2 : Sl × Int × Unit) =>
 ifB (gtI r2.2.1 0)
 (.alloc [vU (wrapI .u8 (addI .i64 1 (remI .i64 (quoI .i64 (natI l1.len) 4) 250)))] fun (a3 : Addr) =>
 .append 1 1 [vU 0] r2.1 (⟨(some a3), 1, 1⟩) fun (l5 : Sl) =>
 .ret 0 [vS l5, vI (subI .i64 r2.2.1 1)]) <|
 .ret 4 [vS r2.1]) fun (r3 : Sl × Unit) =>
 fld tS s 1 fun (l6 : Sl) =>
 .alloc [vS l, vS l0, vS l2, vS r3.1] fun (a4 : Addr) =>
 .append 1 24 [nS] l6 (⟨(some a4), 4, 4⟩) fun (l7 : Sl) =>
 sto s 1 [vS l7] <|
 fld tS s 3 fun (l8 : Sl) =>
 .alloc [vU (wrapI .u8 (addI .i64 1 (remI .i64 (quoI .i64 (natI l1.len) 4) 250))), vU (wrapI .u8 (addI .i64 1 (remI .i64 (quoI .i64 (natI l1.len) 4) 250))), vU (wrapI .u8 (addI .i64 1 (remI .i64 (quoI .i64 (natI l1.len) 4) 250))), vU (wrapI .u8 (addI .i64 1 (remI .i64 (quoI .i64 (natI l1.len) 4) 250)))] fun (a5 : Addr) =>
 .append 1 1 [vU 0] l8 (⟨(some a5), 4, 4⟩) fun (l9 : Sl) =>
 sto s 3 [vS l9] <|
 .ret 0 []
def F_shelf_handOut (S : Ids) (s : OA) (t : OA) (h : (Int × Int × Int × Int × Sl × Unit)) : Prog :=
 .alloc [vP s] fun (a1 : Addr) =>
 .alloc [vI h.1, vI h.2.1, vI h.2.2.1, vI h.2.2.2.1, vS h.2.2.2.2.1] fun (a2 : Addr) =>
 .load tP (some a1) fun (p3 : OA) =>
 .load tI (shiftTo (some a2) 1) fun (n4 : Int) =>
 .load tI (shiftTo (some a2) 2) fun (n5 : Int) =>
 .call (F_Text_Atoms S t n4 n5) [tS] fun (r6 : Sl × Unit) =>
 .check (some a1) [vP p3] <|
 .call (F_shelf_put S p3 r6.1) [] fun (u7 : Unit) =>
 .load tP (some a1) fun (p8 : OA) =>
 .load tI (shiftTo (some a2) 1) fun (n9 : Int) =>
 .load tI (shiftTo (some a2) 2) fun (n0 : Int) =>
 .call (F_Text_Tags S t n9 n0) [tS] fun (r0 : Sl × Unit) =>
 .check (some a1) [vP p8] <|
 .call (F_shelf_put S p8 r0.1) [] fun (u0 : Unit) =>
 .load tP (some a1) fun (p0 : OA) =>
 .call (F_Text_Bytes S t) [tS] fun (r1 : Sl × Unit) =>
 .check (some a1) [vP p0] <|
 .call (F_shelf_putBytes S p0 r1.1) [] fun (u1 : Unit) =>
 .load tI (shiftTo (some a2) 3) fun (n1 : Int) =>
 .call (F_Text_Chunks S t n1) [(Ty.one B.any)] fun (r2 : Value × Unit) =>
 .alloc [vI 0] fun (a0 : Addr) =>
 .store (some a0) [vI 0] <|
 grd (isFunc r2.1) <|
 ifB (notB (isNilFunc r2.1))
 (.callv r2.1 [(Value.func (Fn.func S.f_shelf_handOut_1) #[] (#[vP (some a1), vP (some a0)]))] [] fun (u2 : Unit) =>
 .ret 0 []) <|
 .ret 0 []
def F_shelf_whole (S : Ids) (s : OA) : Prog :=
 .bind
 (.loop [tI] ((0 : Int), ()) fun (r0 : Int × Unit) =>
 fld tS s 0 fun (l0 : Sl) =>
 ifB (ltI r0.1 (natI l0.len))
 (.bind
 (.loop [tI] ((0 : Int), ()) fun (r1 : Int × Unit) =>
 fld tS s 0 fun (l1 : Sl) =>
 atx tS l1 r0.1 1 fun (l2 : Sl) =>
 ifB (ltI r1.1 (natI l2.len))
 (fld tS s 0 fun (l3 : Sl) =>
 atx tS l3 r0.1 1 fun (l4 : Sl) =>
 atx tI l4 r1.1 1 fun (n0 : Int) =>
 fld tS s 2 fun (l5 : Sl) =>
 atx tI l5 r0.1 1 fun (n1 : Int) =>
 ifB (neI n0 n1)
 (.ret 1 [vB false]) <|
 .ret 0 [vI (addI .i64 r1.1 1)]) <|
 .ret 4 []) fun (k0 : Nat) =>
 fun (v0 : List Value) =>
 ifB (eqN k0 4)
 (.cast [] v0 fun (u0 : Unit) =>
 .ret 0 [vI (addI .i64 r0.1 1)]) <|
 ifB (eqN k0 1)
 (.cast [tB] v0 fun (r2 : Bool × Unit) =>
 .ret 1 [vB r2.1]) <|
 .fail) <|
 .ret 2 []) fun (k1 : Nat) =>
 fun (v1 : List Value) =>
 ifB (eqN k1 2)
 (.cast [] v1 fun (u1 : Unit) =>
 .bind
 (.loop [tI] ((0 : Int), ()) fun (r3 : Int × Unit) =>
 fld tS s 1 fun (l6 : Sl) =>
 ifB (ltI r3.1 (natI l6.len))
 (.bind
 (.loop [tI] ((0 : Int), ()) fun (r4 : Int × Unit) =>
 fld tS s 1 fun (l7 : Sl) =>
 atx tS l7 r3.1 1 fun (l8 : Sl) =>
 ifB (ltI r4.1 (natI l8.len))
 (fld tS s 1 fun (l9 : Sl) =>
 atx tS l9 r3.1 1 fun (l10 : Sl) =>
 atx tU l10 r4.1 1 fun (n2 : Int) =>
 fld tS s 3 fun (l11 : Sl) =>
 atx tU l11 r3.1 1 fun (n3 : Int) =>
 ifB (neI n2 n3)
 (.ret 1 [vB false]) <|
 .ret 0 [vI (addI .i64 r4.1 1)]) <|
 .ret 8 []) fun (k2 : Nat) =>
 fun (v2 : List Value) =>
 ifB (eqN k2 8)
 (.cast [] v2 fun (u2 : Unit) =>
 .ret 0 [vI (addI .i64 r3.1 1)]) <|
 ifB (eqN k2 1)
 (.cast [tB] v2 fun (r5 : Bool × Unit) =>
 .ret 1 [vB r5.1]) <|
 .fail) <|
 .ret 6 []) fun (k3 : Nat) =>
 fun (v3 : List Value) =>
 ifB (eqN k3 6)
 (.cast [] v3 fun (u3 : Unit) =>
 .ret 0 [vB true]) <|
 ifB (eqN k3 1)
 (.cast [tB] v3 fun (r6 : Bool × Unit) =>
 .ret 0 [vB r6.1]) <|
 .fail) <|
 ifB (eqN k1 1)
 (.cast [tB] v1 fun (r7 : Bool × Unit) =>
 .ret 0 [vB r7.1]) <|
 .fail
def F_quiet_whole (S : Ids) (q : OA) : Prog :=
 .alloc [nS, nS, nS, nS] fun (a1 : Addr) =>
 .bind
 (.loop [tI] ((0 : Int), ()) fun (r0 : Int × Unit) =>
 fld tS q 0 fun (l0 : Sl) =>
 ifB (ltI r0.1 (natI l0.len))
 (fld tS q 0 fun (l1 : Sl) =>
 atx tS l1 r0.1 1 fun (l2 : Sl) =>
 fld tS q 1 fun (l3 : Sl) =>
 atx tS l3 r0.1 1 fun (l4 : Sl) =>
 .call (F_law5_sameInts S l2 l4) [tB] fun (r1 : Bool × Unit) =>
 ifB (notB r1.1)
 (.ret 1 [vB false]) <|
 .ret 0 [vI (addI .i64 r0.1 1)]) <|
 .ret 2 []) fun (k0 : Nat) =>
 fun (v0 : List Value) =>
 ifB (eqN k0 2)
 (.cast [] v0 fun (u0 : Unit) =>
 .bind
 (.loop [tI] ((0 : Int), ()) fun (r2 : Int × Unit) =>
 fld tS q 2 fun (l5 : Sl) =>
 ifB (ltI r2.1 (natI l5.len))
 (fld tS q 2 fun (l6 : Sl) =>
 atx tS l6 r2.1 1 fun (l7 : Sl) =>
 fld tS q 3 fun (l8 : Sl) =>
 atx tS l8 r2.1 1 fun (l9 : Sl) =>
 .call (F_law5_sameBytes S l7 l9) [tB] fun (r3 : Bool × Unit) =>
 ifB (notB r3.1)
 (.ret 1 [vB false]) <|
 .ret 0 [vI (addI .i64 r2.1 1)]) <|
 .ret 4 []) fun (k1 : Nat) =>
 fun (v1 : List Value) =>
 ifB (eqN k1 4)
 (.cast [] v1 fun (u1 : Unit) =>
 thn 6 [] (.loop [tI] ((0 : Int), ()) fun (r4 : Int × Unit) =>
 fld tS q 0 fun (l10 : Sl) =>
 ifB (ltI r4.1 (natI l10.len))
 (fld tS q 0 fun (l11 : Sl) =>
 atx tS l11 r4.1 1 fun (l12 : Sl) =>
 .call (F_shelf_put S (some a1) l12) [] fun (u2 : Unit) =>
 .ret 0 [vI (addI .i64 r4.1 1)]) <|
 .ret 6 []) fun (u3 : Unit) =>
 thn 8 [] (.loop [tI] ((0 : Int), ()) fun (r5 : Int × Unit) =>
 fld tS q 2 fun (l13 : Sl) =>
 ifB (ltI r5.1 (natI l13.len))
 (fld tS q 2 fun (l14 : Sl) =>
 atx tS l14 r5.1 1 fun (l15 : Sl) =>
 .call (F_shelf_putBytes S (some a1) l15) [] fun (u4 : Unit) =>
 .ret 0 [vI (addI .i64 r5.1 1)]) <|
 .ret 8 []) fun (u5 : Unit) =>
 .call (F_shelf_whole S (some a1)) [tB] fun (r6 : Bool × Unit) =>
 .ret 0 [vB r6.1]) <|
 ifB (eqN k1 1)
 (.cast [tB] v1 fun (r7 : Bool × Unit) =>
 .ret 0 [vB r7.1]) <|
 .fail) <|
 ifB (eqN k0 1)
 (.cast [tB] v0 fun (r8 : Bool × Unit) =>
 .ret 0 [vB r8.1]) <|
 .fail
def F_law5_PieceApart (S : Ids) (enc : Int) (loaded : Sl) (hands : Sl) : Prog :=
 .call (F_law5_able S) [tB] fun (r1 : Bool × Unit) =>
 ifB (notB r1.1)
 (.ret 0 [vB false]) <|
 thn 0 [tB] (.call (F_law5_known S enc loaded) [tB] fun (r0 : Bool × Unit) =>
 ifB (notB r0.1)
 (.ret 0 [vB true]) <|
 .ret 0 [vB (gtI (natI hands.len) 100)]) fun (r2 : Bool × Unit) =>
 ifB r2.1
 (.ret 0 [vB true]) <|
 .append 1 1 [vU 0] (⟨none, 0, 0⟩) loaded fun (l0 : Sl) =>
 .call (F_piece_Open S enc l0 (Int.ofNat 65536)) [tP, tI] fun (r3 : OA × Int × Unit) =>
 .call (F_piece_Open S enc l0 (Int.ofNat 65536)) [tP, tI] fun (r4 : OA × Int × Unit) =>
 thn 0 [tB] (ifB (noneB r3.1)
 (.ret 0 [vB true]) <|
 ifB (noneB r4.1)
 (.ret 0 [vB true]) <|
 ifB (neI r3.2.1 0)
 (.ret 0 [vB true]) <|
 ifB (neI r4.2.1 0)
 (.ret 0 [vB true]) <|
 .call (F_law5_sameBytes S l0 loaded) [tB] fun (r5 : Bool × Unit) =>
 .ret 0 [vB (notB r5.1)]) fun (r6 : Bool × Unit) =>
 ifB r6.1
 (.ret 0 [vB false]) <|
 thn 2 [] (.loop [tI] ((0 : Int), ()) fun (r7 : Int × Unit) =>
 ifB (ltI r7.1 (natI l0.len))
 (grd (andB (someB l0.base) (inB r7.1 l0.len)) <|
 .store (shiftTo l0.base (mulN (toN r7.1) 1)) [vU 1] <|
 .ret 0 [vI (addI .i64 r7.1 1)]) <|
 .ret 2 []) fun (u0 : Unit) =>
 .call (F_piece_Open S enc l0 (Int.ofNat 65536)) [tP, tI] fun (r8 : OA × Int × Unit) =>
 thn 0 [tB] (ifB (noneB r8.1)
 (.ret 0 [vB true]) <|
 ifB (neI r8.2.1 0)
 (.ret 0 [vB true]) <|
 .call (F_Text_Bytes S r8.1) [tS] fun (r9 : Sl × Unit) =>
 .call (F_law5_sameBytes S r9.1 l0) [tB] fun (r10 : Bool × Unit) =>
 ifB (notB r10.1)
 (.ret 0 [vB true]) <|
 .call (F_Text_Bytes S r3.1) [tS] fun (r11 : Sl × Unit) =>
 .call (F_law5_sameBytes S r11.1 loaded) [tB] fun (r12 : Bool × Unit) =>
 ifB (notB r12.1)
 (.ret 0 [vB true]) <|
 .call (F_Text_Bytes S r4.1) [tS] fun (r13 : Sl × Unit) =>
 .call (F_law5_sameBytes S r13.1 loaded) [tB] fun (r14 : Bool × Unit) =>
 .ret 0 [vB (notB r14.1)]) fun (r15 : Bool × Unit) =>
 ifB r15.1
 (.ret 0 [vB false]) <|
 .alloc [vP none, vP none] fun (a0 : Addr) =>
 .store (some a0) [vP r3.1, vP r4.1] <|
 .alloc [nS, nS, nS, nS] fun (a1 : Addr) =>
 .alloc [nS, nS, nS, nS] fun (a2 : Addr) =>
 .alloc [nS, nS] fun (a3 : Addr) =>
 .bind
 (.loop [tI] ((0 : Int), ()) fun (r16 : Int × Unit) =>
 ifB (ltI r16.1 (natI hands.len))
 (atx (Ty.agg [bI, bI, bI, bI, B.sl]) hands r16.1 5 fun (r17 : Int × Int × Int × Int × Sl × Unit) =>
 .alloc [vI 0, vI 0, vI 0, vI 0, nS] fun (a4 : Addr) =>
 .store (some a4) [vI r17.1, vI r17.2.1, vI r17.2.2.1, vI r17.2.2.2.1, vS r17.2.2.2.2.1] <|
 .load tI (shiftTo (some a4) 0) fun (n0 : Int) =>
 grd (inB (subI .i64 1 (andI .i64 n0 1)) 2) <|
 .load tP (shiftTo (some a0) (mulN (toN (subI .i64 1 (andI .i64 n0 1))) 1)) fun (p0 : OA) =>
 .call (F_law5_see S p0) [(Ty.agg [B.sl, B.sl, B.sl])] fun (r18 : ((Sl × Sl × Sl × Unit) × Unit)) =>
 .alloc [nS, nS, nS] fun (a5 : Addr) =>
 .store (some a5) [vS r18.1.1, vS r18.1.2.1, vS r18.1.2.2.1] <|
 grd (inB (andI .i64 n0 1) 2) <|
 .load tP (shiftTo (some a0) (mulN (toN (andI .i64 n0 1)) 1)) fun (p1 : OA) =>
 .load tS (shiftTo (some a4) 4) fun (l1 : Sl) =>
 .call (F_law5_written S p1 (some a3) l1) [tI, tB] fun (r19 : Int × Bool × Unit) =>
 ifB (notB r19.2.1)
 (.ret 1 [vB false]) <|
 grd (inB (andI .i64 n0 1) 2) <|
 .load tP (shiftTo (some a0) (mulN (toN (andI .i64 n0 1)) 1)) fun (p2 : OA) =>
 .call (F_law5_see S p2) [(Ty.agg [B.sl, B.sl, B.sl])] fun (r20 : ((Sl × Sl × Sl × Unit) × Unit)) =>
 .call (F_law5_copied S (r20.1.1, (r20.1.2.1, (r20.1.2.2.1, ())))) [(Ty.agg [B.sl, B.sl, B.sl])] fun (r21 : ((Sl × Sl × Sl × Unit) × Unit)) =>
 .alloc [nS, nS, nS] fun (a6 : Addr) =>
 .store (some a6) [vS r21.1.1, vS r21.1.2.1, vS r21.1.2.2.1] <|
 thn 0 [] (ifB (ltI r16.1 20)
 (grd (inB (andI .i64 n0 1) 2) <|
 .load tP (shiftTo (some a0) (mulN (toN (andI .i64 n0 1)) 1)) fun (p3 : OA) =>
 .load (Ty.agg [bI, bI, bI, bI, B.sl]) (some a4) fun (r22 : Int × Int × Int × Int × Sl × Unit) =>
 .call (F_quiet_ask S (some a2) p3 (r22.1, (r22.2.1, (r22.2.2.1, (r22.2.2.2.1, (r22.2.2.2.2.1, ())))))) [] fun (u1 : Unit) =>
 .ret 0 []) <|
 .ret 0 []) fun (u2 : Unit) =>
 grd (inB (andI .i64 n0 1) 2) <|
 .load tP (shiftTo (some a0) (mulN (toN (andI .i64 n0 1)) 1)) fun (p4 : OA) =>
 .load (Ty.agg [bI, bI, bI, bI, B.sl]) (some a4) fun (r23 : Int × Int × Int × Int × Sl × Unit) =>
 .call (F_shelf_handOut S (some a1) p4 (r23.1, (r23.2.1, (r23.2.2.1, (r23.2.2.2.1, (r23.2.2.2.2.1, ())))))) [] fun (u3 : Unit) =>
 thn 0 [tB] (grd (inB (andI .i64 n0 1) 2) <|
 .load tP (shiftTo (some a0) (mulN (toN (andI .i64 n0 1)) 1)) fun (p5 : OA) =>
 .load (Ty.agg [B.sl, B.sl, B.sl]) (some a6) fun (r24 : Sl × Sl × Sl × Unit) =>
 .call (F_law5_see S p5) [(Ty.agg [B.sl, B.sl, B.sl])] fun (r25 : ((Sl × Sl × Sl × Unit) × Unit)) =>
 .check (some a6) [vS r24.1, vS r24.2.1, vS r24.2.2.1] <|
 .call (F_seen_same S (r25.1.1, (r25.1.2.1, (r25.1.2.2.1, ()))) (r24.1, (r24.2.1, (r24.2.2.1, ())))) [tB] fun (r26 : Bool × Unit) =>
 ifB (notB r26.1)
 (.ret 0 [vB true]) <|
 grd (inB (subI .i64 1 (andI .i64 n0 1)) 2) <|
 .load tP (shiftTo (some a0) (mulN (toN (subI .i64 1 (andI .i64 n0 1))) 1)) fun (p6 : OA) =>
 .load (Ty.agg [B.sl, B.sl, B.sl]) (some a5) fun (r27 : Sl × Sl × Sl × Unit) =>
 .call (F_law5_see S p6) [(Ty.agg [B.sl, B.sl, B.sl])] fun (r28 : ((Sl × Sl × Sl × Unit) × Unit)) =>
 .check (some a5) [vS r27.1, vS r27.2.1, vS r27.2.2.1] <|
 .call (F_seen_same S (r28.1.1, (r28.1.2.1, (r28.1.2.2.1, ()))) (r27.1, (r27.2.1, (r27.2.2.1, ())))) [tB] fun (r29 : Bool × Unit) =>
 ifB (notB r29.1)
 (.ret 0 [vB true]) <|
 .call (F_shelf_whole S (some a1)) [tB] fun (r30 : Bool × Unit) =>
 .ret 0 [vB (notB r30.1)]) fun (r31 : Bool × Unit) =>
 ifB r31.1
 (.ret 1 [vB false]) <|
 .ret 0 [vI (addI .i64 r16.1 1)]) <|
 .ret 4 []) fun (k0 : Nat) =>
 fun (v0 : List Value) =>
 ifB (eqN k0 4)
 (.cast [] v0 fun (u4 : Unit) =>
 thn 0 [tB] (.call (F_quiet_whole S (some a2)) [tB] fun (r32 : Bool × Unit) =>
 ifB r32.1
 (.call (F_shelf_whole S (some a1)) [tB] fun (r33 : Bool × Unit) =>
 .ret 0 [vB r33.1]) <|
 .ret 0 [vB false]) fun (r34 : Bool × Unit) =>
 .ret 0 [vB r34.1]) <|
 ifB (eqN k0 1)
 (.cast [tB] v0 fun (r35 : Bool × Unit) =>
 .ret 0 [vB r35.1]) <|
 .fail
def F_law5_ranged (S : Ids) (chunks : Value) : Prog :=
 .alloc [nS] fun (a1 : Addr) =>
 .callv chunks [(Value.func (Fn.func S.f_law5_ranged_1) #[] (#[vP (some a1)]))] [] fun (u2 : Unit) =>
 .load tS (some a1) fun (l3 : Sl) =>
 .ret 0 [vS l3]
def F_law5_begun (S : Ids) (chunks : Value) (most : Int) : Prog :=
 .alloc [vI most] fun (a1 : Addr) =>
 .alloc [nS] fun (a2 : Addr) =>
 .alloc [vI 0] fun (a3 : Addr) =>
 .store (some a3) [vI 0] <|
 .alloc [vB false] fun (a4 : Addr) =>
 .store (some a4) [vB true] <|
 .callv chunks [(Value.func (Fn.func S.f_law5_begun_1) #[] (#[vP (some a3), vP (some a1), vP (some a4), vP (some a2)]))] [] fun (u5 : Unit) =>
 .load tS (some a2) fun (l6 : Sl) =>
 .load tB (some a4) fun (b7 : Bool) =>
 .ret 0 [vS l6, vB b7]
def F_law5_PieceFlow_1 (S : Ids) (c : Sl) (x1 : OA) (x2 : OA) (x3 : OA) (x4 : OA) (x5 : OA) (x6 : OA) (x7 : OA) (x8 : OA) (x9 : OA) (x10 : OA) : Prog :=
 thn 0 [] (thn 0 [tB] (.load tB x1 fun (b0 : Bool) =>
 ifB b0
 (.ret 0 [vB true]) <|
 ifB (eqI (natI c.len) 0)
 (.ret 0 [vB true]) <|
 .load tI x2 fun (n0 : Int) =>
 .ret 0 [vB (gtI (natI c.len) n0)]) fun (r0 : Bool × Unit) =>
 ifB r0.1
 (.store x3 [vB false] <|
 .ret 0 []) <|
 .ret 0 []) fun (u0 : Unit) =>
 .load tI x2 fun (n1 : Int) =>
 .store x1 [vB (ltI (natI c.len) n1)] <|
 .load tS x4 fun (l0 : Sl) =>
 .append 1 1 [vU 0] l0 c fun (l1 : Sl) =>
 .store x4 [vS l1] <|
 thn 2 [] (.loop [tI] ((0 : Int), ()) fun (r1 : Int × Unit) =>
 ifB (ltI r1.1 (natI c.len))
 (.load tI x5 fun (n2 : Int) =>
 grd (andB (someB c.base) (inB r1.1 c.len)) <|
 .store (shiftTo c.base (mulN (toN r1.1) 1)) [vU (wrapI .u8 (addI .i64 r1.1 n2))] <|
 .ret 0 [vI (addI .i64 r1.1 1)]) <|
 .ret 2 []) fun (u1 : Unit) =>
 thn 0 [] (.load tI x5 fun (n3 : Int) =>
 .load tI x6 fun (n4 : Int) =>
 ifB (eqI n3 n4)
 (.load (Ty.one B.any) x7 fun (c0 : Value) =>
 .call (F_law5_ranged S c0) [tS] fun (r2 : Sl × Unit) =>
 .load (Ty.one B.any) x7 fun (c1 : Value) =>
 .call (F_law5_begun S c1 (Int.ofNat 1)) [tS, tB] fun (r3 : Sl × Bool × Unit) =>
 .load tP x8 fun (p0 : OA) =>
 .load tS x9 fun (l2 : Sl) =>
 .call (F_law5_changed S p0 l2) [tI, tB] fun (r4 : Int × Bool × Unit) =>
 .load (Ty.one B.any) x7 fun (c2 : Value) =>
 .call (F_law5_ranged S c2) [tS] fun (r5 : Sl × Unit) =>
 .load (Ty.one B.any) x7 fun (c3 : Value) =>
 .call (F_law5_begun S c3 (Int.ofNat 2)) [tS, tB] fun (r6 : Sl × Bool × Unit) =>
 .load tI x2 fun (n5 : Int) =>
 .load tS x10 fun (l3 : Sl) =>
 thn 0 [] (.load tB x3 fun (b1 : Bool) =>
 ifB b1
 (ifB r3.2.1
 (ifB r6.2.1
 (.load tS x10 fun (l4 : Sl) =>
 .call (F_law5_sameBytes S r2.1 l4) [tB] fun (r7 : Bool × Unit) =>
 ifB r7.1
 (.load tS x10 fun (l5 : Sl) =>
 .call (F_law5_sameBytes S r5.1 l5) [tB] fun (r8 : Bool × Unit) =>
 ifB r8.1
 (.load tS x10 fun (l6 : Sl) =>
 grd (leB (minI n5 (natI l3.len)) l6.cap) <|
 .call (F_law5_sameBytes S r3.1 (⟨(cutBase l6.base l6.cap 0 1), (subN (toN (minI n5 (natI l3.len))) 0), (subN l6.cap 0)⟩)) [tB] fun (r9 : Bool × Unit) =>
 ifB r9.1
 (.load tS x10 fun (l7 : Sl) =>
 .load tS x10 fun (l8 : Sl) =>
 grd (leB (minI (mulI .i64 2 (minI n5 (natI l3.len))) (natI l8.len)) l7.cap) <|
 .call (F_law5_sameBytes S r6.1 (⟨(cutBase l7.base l7.cap 0 1), (subN (toN (minI (mulI .i64 2 (minI n5 (natI l3.len))) (natI l8.len))) 0), (subN l7.cap 0)⟩)) [tB] fun (r10 : Bool × Unit) =>
 .store x3 [vB r10.1] <|
 .ret 0 []) <|
 .store x3 [vB false] <|
 .ret 0 []) <|
 .store x3 [vB false] <|
 .ret 0 []) <|
 .store x3 [vB false] <|
 .ret 0 []) <|
 .store x3 [vB false] <|
 .ret 0 []) <|
 .store x3 [vB false] <|
 .ret 0 []) <|
 .store x3 [vB false] <|
 .ret 0 []) fun (u2 : Unit) =>
 .ret 0 []) <|
 .ret 0 []) fun (u3 : Unit) =>
 .load tI x5 fun (n6 : Int) =>
 .store x5 [vI (addI .i64 n6 1)] <|
 .load tB x3 fun (b2 : Bool) =>
 .ret 0 [vB b2]
def F_Text_Chunks_1 (S : Ids) (yield : Value) (x1 : OA) (x2 : OA) : Prog :=
 grd (flatB yield) <|
 .alloc [yield] fun (a1 : Addr) =>
 .load tI x1 fun (n2 : Int) =>
 ifB (ltI n2 1)
 (.ret 0 []) <|
 .alloc [nS] fun (a3 : Addr) =>
 .load (Ty.agg [B.ptr]) x2 fun (r4 : OA × Unit) =>
 .call (F_Tree_part_Items S (r4.1, ()) (Int.ofNat 0)) [(Ty.one B.any)] fun (r5 : Value × Unit) =>
 .range r5.1 [(Ty.agg b7)] [tP] (fun (r6 : d7 × Unit) =>
 .alloc z7 fun (a7 : Addr) =>
 .store (some a7) (Bs.inj b7 r6.1) <|
 .ret 0 [vP (some a7)]) (fun (r8 : OA × Unit) =>
 grd (someB r8.1) <|
 .load tS (shiftTo r8.1 0) fun (l9 : Sl) =>
 .bind
 (.loop [tS] (l9, ()) fun (r0 : Sl × Unit) =>
 ifB (gtI (natI r0.1.len) 0)
 (.load tI x1 fun (n0 : Int) =>
 .load tS (some a3) fun (l0 : Sl) =>
 .load tS (some a3) fun (l1 : Sl) =>
 grd (leB (minI (subI .i64 n0 (natI l0.len)) (natI r0.1.len)) r0.1.cap) <|
 .append 1 1 [vU 0] l1 (⟨(cutBase r0.1.base r0.1.cap 0 1), (subN (toN (minI (subI .i64 n0 (natI l0.len)) (natI r0.1.len))) 0), (subN r0.1.cap 0)⟩) fun (l2 : Sl) =>
 .store (some a3) [vS l2] <|
 grd (leB (minI (subI .i64 n0 (natI l0.len)) (natI r0.1.len)) r0.1.len) <|
 .load tS (some a3) fun (l3 : Sl) =>
 .load tI x1 fun (n1 : Int) =>
 ifB (eqI (natI l3.len) n1)
 (.load (Ty.one B.any) (some a1) fun (c0 : Value) =>
 .load tS (some a3) fun (l4 : Sl) =>
 .callv c0 [vS l4] [tB] fun (r1 : Bool × Unit) =>
 ifB (notB r1.1)
 (.ret 1 []) <|
 .store (some a3) [nS] <|
 .ret 0 [(Value.slice (cutBase r0.1.base r0.1.cap (toN (minI (subI .i64 n0 (natI l0.len)) (natI r0.1.len))) 1) (subN r0.1.len (toN (minI (subI .i64 n0 (natI l0.len)) (natI r0.1.len)))) (subN r0.1.cap (toN (minI (subI .i64 n0 (natI l0.len)) (natI r0.1.len)))))]) <|
 .ret 0 [(Value.slice (cutBase r0.1.base r0.1.cap (toN (minI (subI .i64 n0 (natI l0.len)) (natI r0.1.len))) 1) (subN r0.1.len (toN (minI (subI .i64 n0 (natI l0.len)) (natI r0.1.len)))) (subN r0.1.cap (toN (minI (subI .i64 n0 (natI l0.len)) (natI r0.1.len)))))]) <|
 .ret 4 []) fun (k0 : Nat) =>
 fun (v0 : List Value) =>
 ifB (eqN k0 4)
 (.cast [] v0 fun (u0 : Unit) =>
 .ret 0 []) <|
 ifB (eqN k0 1)
 (.cast [] v0 fun (u1 : Unit) =>
 .ret 1 []) <|
 .fail) fun (k1 : Nat) =>
 ifB (eqN k1 1)
 (.ret 0 []) <|
 ifB (eqN k1 0)
 (.load tS (some a3) fun (l5 : Sl) =>
 ifB (gtI (natI l5.len) 0)
 (.load (Ty.one B.any) (some a1) fun (c1 : Value) =>
 .load tS (some a3) fun (l6 : Sl) =>
 .callv c1 [vS l6] [tB] fun (r2 : Bool × Unit) =>
 .ret 0 []) <|
 .ret 0 []) <|
 .fail
def F_law5_ranged_1 (S : Ids) (c : Sl) (x1 : OA) : Prog :=
 .load tS x1 fun (l1 : Sl) =>
 .append 1 1 [vU 0] l1 c fun (l2 : Sl) =>
 .store x1 [vS l2] <|
 thn 2 [] (.loop [tI] ((0 : Int), ()) fun (r9 : Int × Unit) =>
 ifB (ltI r9.1 (natI c.len))
 (grd (andB (someB c.base) (inB r9.1 c.len)) <|
 .store (shiftTo c.base (mulN (toN r9.1) 1)) [vU 77] <|
 .ret 0 [vI (addI .i64 r9.1 1)]) <|
 .ret 2 []) fun (u0 : Unit) =>
 .ret 0 [vB true]
def F_law5_begun_1 (S : Ids) (c : Sl) (x1 : OA) (x2 : OA) (x3 : OA) (x4 : OA) : Prog :=
 .load tI x1 fun (n1 : Int) =>
 .load tI x2 fun (n2 : Int) =>
 ifB (geI n1 n2)
 (.store x3 [vB false] <|
 .ret 0 [vB false]) <|
 .load tS x4 fun (l3 : Sl) =>
 .append 1 1 [vU 0] l3 c fun (l4 : Sl) =>
 .store x4 [vS l4] <|
 thn 2 [] (.loop [tI] ((0 : Int), ()) fun (r0 : Int × Unit) =>
 ifB (ltI r0.1 (natI c.len))
 (grd (andB (someB c.base) (inB r0.1 c.len)) <|
 .store (shiftTo c.base (mulN (toN r0.1) 1)) [vU 78] <|
 .ret 0 [vI (addI .i64 r0.1 1)]) <|
 .ret 2 []) fun (u0 : Unit) =>
 .load tI x1 fun (n0 : Int) =>
 .store x1 [vI (addI .i64 n0 1)] <|
 .load tI x1 fun (n3 : Int) =>
 .load tI x2 fun (n4 : Int) =>
 .ret 0 [vB (ltI n3 n4)]
def F_quiet_ask_1 (S : Ids) (c : Sl) (x1 : OA) : Prog :=
 .load tS x1 fun (l1 : Sl) =>
 .alloc [vS c] fun (a2 : Addr) =>
 .append 1 24 [nS] l1 (⟨(some a2), 1, 1⟩) fun (l3 : Sl) =>
 .store x1 [vS l3] <|
 .load tS x1 fun (l4 : Sl) =>
 .ret 0 [vB (ltI (natI l4.len) 4)]
def F_shelf_handOut_1 (S : Ids) (c : Sl) (x1 : OA) (x2 : OA) : Prog :=
 .load tP x1 fun (p1 : OA) =>
 .call (F_shelf_putBytes S p1 c) [] fun (u2 : Unit) =>
 .load tI x2 fun (n3 : Int) =>
 .store x2 [vI (addI .i64 n3 1)] <|
 .load tI x2 fun (n4 : Int) =>
 .ret 0 [vB (ltI n4 20)]
def F_Text_Atoms_1 (S : Ids) (atom : Int) (x1 : Int) (x2 : OA) : Prog :=
 .load tS x2 fun (l1 : Sl) =>
 .alloc [vI atom] fun (a2 : Addr) =>
 .append 1 8 [vI 0] l1 (⟨(some a2), 1, 1⟩) fun (l3 : Sl) =>
 .store x2 [vS l3] <|
 .ret 0 []
def F_Tree_part_Items_1 (S : Ids) (yield : Value) (x1 : OA) (x2 : OA) : Prog :=
 grd (flatB yield) <|
 .alloc [yield] fun (a1 : Addr) =>
 .alloc [Value.nilFunc] fun (a2 : Addr) =>
 .store (some a2) [(Value.func (Fn.func S.f_Tree_part_Items_1_1) #[] (#[vP (some a2), vP (some a1)]))] <|
 .load (Ty.one B.any) (some a2) fun (c3 : Value) =>
 grd (someB x1) <|
 .load tP (shiftTo x1 0) fun (p4 : OA) =>
 .load tI x2 fun (n5 : Int) =>
 .callv c3 [vP p4, vI (maxI 0 n5)] [tB] fun (r6 : Bool × Unit) =>
 .ret 0 []
def F_Tree_part_Items_1_1 (S : Ids) (n : OA) (from_ : Int) (x2 : OA) (x3 : OA) : Prog :=
 thn 0 [tB] (ifB (noneB n)
 (.ret 0 [vB true]) <|
 fld tI n 9 fun (n0 : Int) =>
 .ret 0 [vB (geI from_ n0)]) fun (r0 : Bool × Unit) =>
 ifB r0.1
 (.ret 0 [vB true]) <|
 fld tP n 0 fun (p0 : OA) =>
 .call (F_node_part_count S p0) [tI] fun (r1 : Int × Unit) =>
 thn 0 [tB] (ifB (ltI from_ r1.1)
 (.load (Ty.one B.any) x2 fun (c0 : Value) =>
 fld tP n 0 fun (p1 : OA) =>
 .callv c0 [vP p1, vI from_] [tB] fun (r2 : Bool × Unit) =>
 .ret 0 [vB (notB r2.1)]) <|
 .ret 0 [vB false]) fun (r3 : Bool × Unit) =>
 ifB r3.1
 (.ret 0 [vB false]) <|
 thn 0 [tB] (ifB (leI from_ r1.1)
 (.load (Ty.one B.any) x3 fun (c1 : Value) =>
 fld (Ty.agg b7) n 2 fun (r4 : d7) =>
 .callv c1 [(Value.agg (Bs.inj b7 r4).toArray)] [tB] fun (r5 : Bool × Unit) =>
 .ret 0 [vB (notB r5.1)]) <|
 .ret 0 [vB false]) fun (r6 : Bool × Unit) =>
 ifB r6.1
 (.ret 0 [vB false]) <|
 .load (Ty.one B.any) x2 fun (c2 : Value) =>
 fld tP n 1 fun (p2 : OA) =>
 .callv c2 [vP p2, vI (maxI 0 (subI .i64 (subI .i64 from_ r1.1) 1))] [tB] fun (r7 : Bool × Unit) =>
 .ret 0 [vB r7.1]
def F_Text_Tags_1 (S : Ids) (x0 : Int) (tag : Int) (x2 : OA) : Prog :=
 .load tS x2 fun (l1 : Sl) =>
 .alloc [vI tag] fun (a2 : Addr) =>
 .append 1 8 [vI 0] l1 (⟨(some a2), 1, 1⟩) fun (l3 : Sl) =>
 .store x2 [vS l3] <|
 .ret 0 []
def F_codec_bounds (S : Ids) (c : Int) : Prog :=
 ifB (ltI c 128)
 (.ret 0 [vI 1, vU 0, vU 0]) <|
 ifB (ltI c 194)
 (.ret 0 [vI 0, vU 0, vU 0]) <|
 ifB (ltI c 224)
 (.ret 0 [vI 2, vU 128, vU 191]) <|
 ifB (eqI c 224)
 (.ret 0 [vI 3, vU 160, vU 191]) <|
 ifB (eqI c 237)
 (.ret 0 [vI 3, vU 128, vU 159]) <|
 ifB (ltI c 240)
 (.ret 0 [vI 3, vU 128, vU 191]) <|
 ifB (eqI c 240)
 (.ret 0 [vI 4, vU 144, vU 191]) <|
 ifB (ltI c 244)
 (.ret 0 [vI 4, vU 128, vU 191]) <|
 ifB (eqI c 244)
 (.ret 0 [vI 4, vU 128, vU 143]) <|
 .ret 0 [vI 0, vU 0, vU 0]
def F_codec_row (S : Ids) (b : Sl) : Prog :=
 grd (andB (someB b.base) (inB 0 b.len)) <|
 .load tU (shiftTo b.base 0) fun (n1 : Int) =>
 .call (F_codec_bounds S n1) [tI, tU, tU] fun (r2 : Int × Int × Int × Unit) =>
 ifB (ltI r2.1 2)
 (.ret 0 [vI r2.1, vI r2.1]) <|
 thn 0 [tB] (ifB (ltI (natI b.len) 2)
 (.ret 0 [vB true]) <|
 grd (andB (someB b.base) (inB 1 b.len)) <|
 .load tU (shiftTo b.base 1) fun (n0 : Int) =>
 ifB (ltI n0 r2.2.1)
 (.ret 0 [vB true]) <|
 grd (andB (someB b.base) (inB 1 b.len)) <|
 .load tU (shiftTo b.base 1) fun (n2 : Int) =>
 .ret 0 [vB (gtI n2 r2.2.2.1)]) fun (r0 : Bool × Unit) =>
 ifB r0.1
 (.ret 0 [vI 1, vI r2.1]) <|
 thn 2 [tI] (.loop [tI] ((2 : Int), ()) fun (r1 : Int × Unit) =>
 thn 0 [tB] (ifB (ltI r1.1 r2.1)
 (ifB (ltI r1.1 (natI b.len))
 (atx tU b r1.1 1 fun (n3 : Int) =>
 .ret 0 [vB (eqI (andI .u8 n3 192) 128)]) <|
 .ret 0 [vB false]) <|
 .ret 0 [vB false]) fun (r3 : Bool × Unit) =>
 ifB r3.1
 (.ret 0 [vI (addI .i64 r1.1 1)]) <|
 .ret 2 [vI r1.1]) fun (r4 : Int × Unit) =>
 .ret 0 [vI r4.1, vI r2.1]
def F_eight_first (S : Ids) (x0 : (Unit)) (b : Sl) : Prog :=
 .alloc [] fun (a1 : Addr) =>
 .call (F_codec_row S b) [tI, tI] fun (r2 : Int × Int × Unit) =>
 thn 0 [tB] (ifB (eqI r2.2.1 0)
 (.ret 0 [vB true]) <|
 .ret 0 [vB (ltI r2.1 r2.2.1)]) fun (r0 : Bool × Unit) =>
 ifB r0.1
 (grd (andB (someB b.base) (inB 0 b.len)) <|
 .load tU (shiftTo b.base 0) fun (n0 : Int) =>
 .ret 0 [vI (subI .i64 (-1) (wrapI .i64 n0)), vI 1]) <|
 grd (andB (someB b.base) (inB 0 b.len)) <|
 .load tU (shiftTo b.base 0) fun (n1 : Int) =>
 thn 0 [tI] (ifB (eqI r2.2.1 2)
 (.ret 0 [vI (andI .i64 (wrapI .i64 n1) 31)]) <|
 ifB (eqI r2.2.1 3)
 (.ret 0 [vI (andI .i64 (wrapI .i64 n1) 15)]) <|
 ifB (eqI r2.2.1 4)
 (.ret 0 [vI (andI .i64 (wrapI .i64 n1) 7)]) <|
 .ret 0 [vI (wrapI .i64 n1)]) fun (r1 : Int × Unit) =>
 grd (andB (leB r2.2.1 b.cap) (leB 1 (toN r2.2.1))) <|
 thn 3 [tI] (.loop [tI, tI] (r1.1, ((0 : Int), ())) fun (r3 : Int × Int × Unit) =>
 ifB (ltI r3.2.1 (natI (subN (toN r2.2.1) 1)))
 (grd (andB (someB (cutBase b.base b.cap 1 1)) (inB r3.2.1 (subN (toN r2.2.1) 1))) <|
 .load tU (shiftTo (cutBase b.base b.cap 1 1) (mulN (toN r3.2.1) 1)) fun (n2 : Int) =>
 grd (notB false) <|
 .ret 0 [vI (orI .i64 (shlI .i64 r3.1 6) (wrapI .i64 (andI .u8 n2 63))), vI (addI .i64 r3.2.1 1)]) <|
 .ret 3 [vI r3.1]) fun (r4 : Int × Unit) =>
 .ret 0 [vI r4.1, vI r2.2.1]
def F_eight_size (S : Ids) (x0 : (Unit)) (a : Int) : Prog :=
 .alloc [] fun (a1 : Addr) =>
 thn 0 [tB] (ifB (ltI a (-256))
 (.ret 0 [vB true]) <|
 ifB (gtI a (-129))
 (ifB (ltI a 0)
 (.ret 0 [vB true]) <|
 ifB (gtI a 1114111)
 (.ret 0 [vB true]) <|
 ifB (geI a 55296)
 (.ret 0 [vB (leI a 57343)]) <|
 .ret 0 [vB false]) <|
 ifB (gtI a 1114111)
 (.ret 0 [vB true]) <|
 ifB (geI a 55296)
 (.ret 0 [vB (leI a 57343)]) <|
 .ret 0 [vB false]) fun (r7 : Bool × Unit) =>
 ifB r7.1
 (.ret 0 [vI 0]) <|
 ifB (ltI a 128)
 (.ret 0 [vI 1]) <|
 ifB (ltI a 2048)
 (.ret 0 [vI 2]) <|
 ifB (ltI a 65536)
 (.ret 0 [vI 3]) <|
 .ret 0 [vI 4]
def F_eight_put (S : Ids) (e : (Unit)) (out : Sl) (a : Int) : Prog :=
 .alloc [] fun (a1 : Addr) =>
 .load (Ty.agg []) (some a1) fun (u2 : Unit) =>
 .call (F_eight_size S () a) [tI] fun (r3 : Int × Unit) =>
 ifB (ltI a 0)
 (.alloc [vU (wrapI .u8 (subI .i64 (-1) a))] fun (a4 : Addr) =>
 .append 1 1 [vU 0] out (⟨(some a4), 1, 1⟩) fun (l5 : Sl) =>
 .ret 0 [vS l5]) <|
 ifB (eqI r3.1 1)
 (.alloc [vU (wrapI .u8 a)] fun (a6 : Addr) =>
 .append 1 1 [vU 0] out (⟨(some a6), 1, 1⟩) fun (l7 : Sl) =>
 .ret 0 [vS l7]) <|
 .alloc [vU 0, vU 0, vU 0, vU 0, vU 0] fun (a8 : Addr) =>
 .store (some a8) [vU 0, vU 0, vU 192, vU 224, vU 240] <|
 grd (inB r3.1 5) <|
 .load tU (shiftTo (some a8) (mulN (toN r3.1) 1)) fun (n9 : Int) =>
 grd (notB (ltI (mulI .i64 6 (subI .i64 r3.1 1)) 0)) <|
 .alloc [vU (orI .u8 n9 (wrapI .u8 (shrI .i64 a (mulI .i64 6 (subI .i64 r3.1 1)))))] fun (a0 : Addr) =>
 .append 1 1 [vU 0] out (⟨(some a0), 1, 1⟩) fun (l0 : Sl) =>
 thn 2 [tS] (.loop [tS, tI] (l0, ((subI .i64 r3.1 2), ())) fun (r0 : Sl × Int × Unit) =>
 ifB (geI r0.2.1 0)
 (grd (notB (ltI (mulI .i64 6 r0.2.1) 0)) <|
 .alloc [vU (orI .u8 128 (andI .u8 (wrapI .u8 (shrI .i64 a (mulI .i64 6 r0.2.1))) 63))] fun (a2 : Addr) =>
 .append 1 1 [vU 0] r0.1 (⟨(some a2), 1, 1⟩) fun (l1 : Sl) =>
 .ret 0 [vS l1, vI (subI .i64 r0.2.1 1)]) <|
 .ret 2 [vS r0.1]) fun (r1 : Sl × Unit) =>
 .ret 0 [vS r1.1]
def F_sixteen_unit (S : Ids) (c : (Int × Unit)) (b : Sl) : Prog :=
 .alloc [vI c.1] fun (a1 : Addr) =>
 .load tI (shiftTo (some a1) 0) fun (n2 : Int) =>
 atx tU b n2 1 fun (n3 : Int) =>
 .load tI (shiftTo (some a1) 0) fun (n4 : Int) =>
 grd (andB (someB b.base) (inB (subI .i64 1 n4) b.len)) <|
 .load tU (shiftTo b.base (mulN (toN (subI .i64 1 n4)) 1)) fun (n5 : Int) =>
 grd (notB false) <|
 .ret 0 [vI (orI .i64 (wrapI .i64 n3) (shlI .i64 (wrapI .i64 n5) 8))]
def F_codec_high (S : Ids) (u : Int) : Prog :=
 .ret 0 [vB (eqI (andNotI .i64 u 1023) 55296)]
def F_codec_low (S : Ids) (u : Int) : Prog :=
 .ret 0 [vB (eqI (andNotI .i64 u 1023) 56320)]
def F_sixteen_first (S : Ids) (c : (Int × Unit)) (b : Sl) : Prog :=
 .alloc [vI c.1] fun (a1 : Addr) =>
 ifB (eqI (natI b.len) 1)
 (grd (andB (someB b.base) (inB 0 b.len)) <|
 .load tU (shiftTo b.base 0) fun (n2 : Int) =>
 .ret 0 [vI (subI .i64 (-1) (wrapI .i64 n2)), vI 1]) <|
 .load (Ty.agg [bI]) (some a1) fun (r3 : Int × Unit) =>
 .call (F_sixteen_unit S (r3.1, ()) b) [tI] fun (r4 : Int × Unit) =>
 .bind
 (thn 0 [tB] (.call (F_codec_high S r4.1) [tB] fun (r0 : Bool × Unit) =>
 ifB r0.1
 (.ret 0 [vB (geI (natI b.len) 4)]) <|
 .ret 0 [vB false]) fun (r1 : Bool × Unit) =>
 ifB r1.1
 (.load (Ty.agg [bI]) (some a1) fun (r2 : Int × Unit) =>
 grd (leB 2 b.len) <|
 .call (F_sixteen_unit S (r2.1, ()) (⟨(cutBase b.base b.cap 2 1), (subN b.len 2), (subN b.cap 2)⟩)) [tI] fun (r5 : Int × Unit) =>
 .call (F_codec_low S r5.1) [tB] fun (r6 : Bool × Unit) =>
 ifB r6.1
 (grd (notB false) <|
 .ret 1 [vI (addI .i64 (addI .i64 65536 (shlI .i64 (andI .i64 r4.1 1023) 10)) (andI .i64 r5.1 1023)), vI 4]) <|
 .ret 0 []) <|
 .ret 0 []) fun (k0 : Nat) =>
 fun (v0 : List Value) =>
 ifB (eqN k0 1)
 (.cast [tI, tI] v0 fun (r7 : Int × Int × Unit) =>
 .ret 0 [vI r7.1, vI r7.2.1]) <|
 ifB (eqN k0 0)
 (.cast [] v0 fun (u0 : Unit) =>
 .ret 0 [vI r4.1, vI 2]) <|
 .fail
def F_sixteen_half (S : Ids) (c : (Int × Unit)) (out : Sl) (u : Int) : Prog :=
 .alloc [vI c.1] fun (a1 : Addr) =>
 .alloc [vU 0, vU 0] fun (a2 : Addr) =>
 .load tI (shiftTo (some a1) 0) fun (n3 : Int) =>
 .load tI (shiftTo (some a1) 0) fun (n4 : Int) =>
 grd (notB false) <|
 grd (inB n3 2) <|
 .store (shiftTo (some a2) (mulN (toN n3) 1)) [vU (wrapI .u8 u)] <|
 .check (shiftTo (some a1) 0) [vI n4] <|
 grd (inB (subI .i64 1 n4) 2) <|
 .store (shiftTo (some a2) (mulN (toN (subI .i64 1 n4)) 1)) [vU (wrapI .u8 (shrI .i64 u 8))] <|
 .append 1 1 [vU 0] out (⟨(cutBase (some a2) 2 0 1), 2, 2⟩) fun (l5 : Sl) =>
 .ret 0 [vS l5]
def F_sixteen_put (S : Ids) (c : (Int × Unit)) (out : Sl) (a : Int) : Prog :=
 .alloc [vI c.1] fun (a1 : Addr) =>
 ifB (ltI a 0)
 (.alloc [vU (wrapI .u8 (subI .i64 (-1) a))] fun (a2 : Addr) =>
 .append 1 1 [vU 0] out (⟨(some a2), 1, 1⟩) fun (l3 : Sl) =>
 .ret 0 [vS l3]) <|
 ifB (ltI a 65536)
 (.load (Ty.agg [bI]) (some a1) fun (r4 : Int × Unit) =>
 .call (F_sixteen_half S (r4.1, ()) out a) [tS] fun (r5 : Sl × Unit) =>
 .ret 0 [vS r5.1]) <|
 .load (Ty.agg [bI]) (some a1) fun (r6 : Int × Unit) =>
 .load (Ty.agg [bI]) (some a1) fun (r7 : Int × Unit) =>
 grd (notB false) <|
 .call (F_sixteen_half S (r7.1, ()) out (orI .i64 55296 (shrI .i64 (subI .i64 a 65536) 10))) [tS] fun (r8 : Sl × Unit) =>
 .check (some a1) [vI r6.1] <|
 .call (F_sixteen_half S (r6.1, ()) r8.1 (orI .i64 56320 (andI .i64 a 1023))) [tS] fun (r9 : Sl × Unit) =>
 .ret 0 [vS r9.1]
def F_sixteen_size (S : Ids) (x0 : (Int × Unit)) (a : Int) : Prog :=
 .alloc [vI x0.1] fun (a1 : Addr) =>
 thn 0 [tB] (ifB (ltI a (-256))
 (.ret 0 [vB true]) <|
 .ret 0 [vB (gtI a 1114111)]) fun (r7 : Bool × Unit) =>
 ifB r7.1
 (.ret 0 [vI 0]) <|
 ifB (ltI a 0)
 (.ret 0 [vI 1]) <|
 ifB (ltI a 65536)
 (.ret 0 [vI 2]) <|
 .ret 0 [vI 4]
def F_latin_first (S : Ids) (x0 : (Unit)) (b : Sl) : Prog :=
 .alloc [] fun (a1 : Addr) =>
 grd (andB (someB b.base) (inB 0 b.len)) <|
 .load tU (shiftTo b.base 0) fun (n2 : Int) =>
 .ret 0 [vI (wrapI .i64 n2), vI 1]
def F_latin_put (S : Ids) (x0 : (Unit)) (out : Sl) (a : Int) : Prog :=
 .alloc [] fun (a1 : Addr) =>
 .alloc [vU (wrapI .u8 a)] fun (a2 : Addr) =>
 .append 1 1 [vU 0] out (⟨(some a2), 1, 1⟩) fun (l3 : Sl) =>
 .ret 0 [vS l3]
def F_latin_size (S : Ids) (x0 : (Unit)) (a : Int) : Prog :=
 .alloc [] fun (a1 : Addr) =>
 thn 0 [tB] (ifB (ltI a 0)
 (.ret 0 [vB true]) <|
 .ret 0 [vB (gtI a 255)]) fun (r7 : Bool × Unit) =>
 ifB r7.1
 (.ret 0 [vI 0]) <|
 .ret 0 [vI 1]
end
end Go.Sw
