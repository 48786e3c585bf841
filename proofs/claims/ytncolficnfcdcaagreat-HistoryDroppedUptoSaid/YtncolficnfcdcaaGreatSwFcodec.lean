/-
  The shallow programs of the functions of some cuts, as text (printed by program). Nothing is proved here.
-/
import Derived.Test.YtncolficnfcdcaaGreatSwSw
import Derived.Test.YtncolficnfcdcaaGreatSwFab
set_option linter.unusedVariables false
set_option maxRecDepth 100000
namespace Go.Sw
/-- The numbers of types and functions, the names of methods. -/
structure Ids where
  f_Book_Marks_1:FuncId
  f_Book_shut:FuncId
  f_Text_Atoms_1:FuncId
  f_Text_Tags_1:FuncId
  f_Tree_part_Items_1:FuncId
  f_Tree_part_Items_1_1:FuncId
  m_first:String
  m_put:String
  m_size:String
  t_codec_eight:TypeId
  t_codec_latin:TypeId
  t_codec_sixteen:TypeId
  none:Unit
noncomputable section
def F_law7_short (S:Ids) (b:Sl) (groups:Sl):Prog:=
 thn 2 [tI] (.loop [tI,tI] ((natI b.len),((0:Int),())) fun (r0:Int×Int×Unit)=>
 ifB (ltI r0.2.1 (natI groups.len))
 (atx tS groups r0.2.1 1 fun (l0:Sl)=>
 thn 4 [tI] (.loop [tI,tI] ((addI .i64 r0.1 (natI l0.len)),((0:Int),())) fun (r1:Int×Int×Unit)=>
 atx tS groups r0.2.1 1 fun (l1:Sl)=>
 ifB (ltI r1.2.1 (natI l1.len))
 (atx tS groups r0.2.1 1 fun (l2:Sl)=>
 grd (andB (someB l2.base) (inB r1.2.1 l2.len)) <|
 grd (someB (shiftTo l2.base (mulN (toN r1.2.1) 3))) <|
 .load tS (shiftTo (shiftTo l2.base (mulN (toN r1.2.1) 3)) 2) fun (l3:Sl)=>
 .ret 0 [vI (addI .i64 r1.1 (natI l3.len)),vI (addI .i64 r1.2.1 1)]) <|
 .ret 4 [vI r1.1]) fun (r2:Int×Unit)=>
 .ret 0 [vI r2.1,vI (addI .i64 r0.2.1 1)]) <|
 .ret 2 [vI r0.1]) fun (r3:Int×Unit)=>
 thn 0 [tB] (ifB (leI r3.1 8000)
 (.ret 0 [vB (leI (natI groups.len) 190)]) <|
 .ret 0 [vB false]) fun (r4:Bool×Unit)=>
 .ret 0 [vB r4.1]
def F_codec_of (S:Ids) (enc:Int):Prog:=
 ifB (eqI enc 1)
 (.ret 0 [(Value.iface S.t_codec_eight (Value.agg #[]))]) <|
 ifB (eqI enc 2)
 (.ret 0 [(Value.iface S.t_codec_sixteen (Value.agg (#[vI 0])))]) <|
 ifB (eqI enc 3)
 (.ret 0 [(Value.iface S.t_codec_sixteen (Value.agg (#[vI 1])))]) <|
 ifB (eqI enc 4)
 (.ret 0 [(Value.iface S.t_codec_latin (Value.agg #[]))]) <|
 .ret 0 [Value.nilIface]
def F_codec_Next (S:Ids) (enc:Int) (b:Sl) (at_:Int):Prog:=
 .call (F_codec_of S enc) [(Ty.one B.any)] fun (r1:Value×Unit)=>
 thn 0 [tB] (grd (isIface r1.1) <|
 ifB (isNilIface r1.1)
 (.ret 0 [vB true]) <|
 ifB (ltI at_ 0)
 (.ret 0 [vB true]) <|
 .ret 0 [vB (geI at_ (natI b.len))]) fun (r8:Bool×Unit)=>
 ifB r8.1
 (.ret 0 [vI 0,vI 0]) <|
 grd (leB at_ b.len) <|
 .nilok (Value.func (Fn.method S.m_first) #[r1.1] #[]) <|
 .invoke r1.1 S.m_first [(Value.slice (cutBase b.base b.cap (toN at_) 1) (subN b.len (toN at_)) (subN b.cap (toN at_)))] [tI,tI] fun (r9:Int×Int×Unit)=>
 .ret 0 [vI r9.1,vI r9.2.1]
def F_piece_single (S:Ids) (atom:Int) (size:Int):Prog:=
 .alloc z5 fun (a1:Addr)=>
 .alloc z5 fun (a2:Addr)=>
 .store (some a2) [vI 1,vI size,vI 0,vB (eqI atom 10),vB (eqI atom 13)] <|
 thn 0 [] (thn 0 [tB] (.load tB (shiftTo (some a2) 3) fun (b0:Bool)=>
 ifB b0
 (.ret 0 [vB true]) <|
 .load tB (shiftTo (some a2) 4) fun (b1:Bool)=>
 .ret 0 [vB b1]) fun (r0:Bool×Unit)=>
 ifB r0.1
 (.store (shiftTo (some a2) 2) [vI 1] <|
 .ret 0 []) <|
 .ret 0 []) fun (u0:Unit)=>
 .load (Ty.agg b5) (some a2) fun (r1:d5)=>
 .store (some a1) (Bs.inj b5 r1) <|
 .load (Ty.agg b5) (some a1) fun (r2:d5)=>
 .ret 0 [(Value.agg (Bs.inj b5 r2).toArray)]
def F_sums_Add (S:Ids) (s:d5) (o:d5):Prog:=
 .alloc (Bs.inj b5 s) fun (a1:Addr)=>
 .alloc (Bs.inj b5 o) fun (a2:Addr)=>
 .alloc z5 fun (a3:Addr)=>
 .load tI (shiftTo (some a1) 0) fun (n4:Int)=>
 ifB (eqI n4 0)
 (.load (Ty.agg b5) (some a2) fun (r5:d5)=>
 .store (some a3) (Bs.inj b5 r5) <|
 .load (Ty.agg b5) (some a3) fun (r6:d5)=>
 .ret 0 [(Value.agg (Bs.inj b5 r6).toArray)]) <|
 .load tI (shiftTo (some a2) 0) fun (n7:Int)=>
 ifB (eqI n7 0)
 (.load (Ty.agg b5) (some a1) fun (r8:d5)=>
 .store (some a3) (Bs.inj b5 r8) <|
 .load (Ty.agg b5) (some a3) fun (r9:d5)=>
 .ret 0 [(Value.agg (Bs.inj b5 r9).toArray)]) <|
 .load tI (shiftTo (some a1) 0) fun (n0:Int)=>
 .load tI (shiftTo (some a2) 0) fun (n1:Int)=>
 .load tI (shiftTo (some a1) 1) fun (n2:Int)=>
 .load tI (shiftTo (some a2) 1) fun (n3:Int)=>
 .load tI (shiftTo (some a1) 2) fun (n5:Int)=>
 .load tI (shiftTo (some a2) 2) fun (n6:Int)=>
 .load tB (shiftTo (some a1) 3) fun (b0:Bool)=>
 .load tB (shiftTo (some a2) 4) fun (b1:Bool)=>
 .alloc z5 fun (a0:Addr)=>
 .store (some a0) [vI (addI .i64 n0 n1),vI (addI .i64 n2 n3),vI (addI .i64 n5 n6),vB b0,vB b1] <|
 thn 0 [] (thn 0 [tB] (.load tB (shiftTo (some a1) 4) fun (b2:Bool)=>
 ifB b2
 (.load tB (shiftTo (some a2) 3) fun (b3:Bool)=>
 .ret 0 [vB b3]) <|
 .ret 0 [vB false]) fun (r0:Bool×Unit)=>
 ifB r0.1
 (.load tI (shiftTo (some a0) 2) fun (n8:Int)=>
 .store (shiftTo (some a0) 2) [vI (subI .i64 n8 1)] <|
 .ret 0 []) <|
 .ret 0 []) fun (u0:Unit)=>
 .load (Ty.agg b5) (some a0) fun (r1:d5)=>
 .store (some a3) (Bs.inj b5 r1) <|
 .load (Ty.agg b5) (some a3) fun (r2:d5)=>
 .ret 0 [(Value.agg (Bs.inj b5 r2).toArray)]
def F_piece_newPart (S:Ids) (enc:Int) (b:Sl) (tag:Int):Prog:=
 .alloc z7 fun (a1:Addr)=>
 .alloc z7 fun (a2:Addr)=>
 .store (some a2) [vS b,vI tag,vI 0,vI 0,vI 0,vB false,vB false] <|
 thn 2 [] (.loop [tI] ((0:Int),()) fun (r0:Int×Unit)=>
 ifB (ltI r0.1 (natI b.len))
 (.call (F_codec_Next S enc b r0.1) [tI,tI] fun (r1:Int×Int×Unit)=>
 .load (Ty.agg b5) (shiftTo (some a2) 2) fun (r2:d5)=>
 .call (F_piece_single S r1.1 r1.2.1) [(Ty.agg b5)] fun (r3:d5×Unit)=>
 .check (shiftTo (some a2) 2) (Bs.inj b5 r2) <|
 .call (F_sums_Add S (r2.1,(r2.2.1,(r2.2.2.1,(r2.2.2.2.1,(r2.2.2.2.2.1,()))))) (r3.1.1,(r3.1.2.1,(r3.1.2.2.1,(r3.1.2.2.2.1,(r3.1.2.2.2.2.1,())))))) [(Ty.agg b5)] fun (r4:d5×Unit)=>
 .store (shiftTo (some a2) 2) (Bs.inj b5 r4.1) <|
 .ret 0 [vI (addI .i64 r0.1 r1.2.1)]) <|
 .ret 2 []) fun (u0:Unit)=>
 .load (Ty.agg b7) (some a2) fun (r5:d7)=>
 .store (some a1) (Bs.inj b7 r5) <|
 .load (Ty.agg b7) (some a1) fun (r6:d7)=>
 .ret 0 [(Value.agg (Bs.inj b7 r6).toArray)]
def F_node_part_count (S:Ids) (n:OA):Prog:=
 ifB (noneB n)
 (.ret 0 [vI 0]) <|
 fld tI n 9 fun (n1:Int)=>
 .ret 0 [vI n1]
def F_node_part_tall (S:Ids) (n:OA):Prog:=
 ifB (noneB n)
 (.ret 0 [vI 0]) <|
 fld tI n 10 fun (n1:Int)=>
 .ret 0 [vI n1]
def F_part_Measure (S:Ids) (p:d7):Prog:=
 .alloc (Bs.inj b7 p) fun (a1:Addr)=>
 .alloc z5 fun (a2:Addr)=>
 .load (Ty.agg b5) (shiftTo (some a1) 2) fun (r3:d5)=>
 .store (some a2) (Bs.inj b5 r3) <|
 .load (Ty.agg b5) (some a2) fun (r4:d5)=>
 .ret 0 [(Value.agg (Bs.inj b5 r4).toArray)]
def F_tree_of_part (S:Ids) (l:OA) (x:d7) (r:OA):Prog:=
 .alloc (Bs.inj b7 x) fun (a1:Addr)=>
 .load (Ty.agg b7) (some a1) fun (r2:d7)=>
 .call (F_node_part_count S l) [tI] fun (r3:Int×Unit)=>
 .check (some a1) (Bs.inj b7 r2) <|
 .call (F_node_part_count S r) [tI] fun (r4:Int×Unit)=>
 .check (some a1) (Bs.inj b7 r2) <|
 .call (F_node_part_tall S l) [tI] fun (r5:Int×Unit)=>
 .check (some a1) (Bs.inj b7 r2) <|
 .call (F_node_part_tall S r) [tI] fun (r6:Int×Unit)=>
 .check (some a1) (Bs.inj b7 r2) <|
 .alloc [vP l,vP r,vS r2.1,vI r2.2.1,vI r2.2.2.1,vI r2.2.2.2.1,vI r2.2.2.2.2.1,vB r2.2.2.2.2.2.1,vB r2.2.2.2.2.2.2.1,vI (addI .i64 (addI .i64 r3.1 1) r4.1),vI (addI .i64 (maxI r5.1 r6.1) 1),vI 0,vI 0,vI 0,vB false,vB false] fun (a7:Addr)=>
 .load (Ty.agg b7) (some a1) fun (r8:d7)=>
 .call (F_part_Measure S (r8.1,(r8.2.1,(r8.2.2.1,(r8.2.2.2.1,(r8.2.2.2.2.1,(r8.2.2.2.2.2.1,(r8.2.2.2.2.2.2.1,())))))))) [(Ty.agg b5)] fun (r9:d5×Unit)=>
 .store (shiftTo (some a7) 11) (Bs.inj b5 r9.1) <|
 thn 0 [] (ifB (notB (noneB l))
 (fld (Ty.agg b5) l 11 fun (r0:d5)=>
 .load (Ty.agg b5) (shiftTo (some a7) 11) fun (r1:d5)=>
 .call (F_sums_Add S (r0.1,(r0.2.1,(r0.2.2.1,(r0.2.2.2.1,(r0.2.2.2.2.1,()))))) (r1.1,(r1.2.1,(r1.2.2.1,(r1.2.2.2.1,(r1.2.2.2.2.1,())))))) [(Ty.agg b5)] fun (r7:d5×Unit)=>
 .store (shiftTo (some a7) 11) (Bs.inj b5 r7.1) <|
 .ret 0 []) <|
 .ret 0 []) fun (u0:Unit)=>
 thn 0 [] (ifB (notB (noneB r))
 (.load (Ty.agg b5) (shiftTo (some a7) 11) fun (r10:d5)=>
 fld (Ty.agg b5) r 11 fun (r11:d5)=>
 .call (F_sums_Add S (r10.1,(r10.2.1,(r10.2.2.1,(r10.2.2.2.1,(r10.2.2.2.2.1,()))))) (r11.1,(r11.2.1,(r11.2.2.1,(r11.2.2.2.1,(r11.2.2.2.2.1,())))))) [(Ty.agg b5)] fun (r12:d5×Unit)=>
 .store (shiftTo (some a7) 11) (Bs.inj b5 r12.1) <|
 .ret 0 []) <|
 .ret 0 []) fun (u1:Unit)=>
 .ret 0 [vP (some a7)]
def R_tree_build_part (fuelN:Nat) (S:Ids) (items:Sl):Prog:=
 match fuelN with
 | 0=>.fail
 | fuelN+1=>
  ifB (eqI (natI items.len) 0)
  (.ret 0 [vP none]) <|
  grd (notB false) <|
  grd (leB (quoI .i64 (natI items.len) 2) items.cap) <|
  grd (andB (someB items.base) (inB (quoI .i64 (natI items.len) 2) items.len)) <|
  .load (Ty.agg b7) (shiftTo items.base (mulN (toN (quoI .i64 (natI items.len) 2)) 7)) fun (r1:d7)=>
  grd (leB (addI .i64 (quoI .i64 (natI items.len) 2) 1) items.len) <|
  .call (R_tree_build_part fuelN S (⟨(cutBase items.base items.cap 0 7),(subN (toN (quoI .i64 (natI items.len) 2)) 0),(subN items.cap 0)⟩)) [tP] fun (r2:OA×Unit)=>
  .check (shiftTo items.base (mulN (toN (quoI .i64 (natI items.len) 2)) 7)) (Bs.inj b7 r1) <|
  .call (R_tree_build_part fuelN S (⟨(cutBase items.base items.cap (toN (addI .i64 (quoI .i64 (natI items.len) 2) 1)) 7),(subN items.len (toN (addI .i64 (quoI .i64 (natI items.len) 2) 1))),(subN items.cap (toN (addI .i64 (quoI .i64 (natI items.len) 2) 1)))⟩)) [tP] fun (r3:OA×Unit)=>
  .check (shiftTo items.base (mulN (toN (quoI .i64 (natI items.len) 2)) 7)) (Bs.inj b7 r1) <|
  .call (F_tree_of_part S r2.1 (r1.1,(r1.2.1,(r1.2.2.1,(r1.2.2.2.1,(r1.2.2.2.2.1,(r1.2.2.2.2.2.1,(r1.2.2.2.2.2.2.1,()))))))) r3.1) [tP] fun (r4:OA×Unit)=>
  .ret 0 [vP r4.1]
def F_tree_build_part (S:Ids) (items:Sl):Prog:=.ex fun fuelN=>R_tree_build_part fuelN S items
def F_tree_Of_part (S:Ids) (items:Sl):Prog:=
 .alloc [vP none] fun (a1:Addr)=>
 .call (F_tree_build_part S items) [tP] fun (r2:OA×Unit)=>
 .store (some a1) [vP r2.1] <|
 .load (Ty.agg [B.ptr]) (some a1) fun (r3:OA×Unit)=>
 .ret 0 [(Value.agg (#[vP r3.1]))]
def F_piece_Open (S:Ids) (enc:Int) (b:Sl) (limit:Int):Prog:=
 thn 0 [tB] (ifB (ltI enc 1)
 (.ret 0 [vB true]) <|
 .ret 0 [vB (gtI enc 4)]) fun (r0:Bool×Unit)=>
 ifB r0.1
 (.ret 0 [vP none,vI 10]) <|
 thn 0 [tB] (ifB (ltI limit 0)
 (.ret 0 [vB true]) <|
 .ret 0 [vB (gtI limit 65536)]) fun (r1:Bool×Unit)=>
 ifB r1.1
 (.ret 0 [vP none,vI 1]) <|
 ifB (gtI (natI b.len) limit)
 (.ret 0 [vP none,vI 50]) <|
 .mk 1 [vU 0] (natI b.len) (natI b.len) fun (l0:Sl)=>
 .copy 1 l0 b fun (k0:Nat)=>
 .alloc [vI enc,vI limit,vP none,nS] fun (a0:Addr)=>
 thn 3 [tS] (.loop [tS,tI] ((⟨none,0,0⟩:Sl),((0:Int),())) fun (r2:Sl×Int×Unit)=>
 ifB (ltI r2.2.1 (natI l0.len))
 (thn 5 [tI] (.loop [tI,tI] (r2.2.1,((0:Int),())) fun (r3:Int×Int×Unit)=>
 thn 0 [tB] (ifB (ltI r3.1 (natI l0.len))
 (.ret 0 [vB (ltI r3.2.1 128)]) <|
 .ret 0 [vB false]) fun (r4:Bool×Unit)=>
 ifB r4.1
 (.call (F_codec_Next S enc l0 r3.1) [tI,tI] fun (r5:Int×Int×Unit)=>
 .ret 0 [vI (addI .i64 r3.1 r5.2.1),vI (addI .i64 r3.2.1 1)]) <|
 .ret 5 [vI r3.1]) fun (r6:Int×Unit)=>
 grd (andB (leB r6.1 l0.cap) (andB (leB r6.1 (toN r6.1)) (leB r2.2.1 (toN r6.1)))) <|
 .call (F_piece_newPart S enc (⟨(cutBase l0.base (toN r6.1) (toN r2.2.1) 1),(subN (toN r6.1) (toN r2.2.1)),(subN (toN r6.1) (toN r2.2.1))⟩) r2.2.1) [(Ty.agg b7)] fun (r7:d7×Unit)=>
 .alloc (Bs.inj b7 r7.1) fun (a1:Addr)=>
 .append 7 64 z7 r2.1 (⟨(some a1),1,1⟩) fun (l1:Sl)=>
 .ret 0 [vS l1,vI r6.1]) <|
 .ret 3 [vS r2.1]) fun (r8:Sl×Unit)=>
 .call (F_tree_Of_part S r8.1) [(Ty.agg [B.ptr])] fun (r9:((OA×Unit)×Unit))=>
 .store (shiftTo (some a0) 2) [vP r9.1.1] <|
 .ret 0 [vP (some a0),vI 0]
def F_history_Open (S:Ids) (enc:Int) (b:Sl) (limit:Int) (depth:Int):Prog:=
 thn 0 [tB] (ifB (ltI depth 1)
 (.ret 0 [vB true]) <|
 .ret 0 [vB (gtI depth 200)]) fun (r9:Bool×Unit)=>
 ifB r9.1
 (.ret 0 [vP none,vI 1]) <|
 .call (F_piece_Open S enc b limit) [tP,tI] fun (r0:OA×Int×Unit)=>
 ifB (neI r0.2.1 0)
 (.ret 0 [vP none,vI r0.2.1]) <|
 .mkmap  fun (k0:Nat)=>
 .alloc [vP r0.1,vI depth,nS,nS,(Value.map (some k0)),nS,vP none,vI 0,vI 0,vI 0] fun (a0:Addr)=>
 .ret 0 [vP (some a0),vI 0]
def F_law7_num (S:Ids) (e:Int):Prog:=
 .ret 0 [vI e]
def F_Book_Text (S:Ids) (b:OA):Prog:=
 fld tP b 0 fun (p1:OA)=>
 .ret 0 [vP p1]
def F_law7_book (S:Ids) (enc:Int) (b:Sl) (depth:Int):Prog:=
 .append 1 1 [vU 0] (⟨none,0,0⟩) b fun (l1:Sl)=>
 .call (F_history_Open S (addI .i64 (andI .i64 enc 3) 1) l1 (Int.ofNat 60000) depth) [tP,tI] fun (r2:OA×Int×Unit)=>
 thn 0 [tB] (.call (F_law7_num S r2.2.1) [tI] fun (r8:Int×Unit)=>
 ifB (neI r8.1 0)
 (.ret 0 [vB true]) <|
 ifB (noneB r2.1)
 (.ret 0 [vB true]) <|
 .call (F_Book_Text S r2.1) [tP] fun (r9:OA×Unit)=>
 .ret 0 [vB (noneB r9.1)]) fun (r0:Bool×Unit)=>
 ifB r0.1
 (.ret 0 [vP none]) <|
 .ret 0 [vP r2.1]
def F_Book_Dirty (S:Ids) (b:OA):Prog:=
 thn 0 [tB] (fld tI b 7 fun (n9:Int)=>
 fld tI b 8 fun (n0:Int)=>
 ifB (neI n9 n0)
 (.ret 0 [vB true]) <|
 fld tP b 6 fun (p0:OA)=>
 ifB (notB (noneB p0))
 (fld tP b 6 fun (p1:OA)=>
 fld tB p1 9 fun (b0:Bool)=>
 .ret 0 [vB b0]) <|
 .ret 0 [vB false]) fun (r0:Bool×Unit)=>
 .ret 0 [vB r0.1]
def F_Tree_part_Sum (S:Ids) (t:(OA×Unit)):Prog:=
 .alloc [vP t.1] fun (a1:Addr)=>
 .alloc z5 fun (a2:Addr)=>
 .load tP (shiftTo (some a1) 0) fun (p3:OA)=>
 ifB (noneB p3)
 (.alloc z5 fun (a4:Addr)=>
 .load (Ty.agg b5) (some a4) fun (r5:d5)=>
 .store (some a2) (Bs.inj b5 r5) <|
 .load (Ty.agg b5) (some a2) fun (r6:d5)=>
 .ret 0 [(Value.agg (Bs.inj b5 r6).toArray)]) <|
 .load tP (shiftTo (some a1) 0) fun (p7:OA)=>
 fld (Ty.agg b5) p7 11 fun (r8:d5)=>
 .store (some a2) (Bs.inj b5 r8) <|
 .load (Ty.agg b5) (some a2) fun (r9:d5)=>
 .ret 0 [(Value.agg (Bs.inj b5 r9).toArray)]
def F_Text_Len (S:Ids) (t:OA):Prog:=
 fld (Ty.agg [B.ptr]) t 2 fun (r1:OA×Unit)=>
 .call (F_Tree_part_Sum S (r1.1,())) [(Ty.agg b5)] fun (r2:d5×Unit)=>
 .ret 0 [vI r2.1.1]
def F_law7_slot (S:Ids) (i:Int) (n:Int):Prog:=
 grd (notB (eqI (addI .i64 n 1) 0)) <|
 thn 0 [tI] (ifB (ltI (remI .i64 i (addI .i64 n 1)) 0)
 (.ret 0 [vI (addI .i64 (addI .i64 (remI .i64 i (addI .i64 n 1)) n) 1)]) <|
 .ret 0 [vI (remI .i64 i (addI .i64 n 1))]) fun (r6:Int×Unit)=>
 .ret 0 [vI r6.1]
def F_Book_inside (S:Ids) (b:OA) (at_:Int):Prog:=
 thn 0 [tB] (ifB (geI at_ 0)
 (fld tP b 0 fun (p6:OA)=>
 .call (F_Text_Len S p6) [tI] fun (r7:Int×Unit)=>
 .ret 0 [vB (leI at_ r7.1)]) <|
 .ret 0 [vB false]) fun (r0:Bool×Unit)=>
 .ret 0 [vB r0.1]
def F_slices_Cloneint_int___ (S:Ids) (s:Sl):Prog:=
 ifB (noneB s.base)
 (.ret 0 [nS]) <|
 .alloc [] fun (a1:Addr)=>
 .append 1 8 [vI 0] (⟨(some a1),0,0⟩) s fun (l2:Sl)=>
 .ret 0 [vS l2]
def F_Text_Snap (S:Ids) (t:OA):Prog:=
 fld (Ty.agg [B.ptr]) t 2 fun (r1:OA×Unit)=>
 .alloc [vP t,vP r1.1] fun (a2:Addr)=>
 .ret 0 [vP (some a2)]
def F_Book_Begin (S:Ids) (b:OA) (at_:Int):Prog:=
 fld tP b 6 fun (p1:OA)=>
 ifB (notB (noneB p1))
 (.ret 0 [vI 70]) <|
 .call (F_Book_inside S b at_) [tB] fun (r2:Bool×Unit)=>
 ifB (notB r2.1)
 (.ret 0 [vI 2]) <|
 .mkmap  fun (k3:Nat)=>
 fld tS b 5 fun (l4:Sl)=>
 .call (F_slices_Cloneint_int___ S l4) [tS] fun (r5:Sl×Unit)=>
 .alloc [vP none,vP none,vI 0,vI 0,nS,vI 0,vI 0,(Value.map (some k3)),vS r5.1,vB false] fun (a6:Addr)=>
 fld tP b 0 fun (p7:OA)=>
 fld tI b 7 fun (n8:Int)=>
 .call (F_Text_Snap S p7) [tP] fun (r9:OA×Unit)=>
 .check (shiftTo b 7) [vI n8] <|
 grd (someB (shiftTo (some a6) 0)) <|
 .store (shiftTo (shiftTo (some a6) 0) 0) [vP r9.1] <|
 grd (someB (shiftTo (some a6) 0)) <|
 .store (shiftTo (shiftTo (some a6) 0) 2) [vI at_] <|
 grd (someB (shiftTo (some a6) 0)) <|
 .store (shiftTo (shiftTo (some a6) 0) 5) [vI n8] <|
 fld (Ty.one B.map) b 4 fun (p0:Option Nat)=>
 .miter p0 fun (a0:Addr)=>
 thn 2 [] (.loop [] () fun (u0:Unit)=>
 .mnext (some a0) (fun (n0:Int)=>
 fun (n1:Int)=>
 .mentry (some a0) fun (n2:Int)=>
 fun (n3:Int)=>
 .load (Ty.one B.map) (shiftTo (some a6) 7) fun (p2:Option Nat)=>
 .mput p2 n2 n3 <|
 .ret 0 []) <|
 .ret 2 []) fun (u1:Unit)=>
 sto b 6 [vP (some a6)] <|
 .ret 0 [vI 0]
def F_law7_edit (S:Ids) (c:(Int×Int×Sl×Unit)) (n:Int):Prog:=
 .alloc [vI c.1,vI c.2.1,vS c.2.2.1] fun (a1:Addr)=>
 .alloc [vI 0,vI 0,nS] fun (a2:Addr)=>
 .load tI (shiftTo (some a1) 0) fun (n3:Int)=>
 .call (F_law7_slot S n3 n) [tI] fun (r4:Int×Unit)=>
 .load tI (shiftTo (some a1) 1) fun (n5:Int)=>
 .call (F_law7_slot S n5 (minI 3 (subI .i64 n r4.1))) [tI] fun (r6:Int×Unit)=>
 thn 2 [tS] (.loop [tS,tI] ((⟨none,0,0⟩:Sl),((0:Int),())) fun (r0:Sl×Int×Unit)=>
 .load tS (shiftTo (some a1) 2) fun (l0:Sl)=>
 ifB (ltI r0.2.1 (natI l0.len))
 (.load tS (shiftTo (some a1) 2) fun (l1:Sl)=>
 atx tI l1 r0.2.1 1 fun (n0:Int)=>
 .alloc [vI (addI .i64 97 (andI .i64 n0 15))] fun (a0:Addr)=>
 .append 1 8 [vI 0] r0.1 (⟨(some a0),1,1⟩) fun (l2:Sl)=>
 .ret 0 [vS l2,vI (addI .i64 r0.2.1 1)]) <|
 .ret 2 [vS r0.1]) fun (r1:Sl×Unit)=>
 .store (some a2) [vI r4.1,vI (addI .i64 r4.1 r6.1),vS r1.1] <|
 .load (Ty.agg [bI,bI,B.sl]) (some a2) fun (r2:Int×Int×Sl×Unit)=>
 .ret 0 [(Value.agg (#[vI r2.1,vI r2.2.1,vS r2.2.2.1]))]
def F_Text_Size (S:Ids) (t:OA):Prog:=
 fld (Ty.agg [B.ptr]) t 2 fun (r1:OA×Unit)=>
 .call (F_Tree_part_Sum S (r1.1,())) [(Ty.agg b5)] fun (r2:d5×Unit)=>
 .ret 0 [vI r2.1.2.1]
def F_codec_Size (S:Ids) (enc:Int) (atom:Int):Prog:=
 .call (F_codec_of S enc) [(Ty.one B.any)] fun (r1:Value×Unit)=>
 grd (isIface r1.1) <|
 ifB (isNilIface r1.1)
 (.ret 0 [vI 0]) <|
 .invoke r1.1 S.m_size [vI atom] [tI] fun (r2:Int×Unit)=>
 .ret 0 [vI r2.1]
def F_sums_Key (S:Ids) (s:d5) (k:Int):Prog:=
 .alloc (Bs.inj b5 s) fun (a1:Addr)=>
 ifB (eqI k 0)
 (.load tI (shiftTo (some a1) 0) fun (n2:Int)=>
 .ret 0 [vI n2]) <|
 ifB (eqI k 1)
 (.load tI (shiftTo (some a1) 2) fun (n3:Int)=>
 .ret 0 [vI n3]) <|
 .ret 0 [vI 0]
def F_Tree_part_Find (S:Ids) (t:(OA×Unit)) (k:Int) (n:Int):Prog:=
 .alloc [vP t.1] fun (a1:Addr)=>
 ifB (leI n 0)
 (.ret 0 [vI 0]) <|
 .alloc z5 fun (a2:Addr)=>
 .load tP (shiftTo (some a1) 0) fun (p3:OA)=>
 .bind
 (.loop [tI,tP] ((0:Int),(p3,())) fun (r0:Int×OA×Unit)=>
 ifB (notB (noneB r0.2.1))
 (.load (Ty.agg b5) (some a2) fun (r1:d5)=>
 .alloc z5 fun (a0:Addr)=>
 .store (some a0) (Bs.inj b5 r1) <|
 thn 0 [] (fld tP r0.2.1 0 fun (p0:OA)=>
 ifB (notB (noneB p0))
 (.load (Ty.agg b5) (some a2) fun (r2:d5)=>
 fld tP r0.2.1 0 fun (p1:OA)=>
 fld (Ty.agg b5) p1 11 fun (r3:d5)=>
 .call (F_sums_Add S (r2.1,(r2.2.1,(r2.2.2.1,(r2.2.2.2.1,(r2.2.2.2.2.1,()))))) (r3.1,(r3.2.1,(r3.2.2.1,(r3.2.2.2.1,(r3.2.2.2.2.1,())))))) [(Ty.agg b5)] fun (r4:d5×Unit)=>
 .store (some a0) (Bs.inj b5 r4.1) <|
 .ret 0 []) <|
 .ret 0 []) fun (u0:Unit)=>
 .load (Ty.agg b5) (some a0) fun (r5:d5)=>
 .call (F_sums_Key S (r5.1,(r5.2.1,(r5.2.2.1,(r5.2.2.2.1,(r5.2.2.2.2.1,()))))) k) [tI] fun (r6:Int×Unit)=>
 ifB (geI r6.1 n)
 (fld tP r0.2.1 0 fun (p2:OA)=>
 .ret 0 [vI r0.1,vP p2]) <|
 fld tP r0.2.1 0 fun (p4:OA)=>
 .call (F_node_part_count S p4) [tI] fun (r7:Int×Unit)=>
 .load (Ty.agg b5) (some a0) fun (r8:d5)=>
 fld (Ty.agg b7) r0.2.1 2 fun (r9:d7)=>
 .call (F_part_Measure S (r9.1,(r9.2.1,(r9.2.2.1,(r9.2.2.2.1,(r9.2.2.2.2.1,(r9.2.2.2.2.2.1,(r9.2.2.2.2.2.2.1,())))))))) [(Ty.agg b5)] fun (r10:d5×Unit)=>
 .check (some a0) (Bs.inj b5 r8) <|
 .call (F_sums_Add S (r8.1,(r8.2.1,(r8.2.2.1,(r8.2.2.2.1,(r8.2.2.2.2.1,()))))) (r10.1.1,(r10.1.2.1,(r10.1.2.2.1,(r10.1.2.2.2.1,(r10.1.2.2.2.2.1,())))))) [(Ty.agg b5)] fun (r11:d5×Unit)=>
 .store (some a2) (Bs.inj b5 r11.1) <|
 .load (Ty.agg b5) (some a2) fun (r12:d5)=>
 .call (F_sums_Key S (r12.1,(r12.2.1,(r12.2.2.1,(r12.2.2.2.1,(r12.2.2.2.2.1,()))))) k) [tI] fun (r13:Int×Unit)=>
 ifB (geI r13.1 n)
 (.ret 1 [vI (addI .i64 r0.1 (addI .i64 r7.1 1))]) <|
 fld tP r0.2.1 1 fun (p5:OA)=>
 .ret 0 [vI (addI .i64 r0.1 (addI .i64 r7.1 1)),vP p5]) <|
 .ret 2 [vI r0.1]) fun (k0:Nat)=>
 fun (v0:List Value)=>
 ifB (eqN k0 2)
 (.cast [tI] v0 fun (r14:Int×Unit)=>
 .ret 0 [vI (addI .i64 r14.1 1)]) <|
 ifB (eqN k0 1)
 (.cast [tI] v0 fun (r15:Int×Unit)=>
 .ret 0 [vI r15.1]) <|
 .fail
def F_Tree_part_Size (S:Ids) (t:(OA×Unit)):Prog:=
 .alloc [vP t.1] fun (a1:Addr)=>
 .load tP (shiftTo (some a1) 0) fun (p2:OA)=>
 .call (F_node_part_count S p2) [tI] fun (r3:Int×Unit)=>
 .ret 0 [vI r3.1]
def F_Tree_part_Upto (S:Ids) (t:(OA×Unit)) (i:Int):Prog:=
 .alloc [vP t.1] fun (a1:Addr)=>
 .alloc z5 fun (a2:Addr)=>
 .alloc z5 fun (a3:Addr)=>
 .load (Ty.agg [B.ptr]) (some a1) fun (r4:OA×Unit)=>
 .call (F_Tree_part_Size S (r4.1,())) [tI] fun (r5:Int×Unit)=>
 .load tP (shiftTo (some a1) 0) fun (p6:OA)=>
 thn 2 [] (.loop [tI,tP] ((minI i r5.1),(p6,())) fun (r0:Int×OA×Unit)=>
 thn 0 [tB] (ifB (notB (noneB r0.2.1))
 (.ret 0 [vB (gtI r0.1 0)]) <|
 .ret 0 [vB false]) fun (r1:Bool×Unit)=>
 ifB r1.1
 (fld tP r0.2.1 0 fun (p0:OA)=>
 .call (F_node_part_count S p0) [tI] fun (r2:Int×Unit)=>
 ifB (leI r0.1 r2.1)
 (fld tP r0.2.1 0 fun (p1:OA)=>
 .ret 0 [vI r0.1,vP p1]) <|
 thn 0 [] (fld tP r0.2.1 0 fun (p2:OA)=>
 ifB (notB (noneB p2))
 (.load (Ty.agg b5) (some a3) fun (r3:d5)=>
 fld tP r0.2.1 0 fun (p3:OA)=>
 fld (Ty.agg b5) p3 11 fun (r6:d5)=>
 .call (F_sums_Add S (r3.1,(r3.2.1,(r3.2.2.1,(r3.2.2.2.1,(r3.2.2.2.2.1,()))))) (r6.1,(r6.2.1,(r6.2.2.1,(r6.2.2.2.1,(r6.2.2.2.2.1,())))))) [(Ty.agg b5)] fun (r7:d5×Unit)=>
 .store (some a3) (Bs.inj b5 r7.1) <|
 .ret 0 []) <|
 .ret 0 []) fun (u0:Unit)=>
 .load (Ty.agg b5) (some a3) fun (r8:d5)=>
 fld (Ty.agg b7) r0.2.1 2 fun (r9:d7)=>
 .call (F_part_Measure S (r9.1,(r9.2.1,(r9.2.2.1,(r9.2.2.2.1,(r9.2.2.2.2.1,(r9.2.2.2.2.2.1,(r9.2.2.2.2.2.2.1,())))))))) [(Ty.agg b5)] fun (r10:d5×Unit)=>
 .check (some a3) (Bs.inj b5 r8) <|
 .call (F_sums_Add S (r8.1,(r8.2.1,(r8.2.2.1,(r8.2.2.2.1,(r8.2.2.2.2.1,()))))) (r10.1.1,(r10.1.2.1,(r10.1.2.2.1,(r10.1.2.2.2.1,(r10.1.2.2.2.2.1,())))))) [(Ty.agg b5)] fun (r11:d5×Unit)=>
 .store (some a3) (Bs.inj b5 r11.1) <|
 fld tP r0.2.1 1 fun (p4:OA)=>
 .ret 0 [vI (subI .i64 (subI .i64 r0.1 r2.1) 1),vP p4]) <|
 .ret 2 []) fun (u1:Unit)=>
 .load (Ty.agg b5) (some a3) fun (r12:d5)=>
 .store (some a2) (Bs.inj b5 r12) <|
 .load (Ty.agg b5) (some a2) fun (r13:d5)=>
 .ret 0 [(Value.agg (Bs.inj b5 r13).toArray)]
def F_Text_find (S:Ids) (t:OA) (at_:Int):Prog:=
 ifB (leI at_ 0)
 (.ret 0 [vI 0,vI 0]) <|
 fld (Ty.agg [B.ptr]) t 2 fun (r1:OA×Unit)=>
 .call (F_Tree_part_Find S (r1.1,()) (Int.ofNat 0) at_) [tI] fun (r2:Int×Unit)=>
 fld (Ty.agg [B.ptr]) t 2 fun (r3:OA×Unit)=>
 .call (F_Tree_part_Upto S (r3.1,()) (subI .i64 r2.1 1)) [(Ty.agg b5)] fun (r4:d5×Unit)=>
 .ret 0 [vI (subI .i64 r2.1 1),vI (subI .i64 at_ r4.1.1)]
def F_Tree_part_At (S:Ids) (t:(OA×Unit)) (i:Int):Prog:=
 .alloc [vP t.1] fun (a1:Addr)=>
 .alloc z7 fun (a2:Addr)=>
 .load tP (shiftTo (some a1) 0) fun (p3:OA)=>
 .bind
 (.loop [tI,tP] (i,(p3,())) fun (r0:Int×OA×Unit)=>
 thn 0 [tB] (ifB (notB (noneB r0.2.1))
 (.ret 0 [vB (geI r0.1 0)]) <|
 .ret 0 [vB false]) fun (r1:Bool×Unit)=>
 ifB r1.1
 (fld tP r0.2.1 0 fun (p0:OA)=>
 .call (F_node_part_count S p0) [tI] fun (r2:Int×Unit)=>
 ifB (eqI r0.1 r2.1)
 (fld (Ty.agg b7) r0.2.1 2 fun (r3:d7)=>
 .store (some a2) (Bs.inj b7 r3) <|
 .ret 1 [vP (some a2),vB true]) <|
 ifB (ltI r0.1 r2.1)
 (fld tP r0.2.1 0 fun (p1:OA)=>
 .ret 0 [vI r0.1,vP p1]) <|
 fld tP r0.2.1 1 fun (p2:OA)=>
 .ret 0 [vI (subI .i64 (subI .i64 r0.1 r2.1) 1),vP p2]) <|
 .ret 2 []) fun (k0:Nat)=>
 fun (v0:List Value)=>
 ifB (eqN k0 2)
 (.cast [] v0 fun (u0:Unit)=>
 .alloc z7 fun (a0:Addr)=>
 .load (Ty.agg b7) (some a0) fun (r4:d7)=>
 .store (some a2) (Bs.inj b7 r4) <|
 .load (Ty.agg b7) (some a2) fun (r5:d7)=>
 .ret 0 [(Value.agg (Bs.inj b7 r5).toArray),vB false]) <|
 ifB (eqN k0 1)
 (.cast [tP,tB] v0 fun (r6:OA×Bool×Unit)=>
 .load (Ty.agg b7) r6.1 fun (r7:d7)=>
 .ret 0 [(Value.agg (Bs.inj b7 r7).toArray),vB r6.2.1]) <|
 .fail
def F_part_cut (S:Ids) (p:d7) (enc:Int) (n:Int):Prog:=
 .alloc (Bs.inj b7 p) fun (a1:Addr)=>
 .alloc z7 fun (a2:Addr)=>
 .alloc z7 fun (a3:Addr)=>
 thn 2 [tI] (.loop [tI,tI] (n,((0:Int),())) fun (r0:Int×Int×Unit)=>
 thn 0 [tB] (ifB (gtI r0.1 0)
 (.load tS (shiftTo (some a1) 0) fun (l0:Sl)=>
 .ret 0 [vB (ltI r0.2.1 (natI l0.len))]) <|
 .ret 0 [vB false]) fun (r1:Bool×Unit)=>
 ifB r1.1
 (.load tS (shiftTo (some a1) 0) fun (l1:Sl)=>
 .call (F_codec_Next S enc l1 r0.2.1) [tI,tI] fun (r2:Int×Int×Unit)=>
 .ret 0 [vI (subI .i64 r0.1 1),vI (addI .i64 r0.2.1 r2.2.1)]) <|
 .ret 2 [vI r0.2.1]) fun (r3:Int×Unit)=>
 .load tI (shiftTo (some a1) 1) fun (n0:Int)=>
 thn 0 [tI] (ifB (geI n0 0)
 (.ret 0 [vI (addI .i64 n0 r3.1)]) <|
 .ret 0 [vI n0]) fun (r4:Int×Unit)=>
 .load tS (shiftTo (some a1) 0) fun (l2:Sl)=>
 grd (andB (leB r3.1 l2.cap) (leB r3.1 (toN r3.1))) <|
 .load tI (shiftTo (some a1) 1) fun (n1:Int)=>
 .load tS (shiftTo (some a1) 0) fun (l3:Sl)=>
 grd (leB r3.1 l3.len) <|
 .call (F_piece_newPart S enc (⟨(cutBase l2.base (toN r3.1) 0 1),(subN (toN r3.1) 0),(subN (toN r3.1) 0)⟩) n1) [(Ty.agg b7)] fun (r5:d7×Unit)=>
 .check (shiftTo (some a1) 0) [vS l3] <|
 .call (F_piece_newPart S enc (⟨(cutBase l3.base l3.cap (toN r3.1) 1),(subN l3.len (toN r3.1)),(subN l3.cap (toN r3.1))⟩) r4.1) [(Ty.agg b7)] fun (r6:d7×Unit)=>
 .store (some a2) (Bs.inj b7 r5.1) <|
 .store (some a3) (Bs.inj b7 r6.1) <|
 .load (Ty.agg b7) (some a2) fun (r7:d7)=>
 .load (Ty.agg b7) (some a3) fun (r8:d7)=>
 .ret 0 [(Value.agg (Bs.inj b7 r7).toArray),(Value.agg (Bs.inj b7 r8).toArray)]
def F_Text_ahead (S:Ids) (t:OA) (at_:Int):Prog:=
 .alloc z5 fun (a1:Addr)=>
 .call (F_Text_find S t at_) [tI,tI] fun (r2:Int×Int×Unit)=>
 fld (Ty.agg [B.ptr]) t 2 fun (r3:OA×Unit)=>
 .call (F_Tree_part_Upto S (r3.1,()) r2.1) [(Ty.agg b5)] fun (r4:d5×Unit)=>
 .alloc z5 fun (a5:Addr)=>
 .store (some a5) (Bs.inj b5 r4.1) <|
 thn 0 [] (fld (Ty.agg [B.ptr]) t 2 fun (r0:OA×Unit)=>
 .call (F_Tree_part_At S (r0.1,()) r2.1) [(Ty.agg b7),tB] fun (r1:d7×Bool×Unit)=>
 .alloc z7 fun (a0:Addr)=>
 .store (some a0) (Bs.inj b7 r1.1) <|
 ifB r1.2.1
 (thn 0 [tP] (.both (.load (Ty.agg b7) (some a0) fun (r5:d7)=>
 fld tI t 0 fun (n0:Int)=>
 .call (F_part_cut S (r5.1,(r5.2.1,(r5.2.2.1,(r5.2.2.2.1,(r5.2.2.2.2.1,(r5.2.2.2.2.2.1,(r5.2.2.2.2.2.2.1,()))))))) n0 r2.2.1) [(Ty.agg b7),(Ty.agg b7)] fun (r6:d7×d7×Unit)=>
 .alloc z7 fun (a2:Addr)=>
 .check (shiftTo t 0) [vI n0] <|
 .check (some a0) (Bs.inj b7 r5) <|
 .alloc z7 fun (a3:Addr)=>
 .check (shiftTo t 0) [vI n0] <|
 .check (some a0) (Bs.inj b7 r5) <|
 .store (some a2) (Bs.inj b7 r6.1) <|
 .store (some a3) (Bs.inj b7 r6.2.1) <|
 .ret 0 [vP (some a2)]) <|
 .both (.load (Ty.agg b7) (some a0) fun (r7:d7)=>
 fld tI t 0 fun (n1:Int)=>
 .call (F_part_cut S (r7.1,(r7.2.1,(r7.2.2.1,(r7.2.2.2.1,(r7.2.2.2.2.1,(r7.2.2.2.2.2.1,(r7.2.2.2.2.2.2.1,()))))))) n1 r2.2.1) [(Ty.agg b7),(Ty.agg b7)] fun (r8:d7×d7×Unit)=>
 .alloc z7 fun (a4:Addr)=>
 .check (shiftTo t 0) [vI n1] <|
 .check (some a0) (Bs.inj b7 r7) <|
 .alloc z7 fun (a6:Addr)=>
 .check (shiftTo t 0) [vI n1] <|
 .check (some a0) (Bs.inj b7 r7) <|
 .store (some a6) (Bs.inj b7 r8.1) <|
 .store (some a4) (Bs.inj b7 r8.2.1) <|
 .ret 0 [vP (some a6)]) <|
 .both (.load (Ty.agg b7) (some a0) fun (r9:d7)=>
 fld tI t 0 fun (n2:Int)=>
 .alloc z7 fun (a7:Addr)=>
 .check (shiftTo t 0) [vI n2] <|
 .check (some a0) (Bs.inj b7 r9) <|
 .call (F_part_cut S (r9.1,(r9.2.1,(r9.2.2.1,(r9.2.2.2.1,(r9.2.2.2.2.1,(r9.2.2.2.2.2.1,(r9.2.2.2.2.2.2.1,()))))))) n2 r2.2.1) [(Ty.agg b7),(Ty.agg b7)] fun (r10:d7×d7×Unit)=>
 .alloc z7 fun (a8:Addr)=>
 .check (shiftTo t 0) [vI n2] <|
 .check (some a0) (Bs.inj b7 r9) <|
 .store (some a7) (Bs.inj b7 r10.1) <|
 .store (some a8) (Bs.inj b7 r10.2.1) <|
 .ret 0 [vP (some a7)]) <|
 .both (.load (Ty.agg b7) (some a0) fun (r11:d7)=>
 fld tI t 0 fun (n3:Int)=>
 .alloc z7 fun (a9:Addr)=>
 .check (shiftTo t 0) [vI n3] <|
 .check (some a0) (Bs.inj b7 r11) <|
 .alloc z7 fun (a10:Addr)=>
 .check (shiftTo t 0) [vI n3] <|
 .check (some a0) (Bs.inj b7 r11) <|
 .call (F_part_cut S (r11.1,(r11.2.1,(r11.2.2.1,(r11.2.2.2.1,(r11.2.2.2.2.1,(r11.2.2.2.2.2.1,(r11.2.2.2.2.2.2.1,()))))))) n3 r2.2.1) [(Ty.agg b7),(Ty.agg b7)] fun (r12:d7×d7×Unit)=>
 .store (some a9) (Bs.inj b7 r12.1) <|
 .store (some a10) (Bs.inj b7 r12.2.1) <|
 .ret 0 [vP (some a9)]) <|
 .both (.load (Ty.agg b7) (some a0) fun (r13:d7)=>
 fld tI t 0 fun (n4:Int)=>
 .alloc z7 fun (a11:Addr)=>
 .check (shiftTo t 0) [vI n4] <|
 .check (some a0) (Bs.inj b7 r13) <|
 .call (F_part_cut S (r13.1,(r13.2.1,(r13.2.2.1,(r13.2.2.2.1,(r13.2.2.2.2.1,(r13.2.2.2.2.2.1,(r13.2.2.2.2.2.2.1,()))))))) n4 r2.2.1) [(Ty.agg b7),(Ty.agg b7)] fun (r14:d7×d7×Unit)=>
 .alloc z7 fun (a12:Addr)=>
 .check (shiftTo t 0) [vI n4] <|
 .check (some a0) (Bs.inj b7 r13) <|
 .store (some a12) (Bs.inj b7 r14.1) <|
 .store (some a11) (Bs.inj b7 r14.2.1) <|
 .ret 0 [vP (some a12)]) <|
 .load (Ty.agg b7) (some a0) fun (r15:d7)=>
 fld tI t 0 fun (n5:Int)=>
 .alloc z7 fun (a13:Addr)=>
 .check (shiftTo t 0) [vI n5] <|
 .check (some a0) (Bs.inj b7 r15) <|
 .alloc z7 fun (a14:Addr)=>
 .check (shiftTo t 0) [vI n5] <|
 .check (some a0) (Bs.inj b7 r15) <|
 .call (F_part_cut S (r15.1,(r15.2.1,(r15.2.2.1,(r15.2.2.2.1,(r15.2.2.2.2.1,(r15.2.2.2.2.2.1,(r15.2.2.2.2.2.2.1,()))))))) n5 r2.2.1) [(Ty.agg b7),(Ty.agg b7)] fun (r16:d7×d7×Unit)=>
 .store (some a14) (Bs.inj b7 r16.1) <|
 .store (some a13) (Bs.inj b7 r16.2.1) <|
 .ret 0 [vP (some a14)]) fun (r17:OA×Unit)=>
 .load (Ty.agg b5) (some a5) fun (r18:d5)=>
 grd (someB r17.1) <|
 .load (Ty.agg b5) (shiftTo r17.1 2) fun (r19:d5)=>
 .call (F_sums_Add S (r18.1,(r18.2.1,(r18.2.2.1,(r18.2.2.2.1,(r18.2.2.2.2.1,()))))) (r19.1,(r19.2.1,(r19.2.2.1,(r19.2.2.2.1,(r19.2.2.2.2.1,())))))) [(Ty.agg b5)] fun (r20:d5×Unit)=>
 .store (some a5) (Bs.inj b5 r20.1) <|
 .ret 0 []) <|
 .ret 0 []) fun (u0:Unit)=>
 .load (Ty.agg b5) (some a5) fun (r21:d5)=>
 .store (some a1) (Bs.inj b5 r21) <|
 .load (Ty.agg b5) (some a1) fun (r22:d5)=>
 .ret 0 [(Value.agg (Bs.inj b5 r22).toArray)]
def F_Text_refuse (S:Ids) (t:OA) (edits:Sl):Prog:=
 ifB (gtI (natI edits.len) 70000)
 (.ret 0 [vI 3]) <|
 .call (F_Text_Len S t) [tI] fun (r1:Int×Unit)=>
 .bind
 (.loop [tI,tI] ((0:Int),((0:Int),())) fun (r0:Int×Int×Unit)=>
 ifB (ltI r0.2.1 (natI edits.len))
 (atx (Ty.agg [bI,bI,B.sl]) edits r0.2.1 3 fun (r2:Int×Int×Sl×Unit)=>
 .alloc [vI 0,vI 0,nS] fun (a0:Addr)=>
 .store (some a0) [vI r2.1,vI r2.2.1,vS r2.2.2.1] <|
 thn 0 [tB] (.load tI (shiftTo (some a0) 0) fun (n0:Int)=>
 ifB (ltI n0 r0.1)
 (.ret 0 [vB true]) <|
 .load tI (shiftTo (some a0) 1) fun (n1:Int)=>
 .load tI (shiftTo (some a0) 0) fun (n2:Int)=>
 ifB (ltI n1 n2)
 (.ret 0 [vB true]) <|
 .load tI (shiftTo (some a0) 1) fun (n3:Int)=>
 .ret 0 [vB (gtI n3 r1.1)]) fun (r3:Bool×Unit)=>
 ifB r3.1
 (.ret 1 [vI 2]) <|
 .load tI (shiftTo (some a0) 1) fun (n4:Int)=>
 .ret 0 [vI n4,vI (addI .i64 r0.2.1 1)]) <|
 .ret 2 []) fun (k0:Nat)=>
 fun (v0:List Value)=>
 ifB (eqN k0 2)
 (.cast [] v0 fun (u0:Unit)=>
 .call (F_Text_Size S t) [tI] fun (r4:Int×Unit)=>
 .bind
 (.loop [tI,tI] (r4.1,((0:Int),())) fun (r5:Int×Int×Unit)=>
 ifB (ltI r5.2.1 (natI edits.len))
 (atx (Ty.agg [bI,bI,B.sl]) edits r5.2.1 3 fun (r6:Int×Int×Sl×Unit)=>
 .alloc [vI 0,vI 0,nS] fun (a1:Addr)=>
 .store (some a1) [vI r6.1,vI r6.2.1,vS r6.2.2.1] <|
 .load tS (shiftTo (some a1) 2) fun (l0:Sl)=>
 .bind
 (.loop [tI,tI] (r5.1,((0:Int),())) fun (r7:Int×Int×Unit)=>
 ifB (ltI r7.2.1 (natI l0.len))
 (atx tI l0 r7.2.1 1 fun (n5:Int)=>
 fld tI t 0 fun (n6:Int)=>
 .call (F_codec_Size S n6 n5) [tI] fun (r8:Int×Unit)=>
 ifB (eqI r8.1 0)
 (.ret 1 [vI 11]) <|
 .ret 0 [vI (addI .i64 r7.1 r8.1),vI (addI .i64 r7.2.1 1)]) <|
 .ret 6 [vI r7.1]) fun (k1:Nat)=>
 fun (v1:List Value)=>
 ifB (eqN k1 6)
 (.cast [tI] v1 fun (r9:Int×Unit)=>
 .ret 0 [vI r9.1,vI (addI .i64 r5.2.1 1)]) <|
 ifB (eqN k1 1)
 (.cast [tI] v1 fun (r10:Int×Unit)=>
 .ret 1 [vI r10.1]) <|
 .fail) <|
 .ret 4 [vI r5.1]) fun (k2:Nat)=>
 fun (v2:List Value)=>
 ifB (eqN k2 4)
 (.cast [tI] v2 fun (r11:Int×Unit)=>
 thn 8 [tI] (.loop [tI,tI] (r11.1,((0:Int),())) fun (r12:Int×Int×Unit)=>
 ifB (ltI r12.2.1 (natI edits.len))
 (thn 0 [tI] (atx (Ty.agg [bI,bI,B.sl]) edits r12.2.1 3 fun (r13:Int×Int×Sl×Unit)=>
 .alloc [vI 0,vI 0,nS] fun (a2:Addr)=>
 .store (some a2) [vI r13.1,vI r13.2.1,vS r13.2.2.1] <|
 .load tI (shiftTo (some a2) 1) fun (n7:Int)=>
 .load tI (shiftTo (some a2) 0) fun (n8:Int)=>
 ifB (gtI n7 n8)
 (.load tI (shiftTo (some a2) 1) fun (n9:Int)=>
 .load tI (shiftTo (some a2) 0) fun (n10:Int)=>
 .call (F_Text_ahead S t n9) [(Ty.agg b5)] fun (r14:d5×Unit)=>
 .check (shiftTo (some a2) 0) [vI n10] <|
 .call (F_Text_ahead S t n10) [(Ty.agg b5)] fun (r15:d5×Unit)=>
 .ret 0 [vI (subI .i64 r12.1 (subI .i64 r14.1.2.1 r15.1.2.1))]) <|
 .ret 0 [vI r12.1]) fun (r16:Int×Unit)=>
 .ret 0 [vI r16.1,vI (addI .i64 r12.2.1 1)]) <|
 .ret 8 [vI r12.1]) fun (r17:Int×Unit)=>
 fld tI t 1 fun (n11:Int)=>
 ifB (gtI r17.1 n11)
 (.ret 0 [vI 50]) <|
 .ret 0 [vI 0]) <|
 ifB (eqN k2 1)
 (.cast [tI] v2 fun (r18:Int×Unit)=>
 .ret 0 [vI r18.1]) <|
 .fail) <|
 ifB (eqN k0 1)
 (.cast [tI] v0 fun (r19:Int×Unit)=>
 .ret 0 [vI r19.1]) <|
 .fail
def F_Text_fresh_1 (S:Ids) (x0:OA) (x1:OA) (x2:OA) (x3:OA):Prog:=
 .load tP x0 fun (p1:OA)=>
 fld tS p1 3 fun (l2:Sl)=>
 .load tI x1 fun (n3:Int)=>
 ifB (gtI (natI l2.len) n3)
 (.load tS x2 fun (l4:Sl)=>
 .load tP x0 fun (p5:OA)=>
 fld tI p5 0 fun (n6:Int)=>
 .load tP x0 fun (p7:OA)=>
 fld tS p7 3 fun (l8:Sl)=>
 .load tI x1 fun (n9:Int)=>
 grd (andB (leB (natI l2.len) l8.cap) (andB (leB (natI l2.len) (toN (natI l2.len))) (leB n9 (toN (natI l2.len))))) <|
 .call (F_piece_newPart S n6 (⟨(cutBase l8.base (toN (natI l2.len)) (toN n9) 1),(subN (toN (natI l2.len)) (toN n9)),(subN (toN (natI l2.len)) (toN n9))⟩) (Int.negSucc 0)) [(Ty.agg b7)] fun (r0:d7×Unit)=>
 .check x2 [vS l4] <|
 .alloc (Bs.inj b7 r0.1) fun (a0:Addr)=>
 .check x2 [vS l4] <|
 .append 7 64 z7 l4 (⟨(some a0),1,1⟩) fun (l0:Sl)=>
 .store x2 [vS l0] <|
 .store x1 [vI (natI l2.len)] <|
 .store x3 [vI 0] <|
 .ret 0 []) <|
 .ret 0 []
def F_codec_Encode (S:Ids) (enc:Int) (atoms:Sl):Prog:=
 .call (F_codec_of S enc) [(Ty.one B.any)] fun (r1:Value×Unit)=>
 grd (isIface r1.1) <|
 ifB (isNilIface r1.1)
 (.ret 0 [nS,vI 0,vI 10]) <|
 .bind
 (.loop [tS,tI] ((⟨none,0,0⟩:Sl),((0:Int),())) fun (r0:Sl×Int×Unit)=>
 ifB (ltI r0.2.1 (natI atoms.len))
 (atx tI atoms r0.2.1 1 fun (n0:Int)=>
 .invoke r1.1 S.m_size [vI n0] [tI] fun (r2:Int×Unit)=>
 ifB (eqI r2.1 0)
 (.ret 1 [nS,vI r0.2.1,vI 11]) <|
 .invoke r1.1 S.m_put [vS r0.1,vI n0] [tS] fun (r3:Sl×Unit)=>
 .ret 0 [vS r3.1,vI (addI .i64 r0.2.1 1)]) <|
 .ret 2 [vS r0.1]) fun (k0:Nat)=>
 fun (v0:List Value)=>
 ifB (eqN k0 2)
 (.cast [tS] v0 fun (r4:Sl×Unit)=>
 .ret 0 [vS r4.1,vI 0,vI 0]) <|
 ifB (eqN k0 1)
 (.cast [tS,tI,tI] v0 fun (r5:Sl×Int×Int×Unit)=>
 .ret 0 [vS r5.1,vI r5.2.1,vI r5.2.2.1]) <|
 .fail
def F_Text_fresh (S:Ids) (t:OA) (put:Sl):Prog:=
 .alloc [vP t] fun (a1:Addr)=>
 .alloc [nS] fun (a2:Addr)=>
 .load tP (some a1) fun (p3:OA)=>
 fld tS p3 3 fun (l4:Sl)=>
 .alloc [vI 0] fun (a5:Addr)=>
 .store (some a5) [vI (natI l4.len)] <|
 .alloc [vI 0] fun (a6:Addr)=>
 .store (some a6) [vI 0] <|
 thn 2 [] (.loop [tI] ((0:Int),()) fun (r0:Int×Unit)=>
 ifB (ltI r0.1 (natI put.len))
 (thn 0 [] (atx tI put r0.1 1 fun (n0:Int)=>
 thn 0 [tB] (ifB (geI n0 0)
 (ifB (ltI n0 55296)
 (.ret 0 [vB true]) <|
 .ret 0 [vB (gtI n0 57343)]) <|
 .ret 0 [vB false]) fun (r1:Bool×Unit)=>
 thn 0 [] (thn 0 [tB] (ifB (notB r1.1)
 (.ret 0 [vB true]) <|
 .load tI (some a6) fun (n1:Int)=>
 .ret 0 [vB (eqI n1 128)]) fun (r2:Bool×Unit)=>
 ifB r2.1
 (.call (F_Text_fresh_1 S (some a1) (some a5) (some a2) (some a6)) [] fun (u0:Unit)=>
 .ret 0 []) <|
 .ret 0 []) fun (u1:Unit)=>
 .load tP (some a1) fun (p0:OA)=>
 fld tI p0 0 fun (n2:Int)=>
 .alloc [vI n0] fun (a0:Addr)=>
 .call (F_codec_Encode S n2 (⟨(some a0),1,1⟩)) [tS,tI,tI] fun (r3:Sl×Int×Int×Unit)=>
 .load tP (some a1) fun (p1:OA)=>
 .load tP (some a1) fun (p2:OA)=>
 fld tS p2 3 fun (l0:Sl)=>
 .append 1 1 [vU 0] l0 r3.1 fun (l1:Sl)=>
 .check (some a1) [vP p1] <|
 sto p1 3 [vS l1] <|
 .load tI (some a6) fun (n3:Int)=>
 .store (some a6) [vI (addI .i64 n3 1)] <|
 ifB (notB r1.1)
 (.call (F_Text_fresh_1 S (some a1) (some a5) (some a2) (some a6)) [] fun (u2:Unit)=>
 .ret 0 []) <|
 .ret 0 []) fun (u3:Unit)=>
 .ret 0 [vI (addI .i64 r0.1 1)]) <|
 .ret 2 []) fun (u4:Unit)=>
 .call (F_Text_fresh_1 S (some a1) (some a5) (some a2) (some a6)) [] fun (u5:Unit)=>
 .load tS (some a2) fun (l2:Sl)=>
 .ret 0 [vS l2]
def F_tree_even_part (S:Ids) (l:OA) (x:d7) (r:OA):Prog:=
 .alloc (Bs.inj b7 x) fun (a1:Addr)=>
 .call (F_node_part_tall S l) [tI] fun (r2:Int×Unit)=>
 .call (F_node_part_tall S r) [tI] fun (r3:Int×Unit)=>
 ifB (gtI r2.1 (addI .i64 r3.1 1))
 (fld tP l 0 fun (p4:OA)=>
 fld tP l 1 fun (p5:OA)=>
 .call (F_node_part_tall S p4) [tI] fun (r6:Int×Unit)=>
 .check (shiftTo l 1) [vP p5] <|
 .call (F_node_part_tall S p5) [tI] fun (r7:Int×Unit)=>
 ifB (geI r6.1 r7.1)
 (fld tP l 0 fun (p8:OA)=>
 fld (Ty.agg b7) l 2 fun (r9:d7)=>
 fld tP l 1 fun (p0:OA)=>
 .load (Ty.agg b7) (some a1) fun (r0:d7)=>
 .call (F_tree_of_part S p0 (r0.1,(r0.2.1,(r0.2.2.1,(r0.2.2.2.1,(r0.2.2.2.2.1,(r0.2.2.2.2.2.1,(r0.2.2.2.2.2.2.1,()))))))) r) [tP] fun (r1:OA×Unit)=>
 .check (shiftTo l 2) (Bs.inj b7 r9) <|
 .check (shiftTo l 0) [vP p8] <|
 .call (F_tree_of_part S p8 (r9.1,(r9.2.1,(r9.2.2.1,(r9.2.2.2.1,(r9.2.2.2.2.1,(r9.2.2.2.2.2.1,(r9.2.2.2.2.2.2.1,()))))))) r1.1) [tP] fun (r4:OA×Unit)=>
 .ret 0 [vP r4.1]) <|
 fld tP l 1 fun (p1:OA)=>
 fld tP l 0 fun (p2:OA)=>
 fld (Ty.agg b7) l 2 fun (r5:d7)=>
 fld tP p1 0 fun (p3:OA)=>
 fld (Ty.agg b7) p1 2 fun (r8:d7)=>
 fld tP p1 1 fun (p6:OA)=>
 .load (Ty.agg b7) (some a1) fun (r10:d7)=>
 .call (F_tree_of_part S p2 (r5.1,(r5.2.1,(r5.2.2.1,(r5.2.2.2.1,(r5.2.2.2.2.1,(r5.2.2.2.2.2.1,(r5.2.2.2.2.2.2.1,()))))))) p3) [tP] fun (r14:OA×Unit)=>
 .check (some a1) (Bs.inj b7 r10) <|
 .check (shiftTo p1 1) [vP p6] <|
 .check (shiftTo p1 2) (Bs.inj b7 r8) <|
 .call (F_tree_of_part S p6 (r10.1,(r10.2.1,(r10.2.2.1,(r10.2.2.2.1,(r10.2.2.2.2.1,(r10.2.2.2.2.2.1,(r10.2.2.2.2.2.2.1,()))))))) r) [tP] fun (r15:OA×Unit)=>
 .check (shiftTo p1 2) (Bs.inj b7 r8) <|
 .call (F_tree_of_part S r14.1 (r8.1,(r8.2.1,(r8.2.2.1,(r8.2.2.2.1,(r8.2.2.2.2.1,(r8.2.2.2.2.2.1,(r8.2.2.2.2.2.2.1,()))))))) r15.1) [tP] fun (r17:OA×Unit)=>
 .ret 0 [vP r17.1]) <|
 .call (F_node_part_tall S r) [tI] fun (r19:Int×Unit)=>
 .call (F_node_part_tall S l) [tI] fun (r26:Int×Unit)=>
 ifB (gtI r19.1 (addI .i64 r26.1 1))
 (fld tP r 1 fun (p7:OA)=>
 fld tP r 0 fun (p9:OA)=>
 .call (F_node_part_tall S p7) [tI] fun (r27:Int×Unit)=>
 .check (shiftTo r 0) [vP p9] <|
 .call (F_node_part_tall S p9) [tI] fun (r31:Int×Unit)=>
 ifB (geI r27.1 r31.1)
 (.load (Ty.agg b7) (some a1) fun (r33:d7)=>
 fld tP r 0 fun (p11:OA)=>
 fld (Ty.agg b7) r 2 fun (r36:d7)=>
 fld tP r 1 fun (p12:OA)=>
 .call (F_tree_of_part S l (r33.1,(r33.2.1,(r33.2.2.1,(r33.2.2.2.1,(r33.2.2.2.2.1,(r33.2.2.2.2.2.1,(r33.2.2.2.2.2.2.1,()))))))) p11) [tP] fun (r38:OA×Unit)=>
 .check (shiftTo r 1) [vP p12] <|
 .check (shiftTo r 2) (Bs.inj b7 r36) <|
 .call (F_tree_of_part S r38.1 (r36.1,(r36.2.1,(r36.2.2.1,(r36.2.2.2.1,(r36.2.2.2.2.1,(r36.2.2.2.2.2.1,(r36.2.2.2.2.2.2.1,()))))))) p12) [tP] fun (r40:OA×Unit)=>
 .ret 0 [vP r40.1]) <|
 fld tP r 0 fun (p13:OA)=>
 .load (Ty.agg b7) (some a1) fun (r42:d7)=>
 fld tP p13 0 fun (p16:OA)=>
 fld (Ty.agg b7) p13 2 fun (r48:d7)=>
 fld tP p13 1 fun (p18:OA)=>
 fld (Ty.agg b7) r 2 fun (r49:d7)=>
 fld tP r 1 fun (p20:OA)=>
 .call (F_tree_of_part S l (r42.1,(r42.2.1,(r42.2.2.1,(r42.2.2.2.1,(r42.2.2.2.2.1,(r42.2.2.2.2.2.1,(r42.2.2.2.2.2.2.1,()))))))) p16) [tP] fun (r50:OA×Unit)=>
 .check (shiftTo r 1) [vP p20] <|
 .check (shiftTo r 2) (Bs.inj b7 r49) <|
 .check (shiftTo p13 1) [vP p18] <|
 .check (shiftTo p13 2) (Bs.inj b7 r48) <|
 .call (F_tree_of_part S p18 (r49.1,(r49.2.1,(r49.2.2.1,(r49.2.2.2.1,(r49.2.2.2.2.1,(r49.2.2.2.2.2.1,(r49.2.2.2.2.2.2.1,()))))))) p20) [tP] fun (r51:OA×Unit)=>
 .check (shiftTo p13 2) (Bs.inj b7 r48) <|
 .call (F_tree_of_part S r50.1 (r48.1,(r48.2.1,(r48.2.2.1,(r48.2.2.2.1,(r48.2.2.2.2.1,(r48.2.2.2.2.2.1,(r48.2.2.2.2.2.2.1,()))))))) r51.1) [tP] fun (r52:OA×Unit)=>
 .ret 0 [vP r52.1]) <|
 .load (Ty.agg b7) (some a1) fun (r53:d7)=>
 .call (F_tree_of_part S l (r53.1,(r53.2.1,(r53.2.2.1,(r53.2.2.2.1,(r53.2.2.2.2.1,(r53.2.2.2.2.2.1,(r53.2.2.2.2.2.2.1,()))))))) r) [tP] fun (r54:OA×Unit)=>
 .ret 0 [vP r54.1]
def R_tree_join_part (fuelN:Nat) (S:Ids) (l:OA) (x:d7) (r:OA):Prog:=
 match fuelN with
 | 0=>.fail
 | fuelN+1=>
  .alloc (Bs.inj b7 x) fun (a1:Addr)=>
  .call (F_node_part_tall S l) [tI] fun (r2:Int×Unit)=>
  .call (F_node_part_tall S r) [tI] fun (r3:Int×Unit)=>
  ifB (gtI r2.1 (addI .i64 r3.1 1))
  (fld tP l 0 fun (p4:OA)=>
  fld (Ty.agg b7) l 2 fun (r5:d7)=>
  fld tP l 1 fun (p6:OA)=>
  .load (Ty.agg b7) (some a1) fun (r7:d7)=>
  .call (R_tree_join_part fuelN S p6 (r7.1,(r7.2.1,(r7.2.2.1,(r7.2.2.2.1,(r7.2.2.2.2.1,(r7.2.2.2.2.2.1,(r7.2.2.2.2.2.2.1,()))))))) r) [tP] fun (r8:OA×Unit)=>
  .check (shiftTo l 2) (Bs.inj b7 r5) <|
  .check (shiftTo l 0) [vP p4] <|
  .call (F_tree_even_part S p4 (r5.1,(r5.2.1,(r5.2.2.1,(r5.2.2.2.1,(r5.2.2.2.2.1,(r5.2.2.2.2.2.1,(r5.2.2.2.2.2.2.1,()))))))) r8.1) [tP] fun (r9:OA×Unit)=>
  .ret 0 [vP r9.1]) <|
  .call (F_node_part_tall S r) [tI] fun (r0:Int×Unit)=>
  .call (F_node_part_tall S l) [tI] fun (r1:Int×Unit)=>
  ifB (gtI r0.1 (addI .i64 r1.1 1))
  (.load (Ty.agg b7) (some a1) fun (r4:d7)=>
  fld tP r 0 fun (p0:OA)=>
  fld (Ty.agg b7) r 2 fun (r6:d7)=>
  fld tP r 1 fun (p1:OA)=>
  .call (R_tree_join_part fuelN S l (r4.1,(r4.2.1,(r4.2.2.1,(r4.2.2.2.1,(r4.2.2.2.2.1,(r4.2.2.2.2.2.1,(r4.2.2.2.2.2.2.1,()))))))) p0) [tP] fun (r13:OA×Unit)=>
  .check (shiftTo r 1) [vP p1] <|
  .check (shiftTo r 2) (Bs.inj b7 r6) <|
  .call (F_tree_even_part S r13.1 (r6.1,(r6.2.1,(r6.2.2.1,(r6.2.2.2.1,(r6.2.2.2.2.1,(r6.2.2.2.2.2.1,(r6.2.2.2.2.2.2.1,()))))))) p1) [tP] fun (r15:OA×Unit)=>
  .ret 0 [vP r15.1]) <|
  .load (Ty.agg b7) (some a1) fun (r20:d7)=>
  .call (F_tree_of_part S l (r20.1,(r20.2.1,(r20.2.2.1,(r20.2.2.2.1,(r20.2.2.2.2.1,(r20.2.2.2.2.2.1,(r20.2.2.2.2.2.2.1,()))))))) r) [tP] fun (r21:OA×Unit)=>
  .ret 0 [vP r21.1]
def F_tree_join_part (S:Ids) (l:OA) (x:d7) (r:OA):Prog:=.ex fun fuelN=>R_tree_join_part fuelN S l x r
def R_node_part_cut (fuelN:Nat) (S:Ids) (n:OA) (i:Int):Prog:=
 match fuelN with
 | 0=>.fail
 | fuelN+1=>
  ifB (noneB n)
  (.ret 0 [vP none,vP none]) <|
  fld tP n 0 fun (p1:OA)=>
  .call (F_node_part_count S p1) [tI] fun (r2:Int×Unit)=>
  ifB (leI i r2.1)
  (fld tP n 0 fun (p3:OA)=>
  .call (R_node_part_cut fuelN S p3 i) [tP,tP] fun (r4:OA×OA×Unit)=>
  fld (Ty.agg b7) n 2 fun (r5:d7)=>
  fld tP n 1 fun (p6:OA)=>
  .call (F_tree_join_part S r4.2.1 (r5.1,(r5.2.1,(r5.2.2.1,(r5.2.2.2.1,(r5.2.2.2.2.1,(r5.2.2.2.2.2.1,(r5.2.2.2.2.2.2.1,()))))))) p6) [tP] fun (r7:OA×Unit)=>
  .ret 0 [vP r4.1,vP r7.1]) <|
  fld tP n 1 fun (p8:OA)=>
  .call (R_node_part_cut fuelN S p8 (subI .i64 (subI .i64 i r2.1) 1)) [tP,tP] fun (r9:OA×OA×Unit)=>
  fld tP n 0 fun (p0:OA)=>
  fld (Ty.agg b7) n 2 fun (r0:d7)=>
  .call (F_tree_join_part S p0 (r0.1,(r0.2.1,(r0.2.2.1,(r0.2.2.2.1,(r0.2.2.2.2.1,(r0.2.2.2.2.2.1,(r0.2.2.2.2.2.2.1,()))))))) r9.1) [tP] fun (r1:OA×Unit)=>
  .ret 0 [vP r1.1,vP r9.2.1]
def F_node_part_cut (S:Ids) (n:OA) (i:Int):Prog:=.ex fun fuelN=>R_node_part_cut fuelN S n i
def R_node_part_first (fuelN:Nat) (S:Ids) (n:OA):Prog:=
 match fuelN with
 | 0=>.fail
 | fuelN+1=>
  .alloc z7 fun (a1:Addr)=>
  fld tP n 0 fun (p2:OA)=>
  ifB (noneB p2)
  (fld (Ty.agg b7) n 2 fun (r3:d7)=>
  fld tP n 1 fun (p4:OA)=>
  .store (some a1) (Bs.inj b7 r3) <|
  .check (shiftTo n 1) [vP p4] <|
  .load (Ty.agg b7) (some a1) fun (r5:d7)=>
  .ret 0 [(Value.agg (Bs.inj b7 r5).toArray),vP p4]) <|
  fld tP n 0 fun (p6:OA)=>
  .call (R_node_part_first fuelN S p6) [(Ty.agg b7),tP] fun (r7:d7×OA×Unit)=>
  .alloc z7 fun (a8:Addr)=>
  .store (some a8) (Bs.inj b7 r7.1) <|
  .load (Ty.agg b7) (some a8) fun (r9:d7)=>
  fld (Ty.agg b7) n 2 fun (r0:d7)=>
  fld tP n 1 fun (p0:OA)=>
  .call (F_tree_even_part S r7.2.1 (r0.1,(r0.2.1,(r0.2.2.1,(r0.2.2.2.1,(r0.2.2.2.2.1,(r0.2.2.2.2.2.1,(r0.2.2.2.2.2.2.1,()))))))) p0) [tP] fun (r1:OA×Unit)=>
  .check (some a8) (Bs.inj b7 r9) <|
  .store (some a1) (Bs.inj b7 r9) <|
  .load (Ty.agg b7) (some a1) fun (r2:d7)=>
  .ret 0 [(Value.agg (Bs.inj b7 r2).toArray),vP r1.1]
def F_node_part_first (S:Ids) (n:OA):Prog:=.ex fun fuelN=>R_node_part_first fuelN S n
def F_tree_both_part (S:Ids) (l:OA) (r:OA):Prog:=
 ifB (noneB r)
 (.ret 0 [vP l]) <|
 .call (F_node_part_first S r) [(Ty.agg b7),tP] fun (r1:d7×OA×Unit)=>
 .alloc z7 fun (a2:Addr)=>
 .store (some a2) (Bs.inj b7 r1.1) <|
 .load (Ty.agg b7) (some a2) fun (r3:d7)=>
 .call (F_tree_join_part S l (r3.1,(r3.2.1,(r3.2.2.1,(r3.2.2.2.1,(r3.2.2.2.2.1,(r3.2.2.2.2.2.1,(r3.2.2.2.2.2.2.1,()))))))) r1.2.1) [tP] fun (r4:OA×Unit)=>
 .ret 0 [vP r4.1]
def F_Tree_part_Replace (S:Ids) (t:(OA×Unit)) (from_:Int) (to:Int) (items:Sl):Prog:=
 .alloc [vP t.1] fun (a1:Addr)=>
 .alloc [vP none] fun (a2:Addr)=>
 thn 0 [tB] (ifB (ltI from_ 0)
 (.ret 0 [vB true]) <|
 ifB (gtI from_ to)
 (.ret 0 [vB true]) <|
 .load (Ty.agg [B.ptr]) (some a1) fun (r0:OA×Unit)=>
 .call (F_Tree_part_Size S (r0.1,())) [tI] fun (r1:Int×Unit)=>
 .ret 0 [vB (gtI to r1.1)]) fun (r2:Bool×Unit)=>
 ifB r2.1
 (.store (some a2) [vP none] <|
 .load (Ty.agg [B.ptr]) (some a2) fun (r3:OA×Unit)=>
 .ret 0 [(Value.agg (#[vP r3.1])),(vI 1)]) <|
 .load tP (shiftTo (some a1) 0) fun (p0:OA)=>
 .call (F_node_part_cut S p0 from_) [tP,tP] fun (r4:OA×OA×Unit)=>
 .load tP (shiftTo (some a1) 0) fun (p1:OA)=>
 .call (F_node_part_cut S p1 to) [tP,tP] fun (r5:OA×OA×Unit)=>
 .call (F_tree_build_part S items) [tP] fun (r6:OA×Unit)=>
 .call (F_tree_both_part S r4.1 r6.1) [tP] fun (r7:OA×Unit)=>
 .call (F_tree_both_part S r7.1 r5.2.1) [tP] fun (r8:OA×Unit)=>
 .store (some a2) [vP r8.1] <|
 .load (Ty.agg [B.ptr]) (some a2) fun (r9:OA×Unit)=>
 .ret 0 [(Value.agg (#[vP r9.1])),(vI 0)]
def F_Text_replace (S:Ids) (t:OA) (from_:Int) (to:Int) (put:Sl):Prog:=
 .call (F_Text_find S t from_) [tI,tI] fun (r1:Int×Int×Unit)=>
 .call (F_Text_find S t to) [tI,tI] fun (r2:Int×Int×Unit)=>
 thn 0 [tS] (fld (Ty.agg [B.ptr]) t 2 fun (r0:OA×Unit)=>
 .call (F_Tree_part_At S (r0.1,()) r1.1) [(Ty.agg b7),tB] fun (r3:d7×Bool×Unit)=>
 .alloc z7 fun (a0:Addr)=>
 .store (some a0) (Bs.inj b7 r3.1) <|
 thn 0 [tB] (ifB r3.2.1
 (.ret 0 [vB (gtI r1.2.1 0)]) <|
 .ret 0 [vB false]) fun (r4:Bool×Unit)=>
 ifB r4.1
 (thn 0 [tP] (.both (.load (Ty.agg b7) (some a0) fun (r5:d7)=>
 fld tI t 0 fun (n0:Int)=>
 .call (F_part_cut S (r5.1,(r5.2.1,(r5.2.2.1,(r5.2.2.2.1,(r5.2.2.2.2.1,(r5.2.2.2.2.2.1,(r5.2.2.2.2.2.2.1,()))))))) n0 r1.2.1) [(Ty.agg b7),(Ty.agg b7)] fun (r6:d7×d7×Unit)=>
 .alloc z7 fun (a1:Addr)=>
 .check (shiftTo t 0) [vI n0] <|
 .check (some a0) (Bs.inj b7 r5) <|
 .alloc z7 fun (a2:Addr)=>
 .check (shiftTo t 0) [vI n0] <|
 .check (some a0) (Bs.inj b7 r5) <|
 .store (some a1) (Bs.inj b7 r6.1) <|
 .store (some a2) (Bs.inj b7 r6.2.1) <|
 .ret 0 [vP (some a1)]) <|
 .both (.load (Ty.agg b7) (some a0) fun (r7:d7)=>
 fld tI t 0 fun (n1:Int)=>
 .call (F_part_cut S (r7.1,(r7.2.1,(r7.2.2.1,(r7.2.2.2.1,(r7.2.2.2.2.1,(r7.2.2.2.2.2.1,(r7.2.2.2.2.2.2.1,()))))))) n1 r1.2.1) [(Ty.agg b7),(Ty.agg b7)] fun (r8:d7×d7×Unit)=>
 .alloc z7 fun (a3:Addr)=>
 .check (shiftTo t 0) [vI n1] <|
 .check (some a0) (Bs.inj b7 r7) <|
 .alloc z7 fun (a4:Addr)=>
 .check (shiftTo t 0) [vI n1] <|
 .check (some a0) (Bs.inj b7 r7) <|
 .store (some a4) (Bs.inj b7 r8.1) <|
 .store (some a3) (Bs.inj b7 r8.2.1) <|
 .ret 0 [vP (some a4)]) <|
 .both (.load (Ty.agg b7) (some a0) fun (r9:d7)=>
 fld tI t 0 fun (n2:Int)=>
 .alloc z7 fun (a5:Addr)=>
 .check (shiftTo t 0) [vI n2] <|
 .check (some a0) (Bs.inj b7 r9) <|
 .call (F_part_cut S (r9.1,(r9.2.1,(r9.2.2.1,(r9.2.2.2.1,(r9.2.2.2.2.1,(r9.2.2.2.2.2.1,(r9.2.2.2.2.2.2.1,()))))))) n2 r1.2.1) [(Ty.agg b7),(Ty.agg b7)] fun (r10:d7×d7×Unit)=>
 .alloc z7 fun (a6:Addr)=>
 .check (shiftTo t 0) [vI n2] <|
 .check (some a0) (Bs.inj b7 r9) <|
 .store (some a5) (Bs.inj b7 r10.1) <|
 .store (some a6) (Bs.inj b7 r10.2.1) <|
 .ret 0 [vP (some a5)]) <|
 .both (.load (Ty.agg b7) (some a0) fun (r11:d7)=>
 fld tI t 0 fun (n3:Int)=>
 .alloc z7 fun (a7:Addr)=>
 .check (shiftTo t 0) [vI n3] <|
 .check (some a0) (Bs.inj b7 r11) <|
 .alloc z7 fun (a8:Addr)=>
 .check (shiftTo t 0) [vI n3] <|
 .check (some a0) (Bs.inj b7 r11) <|
 .call (F_part_cut S (r11.1,(r11.2.1,(r11.2.2.1,(r11.2.2.2.1,(r11.2.2.2.2.1,(r11.2.2.2.2.2.1,(r11.2.2.2.2.2.2.1,()))))))) n3 r1.2.1) [(Ty.agg b7),(Ty.agg b7)] fun (r12:d7×d7×Unit)=>
 .store (some a7) (Bs.inj b7 r12.1) <|
 .store (some a8) (Bs.inj b7 r12.2.1) <|
 .ret 0 [vP (some a7)]) <|
 .both (.load (Ty.agg b7) (some a0) fun (r13:d7)=>
 fld tI t 0 fun (n4:Int)=>
 .alloc z7 fun (a9:Addr)=>
 .check (shiftTo t 0) [vI n4] <|
 .check (some a0) (Bs.inj b7 r13) <|
 .call (F_part_cut S (r13.1,(r13.2.1,(r13.2.2.1,(r13.2.2.2.1,(r13.2.2.2.2.1,(r13.2.2.2.2.2.1,(r13.2.2.2.2.2.2.1,()))))))) n4 r1.2.1) [(Ty.agg b7),(Ty.agg b7)] fun (r14:d7×d7×Unit)=>
 .alloc z7 fun (a10:Addr)=>
 .check (shiftTo t 0) [vI n4] <|
 .check (some a0) (Bs.inj b7 r13) <|
 .store (some a10) (Bs.inj b7 r14.1) <|
 .store (some a9) (Bs.inj b7 r14.2.1) <|
 .ret 0 [vP (some a10)]) <|
 .load (Ty.agg b7) (some a0) fun (r15:d7)=>
 fld tI t 0 fun (n5:Int)=>
 .alloc z7 fun (a11:Addr)=>
 .check (shiftTo t 0) [vI n5] <|
 .check (some a0) (Bs.inj b7 r15) <|
 .alloc z7 fun (a12:Addr)=>
 .check (shiftTo t 0) [vI n5] <|
 .check (some a0) (Bs.inj b7 r15) <|
 .call (F_part_cut S (r15.1,(r15.2.1,(r15.2.2.1,(r15.2.2.2.1,(r15.2.2.2.2.1,(r15.2.2.2.2.2.1,(r15.2.2.2.2.2.2.1,()))))))) n5 r1.2.1) [(Ty.agg b7),(Ty.agg b7)] fun (r16:d7×d7×Unit)=>
 .store (some a12) (Bs.inj b7 r16.1) <|
 .store (some a11) (Bs.inj b7 r16.2.1) <|
 .ret 0 [vP (some a12)]) fun (r17:OA×Unit)=>
 .load (Ty.agg b7) r17.1 fun (r18:d7)=>
 .alloc (Bs.inj b7 r18) fun (a13:Addr)=>
 .append 7 64 z7 (⟨none,0,0⟩) (⟨(some a13),1,1⟩) fun (l0:Sl)=>
 .ret 0 [vS l0]) <|
 .ret 0 [nS]) fun (r19:Sl×Unit)=>
 .call (F_Text_fresh S t put) [tS] fun (r20:Sl×Unit)=>
 .append 7 64 z7 r19.1 r20.1 fun (l1:Sl)=>
 thn 0 [tS] (fld (Ty.agg [B.ptr]) t 2 fun (r21:OA×Unit)=>
 .call (F_Tree_part_At S (r21.1,()) r2.1) [(Ty.agg b7),tB] fun (r22:d7×Bool×Unit)=>
 .alloc z7 fun (a14:Addr)=>
 .store (some a14) (Bs.inj b7 r22.1) <|
 ifB r22.2.1
 (thn 0 [tP] (.both (.load (Ty.agg b7) (some a14) fun (r23:d7)=>
 fld tI t 0 fun (n6:Int)=>
 .call (F_part_cut S (r23.1,(r23.2.1,(r23.2.2.1,(r23.2.2.2.1,(r23.2.2.2.2.1,(r23.2.2.2.2.2.1,(r23.2.2.2.2.2.2.1,()))))))) n6 r2.2.1) [(Ty.agg b7),(Ty.agg b7)] fun (r24:d7×d7×Unit)=>
 .alloc z7 fun (a15:Addr)=>
 .check (shiftTo t 0) [vI n6] <|
 .check (some a14) (Bs.inj b7 r23) <|
 .alloc z7 fun (a16:Addr)=>
 .check (shiftTo t 0) [vI n6] <|
 .check (some a14) (Bs.inj b7 r23) <|
 .store (some a15) (Bs.inj b7 r24.1) <|
 .store (some a16) (Bs.inj b7 r24.2.1) <|
 .ret 0 [vP (some a16)]) <|
 .both (.load (Ty.agg b7) (some a14) fun (r25:d7)=>
 fld tI t 0 fun (n7:Int)=>
 .call (F_part_cut S (r25.1,(r25.2.1,(r25.2.2.1,(r25.2.2.2.1,(r25.2.2.2.2.1,(r25.2.2.2.2.2.1,(r25.2.2.2.2.2.2.1,()))))))) n7 r2.2.1) [(Ty.agg b7),(Ty.agg b7)] fun (r26:d7×d7×Unit)=>
 .alloc z7 fun (a17:Addr)=>
 .check (shiftTo t 0) [vI n7] <|
 .check (some a14) (Bs.inj b7 r25) <|
 .alloc z7 fun (a18:Addr)=>
 .check (shiftTo t 0) [vI n7] <|
 .check (some a14) (Bs.inj b7 r25) <|
 .store (some a18) (Bs.inj b7 r26.1) <|
 .store (some a17) (Bs.inj b7 r26.2.1) <|
 .ret 0 [vP (some a17)]) <|
 .both (.load (Ty.agg b7) (some a14) fun (r27:d7)=>
 fld tI t 0 fun (n8:Int)=>
 .alloc z7 fun (a19:Addr)=>
 .check (shiftTo t 0) [vI n8] <|
 .check (some a14) (Bs.inj b7 r27) <|
 .call (F_part_cut S (r27.1,(r27.2.1,(r27.2.2.1,(r27.2.2.2.1,(r27.2.2.2.2.1,(r27.2.2.2.2.2.1,(r27.2.2.2.2.2.2.1,()))))))) n8 r2.2.1) [(Ty.agg b7),(Ty.agg b7)] fun (r28:d7×d7×Unit)=>
 .alloc z7 fun (a20:Addr)=>
 .check (shiftTo t 0) [vI n8] <|
 .check (some a14) (Bs.inj b7 r27) <|
 .store (some a19) (Bs.inj b7 r28.1) <|
 .store (some a20) (Bs.inj b7 r28.2.1) <|
 .ret 0 [vP (some a20)]) <|
 .both (.load (Ty.agg b7) (some a14) fun (r29:d7)=>
 fld tI t 0 fun (n9:Int)=>
 .alloc z7 fun (a21:Addr)=>
 .check (shiftTo t 0) [vI n9] <|
 .check (some a14) (Bs.inj b7 r29) <|
 .alloc z7 fun (a22:Addr)=>
 .check (shiftTo t 0) [vI n9] <|
 .check (some a14) (Bs.inj b7 r29) <|
 .call (F_part_cut S (r29.1,(r29.2.1,(r29.2.2.1,(r29.2.2.2.1,(r29.2.2.2.2.1,(r29.2.2.2.2.2.1,(r29.2.2.2.2.2.2.1,()))))))) n9 r2.2.1) [(Ty.agg b7),(Ty.agg b7)] fun (r30:d7×d7×Unit)=>
 .store (some a21) (Bs.inj b7 r30.1) <|
 .store (some a22) (Bs.inj b7 r30.2.1) <|
 .ret 0 [vP (some a22)]) <|
 .both (.load (Ty.agg b7) (some a14) fun (r31:d7)=>
 fld tI t 0 fun (n10:Int)=>
 .alloc z7 fun (a23:Addr)=>
 .check (shiftTo t 0) [vI n10] <|
 .check (some a14) (Bs.inj b7 r31) <|
 .call (F_part_cut S (r31.1,(r31.2.1,(r31.2.2.1,(r31.2.2.2.1,(r31.2.2.2.2.1,(r31.2.2.2.2.2.1,(r31.2.2.2.2.2.2.1,()))))))) n10 r2.2.1) [(Ty.agg b7),(Ty.agg b7)] fun (r32:d7×d7×Unit)=>
 .alloc z7 fun (a24:Addr)=>
 .check (shiftTo t 0) [vI n10] <|
 .check (some a14) (Bs.inj b7 r31) <|
 .store (some a24) (Bs.inj b7 r32.1) <|
 .store (some a23) (Bs.inj b7 r32.2.1) <|
 .ret 0 [vP (some a23)]) <|
 .load (Ty.agg b7) (some a14) fun (r33:d7)=>
 fld tI t 0 fun (n11:Int)=>
 .alloc z7 fun (a25:Addr)=>
 .check (shiftTo t 0) [vI n11] <|
 .check (some a14) (Bs.inj b7 r33) <|
 .alloc z7 fun (a26:Addr)=>
 .check (shiftTo t 0) [vI n11] <|
 .check (some a14) (Bs.inj b7 r33) <|
 .call (F_part_cut S (r33.1,(r33.2.1,(r33.2.2.1,(r33.2.2.2.1,(r33.2.2.2.2.1,(r33.2.2.2.2.2.1,(r33.2.2.2.2.2.2.1,()))))))) n11 r2.2.1) [(Ty.agg b7),(Ty.agg b7)] fun (r34:d7×d7×Unit)=>
 .store (some a26) (Bs.inj b7 r34.1) <|
 .store (some a25) (Bs.inj b7 r34.2.1) <|
 .ret 0 [vP (some a25)]) fun (r35:OA×Unit)=>
 grd (someB r35.1) <|
 grd (someB (shiftTo r35.1 2)) <|
 .load tI (shiftTo (shiftTo r35.1 2) 0) fun (n12:Int)=>
 ifB (gtI n12 0)
 (.load (Ty.agg b7) r35.1 fun (r36:d7)=>
 .alloc (Bs.inj b7 r36) fun (a27:Addr)=>
 .append 7 64 z7 l1 (⟨(some a27),1,1⟩) fun (l2:Sl)=>
 .ret 0 [vS l2]) <|
 .ret 0 [vS l1]) <|
 .ret 0 [vS l1]) fun (r37:Sl×Unit)=>
 fld (Ty.agg [B.ptr]) t 2 fun (r38:OA×Unit)=>
 fld (Ty.agg [B.ptr]) t 2 fun (r39:OA×Unit)=>
 .call (F_Tree_part_Size S (r39.1,())) [tI] fun (r40:Int×Unit)=>
 .check (shiftTo t 2) [vP r38.1] <|
 .call (F_Tree_part_Replace S (r38.1,()) r1.1 (minI (addI .i64 r2.1 1) r40.1) r37.1) [(Ty.agg [B.ptr]),tI] fun (r41:((OA×Unit)×Int×Unit))=>
 sto t 2 [vP r41.1.1] <|
 .ret 0 []
def F_Text_Change (S:Ids) (t:OA) (edits:Sl):Prog:=
 .call (F_Text_refuse S t edits) [tI] fun (r1:Int×Unit)=>
 ifB (neI r1.1 0)
 (.ret 0 [vI r1.1]) <|
 thn 2 [] (.loop [tI] ((subI .i64 (natI edits.len) 1),()) fun (r0:Int×Unit)=>
 ifB (geI r0.1 0)
 (thn 0 [] (atx (Ty.agg [bI,bI,B.sl]) edits r0.1 3 fun (r2:Int×Int×Sl×Unit)=>
 .alloc [vI 0,vI 0,nS] fun (a0:Addr)=>
 .store (some a0) [vI r2.1,vI r2.2.1,vS r2.2.2.1] <|
 thn 0 [tB] (.load tI (shiftTo (some a0) 0) fun (n0:Int)=>
 .load tI (shiftTo (some a0) 1) fun (n1:Int)=>
 ifB (ltI n0 n1)
 (.ret 0 [vB true]) <|
 .load tS (shiftTo (some a0) 2) fun (l0:Sl)=>
 .ret 0 [vB (gtI (natI l0.len) 0)]) fun (r3:Bool×Unit)=>
 ifB r3.1
 (.load tI (shiftTo (some a0) 0) fun (n2:Int)=>
 .load tI (shiftTo (some a0) 1) fun (n3:Int)=>
 .load tS (shiftTo (some a0) 2) fun (l1:Sl)=>
 .call (F_Text_replace S t n2 n3 l1) [] fun (u0:Unit)=>
 .ret 0 []) <|
 .ret 0 []) fun (u1:Unit)=>
 .ret 0 [vI (subI .i64 r0.1 1)]) <|
 .ret 2 []) fun (u2:Unit)=>
 .ret 0 [vI 0]
def F_history_goes (S:Ids) (m:Int) (l:Sl):Prog:=
 thn 2 [tI,tB] (.loop [tI,tB,tI] (m,(true,((subI .i64 (natI l.len) 1),()))) fun (r0:Int×Bool×Int×Unit)=>
 ifB (geI r0.2.2.1 0)
 (thn 0 [tI,tB] (atx (Ty.agg [bI,bI,bI]) l r0.2.2.1 3 fun (r1:Int×Int×Int×Unit)=>
 .alloc [vI 0,vI 0,vI 0] fun (a0:Addr)=>
 .store (some a0) [vI r1.1,vI r1.2.1,vI r1.2.2.1] <|
 .load tI (shiftTo (some a0) 0) fun (n0:Int)=>
 ifB (ltI r0.1 n0)
 (.ret 0 [vI r0.1,vB r0.2.1]) <|
 .load tI (shiftTo (some a0) 1) fun (n1:Int)=>
 ifB (geI r0.1 n1)
 (.load tI (shiftTo (some a0) 2) fun (n2:Int)=>
 .load tI (shiftTo (some a0) 1) fun (n3:Int)=>
 .load tI (shiftTo (some a0) 0) fun (n4:Int)=>
 .ret 0 [vI (addI .i64 r0.1 (subI .i64 n2 (subI .i64 n3 n4))),vB r0.2.1]) <|
 .load tI (shiftTo (some a0) 0) fun (n5:Int)=>
 .load tI (shiftTo (some a0) 0) fun (n6:Int)=>
 .load tI (shiftTo (some a0) 2) fun (n7:Int)=>
 .ret 0 [vI (addI .i64 n5 (minI (subI .i64 r0.1 n6) n7)),vB false]) fun (r2:Int×Bool×Unit)=>
 .ret 0 [vI r2.1,vB r2.2.1,vI (subI .i64 r0.2.2.1 1)]) <|
 .ret 2 [vI r0.1,vB r0.2.1]) fun (r3:Int×Bool×Unit)=>
 .ret 0 [vI r3.1,vB r3.2.1]
def F_Book_follow (S:Ids) (b:OA) (l:Sl):Prog:=
 fld (Ty.one B.map) b 4 fun (p1:Option Nat)=>
 .miter p1 fun (a2:Addr)=>
 thn 2 [] (.loop [] () fun (u0:Unit)=>
 .mnext (some a2) (fun (n0:Int)=>
 fun (n1:Int)=>
 .mentry (some a2) fun (n2:Int)=>
 fun (n3:Int)=>
 fld (Ty.one B.map) b 4 fun (p0:Option Nat)=>
 .call (F_history_goes S n3 l) [tI,tB] fun (r0:Int×Bool×Unit)=>
 .check (shiftTo b 4) [(Value.map p0)] <|
 .mput p0 n2 r0.1 <|
 .ret 0 []) <|
 .ret 2 []) fun (u1:Unit)=>
 fld tS b 5 fun (l0:Sl)=>
 thn 4 [] (.loop [tI] ((0:Int),()) fun (r1:Int×Unit)=>
 ifB (ltI r1.1 (natI l0.len))
 (thn 0 [] (atx tI l0 r1.1 1 fun (n4:Int)=>
 ifB (ltI n4 0)
 (.ret 0 []) <|
 .call (F_history_goes S n4 l) [tI,tB] fun (r2:Int×Bool×Unit)=>
 thn 0 [tI] (ifB (notB r2.2.1)
 (.ret 0 [vI (-1)]) <|
 .ret 0 [vI r2.1]) fun (r3:Int×Unit)=>
 fld tS b 5 fun (l1:Sl)=>
 grd (andB (someB l1.base) (inB r1.1 l1.len)) <|
 .store (shiftTo l1.base (mulN (toN r1.1) 1)) [vI r3.1] <|
 .ret 0 []) fun (u2:Unit)=>
 .ret 0 [vI (addI .i64 r1.1 1)]) <|
 .ret 4 []) fun (u3:Unit)=>
 .ret 0 []
def F_Book_Change (S:Ids) (b:OA) (edits:Sl):Prog:=
 fld tP b 6 fun (p1:OA)=>
 ifB (noneB p1)
 (.ret 0 [vI 71]) <|
 fld tP b 0 fun (p2:OA)=>
 .call (F_Text_Change S p2 edits) [tI] fun (r3:Int×Unit)=>
 ifB (neI r3.1 0)
 (.ret 0 [vI r3.1]) <|
 .mk 24 [vI 0,vI 0,vI 0] (natI edits.len) (natI edits.len) fun (l4:Sl)=>
 thn 2 [] (.loop [tI] ((0:Int),()) fun (r0:Int×Unit)=>
 ifB (ltI r0.1 (natI edits.len))
 (thn 0 [] (atx (Ty.agg [bI,bI,B.sl]) edits r0.1 3 fun (r1:Int×Int×Sl×Unit)=>
 .alloc [vI 0,vI 0,nS] fun (a0:Addr)=>
 .store (some a0) [vI r1.1,vI r1.2.1,vS r1.2.2.1] <|
 .load tI (shiftTo (some a0) 0) fun (n0:Int)=>
 .load tI (shiftTo (some a0) 1) fun (n1:Int)=>
 .load tS (shiftTo (some a0) 2) fun (l0:Sl)=>
 grd (andB (someB l4.base) (inB r0.1 l4.len)) <|
 .store (shiftTo l4.base (mulN (toN r0.1) 3)) [vI n0,vI n1,vI (natI l0.len)] <|
 thn 0 [tB] (.load tI (shiftTo (some a0) 0) fun (n2:Int)=>
 .load tI (shiftTo (some a0) 1) fun (n3:Int)=>
 ifB (ltI n2 n3)
 (.ret 0 [vB true]) <|
 .load tS (shiftTo (some a0) 2) fun (l1:Sl)=>
 .ret 0 [vB (gtI (natI l1.len) 0)]) fun (r2:Bool×Unit)=>
 ifB r2.1
 (fld tP b 6 fun (p0:OA)=>
 sto p0 9 [vB true] <|
 .ret 0 []) <|
 .ret 0 []) fun (u0:Unit)=>
 .ret 0 [vI (addI .i64 r0.1 1)]) <|
 .ret 2 []) fun (u1:Unit)=>
 fld tP b 6 fun (p3:OA)=>
 fld tP b 6 fun (p4:OA)=>
 grd (someB p4) <|
 grd (someB p4) <|
 grd (someB (shiftTo p4 0)) <|
 .load tS (shiftTo (shiftTo p4 0) 4) fun (l2:Sl)=>
 .alloc [vS l4] fun (a1:Addr)=>
 .check (shiftTo (shiftTo p4 0) 4) [vS l2] <|
 .check (shiftTo b 6) [vP p4] <|
 .check (shiftTo b 6) [vP p3] <|
 .append 1 24 [nS] l2 (⟨(some a1),1,1⟩) fun (l3:Sl)=>
 .check (shiftTo b 6) [vP p3] <|
 grd (someB p3) <|
 grd (someB p3) <|
 grd (someB (shiftTo p3 0)) <|
 .store (shiftTo (shiftTo p3 0) 4) [vS l3] <|
 .call (F_Book_follow S b l4) [] fun (u2:Unit)=>
 .ret 0 [vI 0]
def F_Book_shut (S:Ids) (b:OA):Prog:=
 sto b 6 [vP none] <|
 .ret 0 []
def F_slices_Delete_history_group__history_group___ (S:Ids) (s:Sl) (i:Int) (j:Int):Prog:=
 grd (andB (leB (natI s.len) s.cap) (andB (leB j (toN (natI s.len))) (leB i (toN j)))) <|
 ifB (eqI i j)
 (.ret 0 [vS s]) <|
 grd (leB i s.cap) <|
 grd (leB j s.len) <|
 .append 1 8 [vP none] (⟨(cutBase s.base s.cap 0 1),(subN (toN i) 0),(subN s.cap 0)⟩) (⟨(cutBase s.base s.cap (toN j) 1),(subN s.len (toN j)),(subN s.cap (toN j))⟩) fun (l1:Sl)=>
 grd (andB (leB (natI s.len) l1.cap) (leB (natI l1.len) (toN (natI s.len)))) <|
 .clear [vP none] (⟨(cutBase l1.base l1.cap (toN (natI l1.len)) 1),(subN (toN (natI s.len)) (toN (natI l1.len))),(subN l1.cap (toN (natI l1.len)))⟩) <|
 .ret 0 [vS l1]
def F_Book_End (S:Ids) (b:OA) (at_:Int):Prog:=
 fld tP b 6 fun (p1:OA)=>
 ifB (noneB p1)
 (.ret 0 [vI 71]) <|
 .call (F_Book_inside S b at_) [tB] fun (r2:Bool×Unit)=>
 ifB (notB r2.1)
 (.ret 0 [vI 2]) <|
 .deferv S.f_Book_shut [vP b] <|
 fld tP b 6 fun (p3:OA)=>
 fld tB p3 9 fun (b4:Bool)=>
 ifB (notB b4)
 (.ret 0 [vI 0]) <|
 fld tI b 9 fun (n5:Int)=>
 sto b 9 [vI (addI .i64 n5 1)] <|
 fld tP b 6 fun (p6:OA)=>
 fld (Ty.agg [B.ptr,B.ptr,bI,bI,B.sl,bI,bI]) p6 0 fun (r7:OA×OA×Int×Int×Sl×Int×Int×Unit)=>
 .alloc [vP none,vP none,vI 0,vI 0,nS,vI 0,vI 0] fun (a8:Addr)=>
 .store (some a8) [vP r7.1,vP r7.2.1,vI r7.2.2.1,vI r7.2.2.2.1,vS r7.2.2.2.2.1,vI r7.2.2.2.2.2.1,vI r7.2.2.2.2.2.2.1] <|
 fld tP b 0 fun (p9:OA)=>
 fld tI b 9 fun (n0:Int)=>
 .call (F_Text_Snap S p9) [tP] fun (r0:OA×Unit)=>
 .check (shiftTo b 9) [vI n0] <|
 .store (shiftTo (some a8) 1) [vP r0.1] <|
 .store (shiftTo (some a8) 3) [vI at_] <|
 .store (shiftTo (some a8) 6) [vI n0] <|
 fld tI b 9 fun (n1:Int)=>
 sto b 7 [vI n1] <|
 sto b 3 [nS] <|
 fld tS b 2 fun (l0:Sl)=>
 .alloc [vP (some a8)] fun (a0:Addr)=>
 .append 1 8 [vP none] l0 (⟨(some a0),1,1⟩) fun (l1:Sl)=>
 sto b 2 [vS l1] <|
 thn 0 [] (fld tS b 2 fun (l2:Sl)=>
 fld tI b 1 fun (n2:Int)=>
 ifB (gtI (natI l2.len) n2)
 (fld tS b 2 fun (l3:Sl)=>
 .call (F_slices_Delete_history_group__history_group___ S l3 (Int.ofNat 0) (Int.ofNat 1)) [tS] fun (r1:Sl×Unit)=>
 sto b 2 [vS r1.1] <|
 .ret 0 []) <|
 .ret 0 []) fun (u0:Unit)=>
 .ret 0 [vI 0]
def F_law7_group (S:Ids) (b:OA) (cuts:Sl) (at_:Int):Prog:=
 .call (F_Book_Text S b) [tP] fun (r1:OA×Unit)=>
 .call (F_Text_Len S r1.1) [tI] fun (r2:Int×Unit)=>
 .call (F_law7_slot S at_ r2.1) [tI] fun (r3:Int×Unit)=>
 .call (F_Book_Begin S b r3.1) [tI] fun (r4:Int×Unit)=>
 .call (F_law7_num S r4.1) [tI] fun (r5:Int×Unit)=>
 ifB (neI r5.1 0)
 (.ret 0 [vB false]) <|
 .bind
 (.loop [tI] ((0:Int),()) fun (r0:Int×Unit)=>
 ifB (ltI r0.1 (natI cuts.len))
 (atx (Ty.agg [bI,bI,B.sl]) cuts r0.1 3 fun (r6:Int×Int×Sl×Unit)=>
 .call (F_Text_Len S r1.1) [tI] fun (r7:Int×Unit)=>
 .check (shiftTo cuts.base (mulN (toN r0.1) 3)) [vI r6.1,vI r6.2.1,vS r6.2.2.1] <|
 .call (F_law7_edit S (r6.1,(r6.2.1,(r6.2.2.1,()))) r7.1) [(Ty.agg [bI,bI,B.sl])] fun (r8:((Int×Int×Sl×Unit)×Unit))=>
 .alloc [vI r8.1.1,vI r8.1.2.1,vS r8.1.2.2.1] fun (a0:Addr)=>
 .call (F_Book_Change S b (⟨(some a0),1,1⟩)) [tI] fun (r9:Int×Unit)=>
 .call (F_law7_num S r9.1) [tI] fun (r10:Int×Unit)=>
 ifB (neI r10.1 0)
 (.ret 1 [vB false]) <|
 .ret 0 [vI (addI .i64 r0.1 1)]) <|
 .ret 2 []) fun (k0:Nat)=>
 fun (v0:List Value)=>
 ifB (eqN k0 2)
 (.cast [] v0 fun (u0:Unit)=>
 .call (F_Text_Len S r1.1) [tI] fun (r11:Int×Unit)=>
 .call (F_law7_slot S at_ r11.1) [tI] fun (r12:Int×Unit)=>
 .call (F_Book_End S b r12.1) [tI] fun (r13:Int×Unit)=>
 .call (F_law7_num S r13.1) [tI] fun (r14:Int×Unit)=>
 .ret 0 [vB (eqI r14.1 0)]) <|
 ifB (eqN k0 1)
 (.cast [tB] v0 fun (r15:Bool×Unit)=>
 .ret 0 [vB r15.1]) <|
 .fail
def F_Text_Back (S:Ids) (t:OA) (s:OA):Prog:=
 thn 0 [tB] (ifB (noneB s)
 (.ret 0 [vB true]) <|
 fld tP s 0 fun (p7:OA)=>
 .peq p7 t fun (b8:Bool)=>
 .ret 0 [vB (notB b8)]) fun (r0:Bool×Unit)=>
 ifB r0.1
 (.ret 0 [vI 51]) <|
 fld (Ty.agg [B.ptr]) s 1 fun (r1:OA×Unit)=>
 sto t 2 [vP r1.1] <|
 .ret 0 [vI 0]
def F_history_inverse (S:Ids) (l:Sl):Prog:=
 .mk 24 [vI 0,vI 0,vI 0] (natI l.len) (natI l.len) fun (l1:Sl)=>
 thn 2 [] (.loop [tI,tI] ((0:Int),((0:Int),())) fun (r0:Int×Int×Unit)=>
 ifB (ltI r0.2.1 (natI l.len))
 (atx (Ty.agg [bI,bI,bI]) l r0.2.1 3 fun (r1:Int×Int×Int×Unit)=>
 .alloc [vI 0,vI 0,vI 0] fun (a0:Addr)=>
 .store (some a0) [vI r1.1,vI r1.2.1,vI r1.2.2.1] <|
 .load tI (shiftTo (some a0) 0) fun (n0:Int)=>
 .load tI (shiftTo (some a0) 0) fun (n1:Int)=>
 .load tI (shiftTo (some a0) 2) fun (n2:Int)=>
 .load tI (shiftTo (some a0) 1) fun (n3:Int)=>
 .load tI (shiftTo (some a0) 0) fun (n4:Int)=>
 grd (andB (someB l1.base) (inB r0.2.1 l1.len)) <|
 .store (shiftTo l1.base (mulN (toN r0.2.1) 3)) [vI (addI .i64 n0 r0.1),vI (addI .i64 (addI .i64 n1 r0.1) n2),vI (subI .i64 n3 n4)] <|
 .load tI (shiftTo (some a0) 2) fun (n5:Int)=>
 .load tI (shiftTo (some a0) 1) fun (n6:Int)=>
 .load tI (shiftTo (some a0) 0) fun (n7:Int)=>
 .ret 0 [vI (addI .i64 r0.1 (subI .i64 n5 (subI .i64 n6 n7))),vI (addI .i64 r0.2.1 1)]) <|
 .ret 2 []) fun (u0:Unit)=>
 .ret 0 [vS l1]
def F_Book_Undo (S:Ids) (b:OA):Prog:=
 fld tP b 6 fun (p1:OA)=>
 ifB (notB (noneB p1))
 (.ret 0 [vI 0,vI 70]) <|
 fld tS b 2 fun (l2:Sl)=>
 ifB (eqI (natI l2.len) 0)
 (.ret 0 [vI 0,vI 72]) <|
 fld tS b 2 fun (l3:Sl)=>
 grd (andB (someB l3.base) (inB (subI .i64 (natI l2.len) 1) l3.len)) <|
 .load tP (shiftTo l3.base (mulN (toN (subI .i64 (natI l2.len) 1)) 1)) fun (p4:OA)=>
 fld tS b 2 fun (l5:Sl)=>
 grd (leB (subI .i64 (natI l2.len) 1) l5.cap) <|
 fld tS b 3 fun (l6:Sl)=>
 .alloc [vP p4] fun (a7:Addr)=>
 .check (shiftTo b 3) [vS l6] <|
 .check (shiftTo b 2) [vS l5] <|
 .append 1 8 [vP none] l6 (⟨(some a7),1,1⟩) fun (l8:Sl)=>
 .check (shiftTo b 2) [vS l5] <|
 sto b 2 [(Value.slice (cutBase l5.base l5.cap 0 1) (subN (toN (subI .i64 (natI l2.len) 1)) 0) (subN l5.cap 0))] <|
 sto b 3 [vS l8] <|
 fld tP b 0 fun (p9:OA)=>
 fld tP p4 0 fun (p0:OA)=>
 .call (F_Text_Back S p9 p0) [tI] fun (r0:Int×Unit)=>
 fld tS p4 4 fun (l0:Sl)=>
 thn 2 [] (.loop [tI] ((subI .i64 (natI l0.len) 1),()) fun (r1:Int×Unit)=>
 ifB (geI r1.1 0)
 (fld tS p4 4 fun (l1:Sl)=>
 atx tS l1 r1.1 1 fun (l4:Sl)=>
 .call (F_history_inverse S l4) [tS] fun (r2:Sl×Unit)=>
 .call (F_Book_follow S b r2.1) [] fun (u0:Unit)=>
 .ret 0 [vI (subI .i64 r1.1 1)]) <|
 .ret 2 []) fun (u1:Unit)=>
 fld tI p4 5 fun (n0:Int)=>
 sto b 7 [vI n0] <|
 fld tI p4 2 fun (n1:Int)=>
 .ret 0 [vI n1,vI 0]
def F_Book_Depth (S:Ids) (b:OA):Prog:=
 fld tS b 2 fun (l1:Sl)=>
 fld tS b 3 fun (l2:Sl)=>
 .ret 0 [vI (natI l1.len),vI (natI l2.len)]
def F_Tree_part_Items (S:Ids) (t:(OA×Unit)) (from_:Int):Prog:=
 .alloc [vP t.1] fun (a1:Addr)=>
 .alloc [vI from_] fun (a2:Addr)=>
 .ret 0 [(Value.func (Fn.func S.f_Tree_part_Items_1) #[] (#[vP (some a1),vP (some a2)]))]
def F_Text_walk (S:Ids) (t:OA) (from_:Int) (to:Int) (see:Value):Prog:=
 .alloc [vP t] fun (a1:Addr)=>
 grd (flatB see) <|
 .alloc [see] fun (a2:Addr)=>
 .load tP (some a1) fun (p3:OA)=>
 .call (F_Text_Len S p3) [tI] fun (r4:Int×Unit)=>
 ifB (geI (maxI from_ 0) (minI to r4.1))
 (.ret 0 []) <|
 .load tP (some a1) fun (p5:OA)=>
 .call (F_Text_find S p5 (maxI from_ 0)) [tI,tI] fun (r6:Int×Int×Unit)=>
 .alloc [vI 0] fun (a7:Addr)=>
 .store (some a7) [vI r6.2.1] <|
 .alloc [vI 0] fun (a8:Addr)=>
 .store (some a8) [vI (subI .i64 (minI to r4.1) (maxI from_ 0))] <|
 .load tP (some a1) fun (p9:OA)=>
 fld (Ty.agg [B.ptr]) p9 2 fun (r0:OA×Unit)=>
 .call (F_Tree_part_Items S (r0.1,()) r6.1) [(Ty.one B.any)] fun (r1:Value×Unit)=>
 .range r1.1 [(Ty.agg b7)] [tP] (fun (r2:d7×Unit)=>
 .alloc z7 fun (a0:Addr)=>
 .store (some a0) (Bs.inj b7 r2.1) <|
 .ret 0 [vP (some a0)]) (fun (r3:OA×Unit)=>
 .bind
 (.loop [tI] ((0:Int),()) fun (r5:Int×Unit)=>
 grd (someB r3.1) <|
 .load tS (shiftTo r3.1 0) fun (l0:Sl)=>
 ifB (ltI r5.1 (natI l0.len))
 (.load tP (some a1) fun (p0:OA)=>
 fld tI p0 0 fun (n0:Int)=>
 grd (someB r3.1) <|
 .load tS (shiftTo r3.1 0) fun (l1:Sl)=>
 .call (F_codec_Next S n0 l1 r5.1) [tI,tI] fun (r7:Int×Int×Unit)=>
 .bind
 (.load tI (some a7) fun (n1:Int)=>
 ifB (gtI n1 0)
 (.load tI (some a7) fun (n2:Int)=>
 .store (some a7) [vI (subI .i64 n2 1)] <|
 .ret 0 []) <|
 thn 0 [] (grd (someB r3.1) <|
 .load tI (shiftTo r3.1 1) fun (n3:Int)=>
 ifB (ltI n3 0)
 (.load (Ty.one B.any) (some a2) fun (c0:Value)=>
 .callv c0 [vI r7.1,vI (-1)] [] fun (u0:Unit)=>
 .ret 0 []) <|
 .load (Ty.one B.any) (some a2) fun (c1:Value)=>
 grd (someB r3.1) <|
 .load tI (shiftTo r3.1 1) fun (n4:Int)=>
 .callv c1 [vI r7.1,vI (addI .i64 n4 r5.1)] [] fun (u1:Unit)=>
 .ret 0 []) fun (u2:Unit)=>
 .load tI (some a8) fun (n5:Int)=>
 .store (some a8) [vI (subI .i64 n5 1)] <|
 .load tI (some a8) fun (n6:Int)=>
 ifB (eqI n6 0)
 (.ret 1 []) <|
 .ret 0 []) fun (k0:Nat)=>
 fun (v0:List Value)=>
 ifB (eqN k0 1)
 (.cast [] v0 fun (u3:Unit)=>
 .ret 1 []) <|
 ifB (eqN k0 0)
 (.cast [] v0 fun (u4:Unit)=>
 .ret 0 [vI (addI .i64 r5.1 r7.2.1)]) <|
 .fail) <|
 .ret 4 []) fun (k1:Nat)=>
 fun (v1:List Value)=>
 ifB (eqN k1 4)
 (.cast [] v1 fun (u5:Unit)=>
 .ret 0 []) <|
 ifB (eqN k1 1)
 (.cast [] v1 fun (u6:Unit)=>
 .ret 1 []) <|
 .fail) fun (k2:Nat)=>
 ifB (eqN k2 1)
 (.ret 0 []) <|
 ifB (eqN k2 0)
 (.ret 0 []) <|
 .fail
def F_Text_Tags (S:Ids) (t:OA) (from_:Int) (to:Int):Prog:=
 .alloc [nS] fun (a1:Addr)=>
 .call (F_Text_walk S t from_ to (Value.func (Fn.func S.f_Text_Tags_1) #[] (#[vP (some a1)]))) [] fun (u2:Unit)=>
 .load tS (some a1) fun (l3:Sl)=>
 .ret 0 [vS l3]
def F_history_isName (S:Ids) (n:Int):Prog:=
 thn 0 [tB] (ifB (geI n 97)
 (ifB (leI n 122)
 (.ret 0 [vB true]) <|
 ifB (eqI n 39)
 (.ret 0 [vB true]) <|
 ifB (eqI n 60)
 (.ret 0 [vB true]) <|
 .ret 0 [vB (eqI n 62)]) <|
 ifB (eqI n 39)
 (.ret 0 [vB true]) <|
 ifB (eqI n 60)
 (.ret 0 [vB true]) <|
 .ret 0 [vB (eqI n 62)]) fun (r6:Bool×Unit)=>
 .ret 0 [vB r6.1]
def F_Book_SetMark (S:Ids) (b:OA) (name:Int) (at_:Int):Prog:=
 .call (F_history_isName S name) [tB] fun (r1:Bool×Unit)=>
 ifB (notB r1.1)
 (.ret 0 [vI 74]) <|
 .call (F_Book_inside S b at_) [tB] fun (r2:Bool×Unit)=>
 ifB (notB r2.1)
 (.ret 0 [vI 2]) <|
 fld (Ty.one B.map) b 4 fun (p3:Option Nat)=>
 .mput p3 name at_ <|
 .ret 0 [vI 0]
def F_Book_Watch (S:Ids) (b:OA) (offsets:Sl):Prog:=
 .bind
 (.loop [tI] ((0:Int),()) fun (r0:Int×Unit)=>
 ifB (ltI r0.1 (natI offsets.len))
 (atx tI offsets r0.1 1 fun (n0:Int)=>
 .call (F_Book_inside S b n0) [tB] fun (r1:Bool×Unit)=>
 ifB (notB r1.1)
 (.ret 1 [vI 2]) <|
 .ret 0 [vI (addI .i64 r0.1 1)]) <|
 .ret 2 []) fun (k0:Nat)=>
 fun (v0:List Value)=>
 ifB (eqN k0 2)
 (.cast [] v0 fun (u0:Unit)=>
 .call (F_slices_Cloneint_int___ S offsets) [tS] fun (r2:Sl×Unit)=>
 sto b 5 [vS r2.1] <|
 .ret 0 [vI 0]) <|
 ifB (eqN k0 1)
 (.cast [tI] v0 fun (r3:Int×Unit)=>
 .ret 0 [vI r3.1]) <|
 .fail
def F_Book_Watched (S:Ids) (b:OA):Prog:=
 fld tS b 5 fun (l1:Sl)=>
 .call (F_slices_Cloneint_int___ S l1) [tS] fun (r2:Sl×Unit)=>
 .ret 0 [vS r2.1]
def F_Text_Tags_1 (S:Ids) (x0:Int) (tag:Int) (x2:OA):Prog:=
 .load tS x2 fun (l1:Sl)=>
 .alloc [vI tag] fun (a2:Addr)=>
 .append 1 8 [vI 0] l1 (⟨(some a2),1,1⟩) fun (l3:Sl)=>
 .store x2 [vS l3] <|
 .ret 0 []
def F_Tree_part_Items_1 (S:Ids) (yield:Value) (x1:OA) (x2:OA):Prog:=
 grd (flatB yield) <|
 .alloc [yield] fun (a1:Addr)=>
 .alloc [Value.nilFunc] fun (a2:Addr)=>
 .store (some a2) [(Value.func (Fn.func S.f_Tree_part_Items_1_1) #[] (#[vP (some a2),vP (some a1)]))] <|
 .load (Ty.one B.any) (some a2) fun (c3:Value)=>
 grd (someB x1) <|
 .load tP (shiftTo x1 0) fun (p4:OA)=>
 .load tI x2 fun (n5:Int)=>
 .callv c3 [vP p4,vI (maxI 0 n5)] [tB] fun (r6:Bool×Unit)=>
 .ret 0 []
def F_Tree_part_Items_1_1 (S:Ids) (n:OA) (from_:Int) (x2:OA) (x3:OA):Prog:=
 thn 0 [tB] (ifB (noneB n)
 (.ret 0 [vB true]) <|
 fld tI n 9 fun (n0:Int)=>
 .ret 0 [vB (geI from_ n0)]) fun (r0:Bool×Unit)=>
 ifB r0.1
 (.ret 0 [vB true]) <|
 fld tP n 0 fun (p0:OA)=>
 .call (F_node_part_count S p0) [tI] fun (r1:Int×Unit)=>
 thn 0 [tB] (ifB (ltI from_ r1.1)
 (.load (Ty.one B.any) x2 fun (c0:Value)=>
 fld tP n 0 fun (p1:OA)=>
 .callv c0 [vP p1,vI from_] [tB] fun (r2:Bool×Unit)=>
 .ret 0 [vB (notB r2.1)]) <|
 .ret 0 [vB false]) fun (r3:Bool×Unit)=>
 ifB r3.1
 (.ret 0 [vB false]) <|
 thn 0 [tB] (ifB (leI from_ r1.1)
 (.load (Ty.one B.any) x3 fun (c1:Value)=>
 fld (Ty.agg b7) n 2 fun (r4:d7)=>
 .callv c1 [(Value.agg (Bs.inj b7 r4).toArray)] [tB] fun (r5:Bool×Unit)=>
 .ret 0 [vB (notB r5.1)]) <|
 .ret 0 [vB false]) fun (r6:Bool×Unit)=>
 ifB r6.1
 (.ret 0 [vB false]) <|
 .load (Ty.one B.any) x2 fun (c2:Value)=>
 fld tP n 1 fun (p2:OA)=>
 .callv c2 [vP p2,vI (maxI 0 (subI .i64 (subI .i64 from_ r1.1) 1))] [tB] fun (r7:Bool×Unit)=>
 .ret 0 [vB r7.1]
def F_codec_bounds (S:Ids) (c:Int):Prog:=
 ifB (ltI c 128)
 (.ret 0 [vI 1,vU 0,vU 0]) <|
 ifB (ltI c 194)
 (.ret 0 [vI 0,vU 0,vU 0]) <|
 ifB (ltI c 224)
 (.ret 0 [vI 2,vU 128,vU 191]) <|
 ifB (eqI c 224)
 (.ret 0 [vI 3,vU 160,vU 191]) <|
 ifB (eqI c 237)
 (.ret 0 [vI 3,vU 128,vU 159]) <|
 ifB (ltI c 240)
 (.ret 0 [vI 3,vU 128,vU 191]) <|
 ifB (eqI c 240)
 (.ret 0 [vI 4,vU 144,vU 191]) <|
 ifB (ltI c 244)
 (.ret 0 [vI 4,vU 128,vU 191]) <|
 ifB (eqI c 244)
 (.ret 0 [vI 4,vU 128,vU 143]) <|
 .ret 0 [vI 0,vU 0,vU 0]
def F_codec_row (S:Ids) (b:Sl):Prog:=
 grd (andB (someB b.base) (inB 0 b.len)) <|
 .load tU (shiftTo b.base 0) fun (n1:Int)=>
 .call (F_codec_bounds S n1) [tI,tU,tU] fun (r2:Int×Int×Int×Unit)=>
 ifB (ltI r2.1 2)
 (.ret 0 [vI r2.1,vI r2.1]) <|
 thn 0 [tB] (ifB (ltI (natI b.len) 2)
 (.ret 0 [vB true]) <|
 grd (andB (someB b.base) (inB 1 b.len)) <|
 .load tU (shiftTo b.base 1) fun (n0:Int)=>
 ifB (ltI n0 r2.2.1)
 (.ret 0 [vB true]) <|
 grd (andB (someB b.base) (inB 1 b.len)) <|
 .load tU (shiftTo b.base 1) fun (n2:Int)=>
 .ret 0 [vB (gtI n2 r2.2.2.1)]) fun (r0:Bool×Unit)=>
 ifB r0.1
 (.ret 0 [vI 1,vI r2.1]) <|
 thn 2 [tI] (.loop [tI] ((2:Int),()) fun (r1:Int×Unit)=>
 thn 0 [tB] (ifB (ltI r1.1 r2.1)
 (ifB (ltI r1.1 (natI b.len))
 (atx tU b r1.1 1 fun (n3:Int)=>
 .ret 0 [vB (eqI (andI .u8 n3 192) 128)]) <|
 .ret 0 [vB false]) <|
 .ret 0 [vB false]) fun (r3:Bool×Unit)=>
 ifB r3.1
 (.ret 0 [vI (addI .i64 r1.1 1)]) <|
 .ret 2 [vI r1.1]) fun (r4:Int×Unit)=>
 .ret 0 [vI r4.1,vI r2.1]
def F_eight_first (S:Ids) (x0:(Unit)) (b:Sl):Prog:=
 .alloc [] fun (a1:Addr)=>
 .call (F_codec_row S b) [tI,tI] fun (r2:Int×Int×Unit)=>
 thn 0 [tB] (ifB (eqI r2.2.1 0)
 (.ret 0 [vB true]) <|
 .ret 0 [vB (ltI r2.1 r2.2.1)]) fun (r0:Bool×Unit)=>
 ifB r0.1
 (grd (andB (someB b.base) (inB 0 b.len)) <|
 .load tU (shiftTo b.base 0) fun (n0:Int)=>
 .ret 0 [vI (subI .i64 (-1) (wrapI .i64 n0)),vI 1]) <|
 grd (andB (someB b.base) (inB 0 b.len)) <|
 .load tU (shiftTo b.base 0) fun (n1:Int)=>
 thn 0 [tI] (ifB (eqI r2.2.1 2)
 (.ret 0 [vI (andI .i64 (wrapI .i64 n1) 31)]) <|
 ifB (eqI r2.2.1 3)
 (.ret 0 [vI (andI .i64 (wrapI .i64 n1) 15)]) <|
 ifB (eqI r2.2.1 4)
 (.ret 0 [vI (andI .i64 (wrapI .i64 n1) 7)]) <|
 .ret 0 [vI (wrapI .i64 n1)]) fun (r1:Int×Unit)=>
 grd (andB (leB r2.2.1 b.cap) (leB 1 (toN r2.2.1))) <|
 thn 3 [tI] (.loop [tI,tI] (r1.1,((0:Int),())) fun (r3:Int×Int×Unit)=>
 ifB (ltI r3.2.1 (natI (subN (toN r2.2.1) 1)))
 (grd (andB (someB (cutBase b.base b.cap 1 1)) (inB r3.2.1 (subN (toN r2.2.1) 1))) <|
 .load tU (shiftTo (cutBase b.base b.cap 1 1) (mulN (toN r3.2.1) 1)) fun (n2:Int)=>
 grd (notB false) <|
 .ret 0 [vI (orI .i64 (shlI .i64 r3.1 6) (wrapI .i64 (andI .u8 n2 63))),vI (addI .i64 r3.2.1 1)]) <|
 .ret 3 [vI r3.1]) fun (r4:Int×Unit)=>
 .ret 0 [vI r4.1,vI r2.2.1]
def F_eight_size (S:Ids) (x0:(Unit)) (a:Int):Prog:=
 .alloc [] fun (a1:Addr)=>
 thn 0 [tB] (ifB (ltI a (-256))
 (.ret 0 [vB true]) <|
 ifB (gtI a (-129))
 (ifB (ltI a 0)
 (.ret 0 [vB true]) <|
 ifB (gtI a 1114111)
 (.ret 0 [vB true]) <|
 ifB (geI a 55296)
 (.ret 0 [vB (leI a 57343)]) <|
 .ret 0 [vB false]) <|
 ifB (gtI a 1114111)
 (.ret 0 [vB true]) <|
 ifB (geI a 55296)
 (.ret 0 [vB (leI a 57343)]) <|
 .ret 0 [vB false]) fun (r7:Bool×Unit)=>
 ifB r7.1
 (.ret 0 [vI 0]) <|
 ifB (ltI a 128)
 (.ret 0 [vI 1]) <|
 ifB (ltI a 2048)
 (.ret 0 [vI 2]) <|
 ifB (ltI a 65536)
 (.ret 0 [vI 3]) <|
 .ret 0 [vI 4]
def F_eight_put (S:Ids) (e:(Unit)) (out:Sl) (a:Int):Prog:=
 .alloc [] fun (a1:Addr)=>
 .load (Ty.agg []) (some a1) fun (u2:Unit)=>
 .call (F_eight_size S () a) [tI] fun (r3:Int×Unit)=>
 ifB (ltI a 0)
 (.alloc [vU (wrapI .u8 (subI .i64 (-1) a))] fun (a4:Addr)=>
 .append 1 1 [vU 0] out (⟨(some a4),1,1⟩) fun (l5:Sl)=>
 .ret 0 [vS l5]) <|
 ifB (eqI r3.1 1)
 (.alloc [vU (wrapI .u8 a)] fun (a6:Addr)=>
 .append 1 1 [vU 0] out (⟨(some a6),1,1⟩) fun (l7:Sl)=>
 .ret 0 [vS l7]) <|
 .alloc [vU 0,vU 0,vU 0,vU 0,vU 0] fun (a8:Addr)=>
 .store (some a8) [vU 0,vU 0,vU 192,vU 224,vU 240] <|
 grd (inB r3.1 5) <|
 .load tU (shiftTo (some a8) (mulN (toN r3.1) 1)) fun (n9:Int)=>
 grd (notB (ltI (mulI .i64 6 (subI .i64 r3.1 1)) 0)) <|
 .alloc [vU (orI .u8 n9 (wrapI .u8 (shrI .i64 a (mulI .i64 6 (subI .i64 r3.1 1)))))] fun (a0:Addr)=>
 .append 1 1 [vU 0] out (⟨(some a0),1,1⟩) fun (l0:Sl)=>
 thn 2 [tS] (.loop [tS,tI] (l0,((subI .i64 r3.1 2),())) fun (r0:Sl×Int×Unit)=>
 ifB (geI r0.2.1 0)
 (grd (notB (ltI (mulI .i64 6 r0.2.1) 0)) <|
 .alloc [vU (orI .u8 128 (andI .u8 (wrapI .u8 (shrI .i64 a (mulI .i64 6 r0.2.1))) 63))] fun (a2:Addr)=>
 .append 1 1 [vU 0] r0.1 (⟨(some a2),1,1⟩) fun (l1:Sl)=>
 .ret 0 [vS l1,vI (subI .i64 r0.2.1 1)]) <|
 .ret 2 [vS r0.1]) fun (r1:Sl×Unit)=>
 .ret 0 [vS r1.1]
def F_sixteen_unit (S:Ids) (c:(Int×Unit)) (b:Sl):Prog:=
 .alloc [vI c.1] fun (a1:Addr)=>
 .load tI (shiftTo (some a1) 0) fun (n2:Int)=>
 atx tU b n2 1 fun (n3:Int)=>
 .load tI (shiftTo (some a1) 0) fun (n4:Int)=>
 grd (andB (someB b.base) (inB (subI .i64 1 n4) b.len)) <|
 .load tU (shiftTo b.base (mulN (toN (subI .i64 1 n4)) 1)) fun (n5:Int)=>
 grd (notB false) <|
 .ret 0 [vI (orI .i64 (wrapI .i64 n3) (shlI .i64 (wrapI .i64 n5) 8))]
def F_codec_high (S:Ids) (u:Int):Prog:=
 .ret 0 [vB (eqI (andNotI .i64 u 1023) 55296)]
def F_codec_low (S:Ids) (u:Int):Prog:=
 .ret 0 [vB (eqI (andNotI .i64 u 1023) 56320)]
def F_sixteen_first (S:Ids) (c:(Int×Unit)) (b:Sl):Prog:=
 .alloc [vI c.1] fun (a1:Addr)=>
 ifB (eqI (natI b.len) 1)
 (grd (andB (someB b.base) (inB 0 b.len)) <|
 .load tU (shiftTo b.base 0) fun (n2:Int)=>
 .ret 0 [vI (subI .i64 (-1) (wrapI .i64 n2)),vI 1]) <|
 .load (Ty.agg [bI]) (some a1) fun (r3:Int×Unit)=>
 .call (F_sixteen_unit S (r3.1,()) b) [tI] fun (r4:Int×Unit)=>
 .bind
 (thn 0 [tB] (.call (F_codec_high S r4.1) [tB] fun (r0:Bool×Unit)=>
 ifB r0.1
 (.ret 0 [vB (geI (natI b.len) 4)]) <|
 .ret 0 [vB false]) fun (r1:Bool×Unit)=>
 ifB r1.1
 (.load (Ty.agg [bI]) (some a1) fun (r2:Int×Unit)=>
 grd (leB 2 b.len) <|
 .call (F_sixteen_unit S (r2.1,()) (⟨(cutBase b.base b.cap 2 1),(subN b.len 2),(subN b.cap 2)⟩)) [tI] fun (r5:Int×Unit)=>
 .call (F_codec_low S r5.1) [tB] fun (r6:Bool×Unit)=>
 ifB r6.1
 (grd (notB false) <|
 .ret 1 [vI (addI .i64 (addI .i64 65536 (shlI .i64 (andI .i64 r4.1 1023) 10)) (andI .i64 r5.1 1023)),vI 4]) <|
 .ret 0 []) <|
 .ret 0 []) fun (k0:Nat)=>
 fun (v0:List Value)=>
 ifB (eqN k0 1)
 (.cast [tI,tI] v0 fun (r7:Int×Int×Unit)=>
 .ret 0 [vI r7.1,vI r7.2.1]) <|
 ifB (eqN k0 0)
 (.cast [] v0 fun (u0:Unit)=>
 .ret 0 [vI r4.1,vI 2]) <|
 .fail
def F_sixteen_half (S:Ids) (c:(Int×Unit)) (out:Sl) (u:Int):Prog:=
 .alloc [vI c.1] fun (a1:Addr)=>
 .alloc [vU 0,vU 0] fun (a2:Addr)=>
 .load tI (shiftTo (some a1) 0) fun (n3:Int)=>
 .load tI (shiftTo (some a1) 0) fun (n4:Int)=>
 grd (notB false) <|
 grd (inB n3 2) <|
 .store (shiftTo (some a2) (mulN (toN n3) 1)) [vU (wrapI .u8 u)] <|
 .check (shiftTo (some a1) 0) [vI n4] <|
 grd (inB (subI .i64 1 n4) 2) <|
 .store (shiftTo (some a2) (mulN (toN (subI .i64 1 n4)) 1)) [vU (wrapI .u8 (shrI .i64 u 8))] <|
 .append 1 1 [vU 0] out (⟨(cutBase (some a2) 2 0 1),2,2⟩) fun (l5:Sl)=>
 .ret 0 [vS l5]
def F_sixteen_put (S:Ids) (c:(Int×Unit)) (out:Sl) (a:Int):Prog:=
 .alloc [vI c.1] fun (a1:Addr)=>
 ifB (ltI a 0)
 (.alloc [vU (wrapI .u8 (subI .i64 (-1) a))] fun (a2:Addr)=>
 .append 1 1 [vU 0] out (⟨(some a2),1,1⟩) fun (l3:Sl)=>
 .ret 0 [vS l3]) <|
 ifB (ltI a 65536)
 (.load (Ty.agg [bI]) (some a1) fun (r4:Int×Unit)=>
 .call (F_sixteen_half S (r4.1,()) out a) [tS] fun (r5:Sl×Unit)=>
 .ret 0 [vS r5.1]) <|
 .load (Ty.agg [bI]) (some a1) fun (r6:Int×Unit)=>
 .load (Ty.agg [bI]) (some a1) fun (r7:Int×Unit)=>
 grd (notB false) <|
 .call (F_sixteen_half S (r7.1,()) out (orI .i64 55296 (shrI .i64 (subI .i64 a 65536) 10))) [tS] fun (r8:Sl×Unit)=>
 .check (some a1) [vI r6.1] <|
 .call (F_sixteen_half S (r6.1,()) r8.1 (orI .i64 56320 (andI .i64 a 1023))) [tS] fun (r9:Sl×Unit)=>
 .ret 0 [vS r9.1]
def F_sixteen_size (S:Ids) (x0:(Int×Unit)) (a:Int):Prog:=
 .alloc [vI x0.1] fun (a1:Addr)=>
 thn 0 [tB] (ifB (ltI a (-256))
 (.ret 0 [vB true]) <|
 .ret 0 [vB (gtI a 1114111)]) fun (r7:Bool×Unit)=>
 ifB r7.1
 (.ret 0 [vI 0]) <|
 ifB (ltI a 0)
 (.ret 0 [vI 1]) <|
 ifB (ltI a 65536)
 (.ret 0 [vI 2]) <|
 .ret 0 [vI 4]
def F_latin_first (S:Ids) (x0:(Unit)) (b:Sl):Prog:=
 .alloc [] fun (a1:Addr)=>
 grd (andB (someB b.base) (inB 0 b.len)) <|
 .load tU (shiftTo b.base 0) fun (n2:Int)=>
 .ret 0 [vI (wrapI .i64 n2),vI 1]
def F_latin_put (S:Ids) (x0:(Unit)) (out:Sl) (a:Int):Prog:=
 .alloc [] fun (a1:Addr)=>
 .alloc [vU (wrapI .u8 a)] fun (a2:Addr)=>
 .append 1 1 [vU 0] out (⟨(some a2),1,1⟩) fun (l3:Sl)=>
 .ret 0 [vS l3]
def F_latin_size (S:Ids) (x0:(Unit)) (a:Int):Prog:=
 .alloc [] fun (a1:Addr)=>
 thn 0 [tB] (ifB (ltI a 0)
 (.ret 0 [vB true]) <|
 .ret 0 [vB (gtI a 255)]) fun (r7:Bool×Unit)=>
 ifB r7.1
 (.ret 0 [vI 0]) <|
 .ret 0 [vI 1]
def F_Text_Atoms (S:Ids) (t:OA) (from_:Int) (to:Int):Prog:=
 .alloc [nS] fun (a1:Addr)=>
 .call (F_Text_walk S t from_ to (Value.func (Fn.func S.f_Text_Atoms_1) #[] (#[vP (some a1)]))) [] fun (u2:Unit)=>
 .load tS (some a1) fun (l3:Sl)=>
 .ret 0 [vS l3]
def F_math_bits_Len32 (S:Ids) (x:Int):Prog:=
 thn 0 [(Ty.one (B.int IntKind.u32)),tI] (ifB (geI x 65536)
 (grd (notB false) <|
 .ret 0 [(Value.int IntKind.u32 (shrI IntKind.u32 x 16)),vI 16]) <|
 .ret 0 [(Value.int IntKind.u32 x),vI 0]) fun (r0:Int×Int×Unit)=>
 thn 0 [(Ty.one (B.int IntKind.u32)),tI] (ifB (geI r0.1 256)
 (grd (notB false) <|
 .ret 0 [(Value.int IntKind.u32 (shrI IntKind.u32 r0.1 8)),vI (addI .i64 r0.2.1 8)]) <|
 .ret 0 [(Value.int IntKind.u32 r0.1),vI r0.2.1]) fun (r1:Int×Int×Unit)=>
 grd (inB (wrapI .u8 r1.1) 256) <|
 .ret 0 [(vI (addI .i64 r1.2.1 (wrapI .i64 (byteAt (ByteArray.mk (#[(.ofNat 0),(.ofNat 1),(.ofNat 2),(.ofNat 2),(.ofNat 3),(.ofNat 3),(.ofNat 3),(.ofNat 3),(.ofNat 4),(.ofNat 4),(.ofNat 4),(.ofNat 4),(.ofNat 4),(.ofNat 4),(.ofNat 4),(.ofNat 4),(.ofNat 5),(.ofNat 5),(.ofNat 5),(.ofNat 5),(.ofNat 5),(.ofNat 5),(.ofNat 5),(.ofNat 5),(.ofNat 5),(.ofNat 5),(.ofNat 5),(.ofNat 5),(.ofNat 5),(.ofNat 5),(.ofNat 5),(.ofNat 5),(.ofNat 6),(.ofNat 6),(.ofNat 6),(.ofNat 6),(.ofNat 6),(.ofNat 6),(.ofNat 6),(.ofNat 6),(.ofNat 6),(.ofNat 6),(.ofNat 6),(.ofNat 6),(.ofNat 6),(.ofNat 6),(.ofNat 6),(.ofNat 6),(.ofNat 6),(.ofNat 6),(.ofNat 6),(.ofNat 6),(.ofNat 6),(.ofNat 6),(.ofNat 6),(.ofNat 6),(.ofNat 6),(.ofNat 6),(.ofNat 6),(.ofNat 6),(.ofNat 6),(.ofNat 6),(.ofNat 6),(.ofNat 6),(.ofNat 7),(.ofNat 7),(.ofNat 7),(.ofNat 7),(.ofNat 7),(.ofNat 7),(.ofNat 7),(.ofNat 7),(.ofNat 7),(.ofNat 7),(.ofNat 7),(.ofNat 7),(.ofNat 7),(.ofNat 7),(.ofNat 7),(.ofNat 7),(.ofNat 7),(.ofNat 7),(.ofNat 7),(.ofNat 7),(.ofNat 7),(.ofNat 7),(.ofNat 7),(.ofNat 7),(.ofNat 7),(.ofNat 7),(.ofNat 7),(.ofNat 7),(.ofNat 7),(.ofNat 7),(.ofNat 7),(.ofNat 7),(.ofNat 7),(.ofNat 7),(.ofNat 7),(.ofNat 7),(.ofNat 7),(.ofNat 7),(.ofNat 7),(.ofNat 7),(.ofNat 7),(.ofNat 7),(.ofNat 7),(.ofNat 7),(.ofNat 7),(.ofNat 7),(.ofNat 7),(.ofNat 7),(.ofNat 7),(.ofNat 7),(.ofNat 7),(.ofNat 7),(.ofNat 7),(.ofNat 7),(.ofNat 7),(.ofNat 7),(.ofNat 7),(.ofNat 7),(.ofNat 7),(.ofNat 7),(.ofNat 7),(.ofNat 7),(.ofNat 7),(.ofNat 7),(.ofNat 8),(.ofNat 8),(.ofNat 8),(.ofNat 8),(.ofNat 8),(.ofNat 8),(.ofNat 8),(.ofNat 8),(.ofNat 8),(.ofNat 8),(.ofNat 8),(.ofNat 8),(.ofNat 8),(.ofNat 8),(.ofNat 8),(.ofNat 8),(.ofNat 8),(.ofNat 8),(.ofNat 8),(.ofNat 8),(.ofNat 8),(.ofNat 8),(.ofNat 8),(.ofNat 8),(.ofNat 8),(.ofNat 8),(.ofNat 8),(.ofNat 8),(.ofNat 8),(.ofNat 8),(.ofNat 8),(.ofNat 8),(.ofNat 8),(.ofNat 8),(.ofNat 8),(.ofNat 8),(.ofNat 8),(.ofNat 8),(.ofNat 8),(.ofNat 8),(.ofNat 8),(.ofNat 8),(.ofNat 8),(.ofNat 8),(.ofNat 8),(.ofNat 8),(.ofNat 8),(.ofNat 8),(.ofNat 8),(.ofNat 8),(.ofNat 8),(.ofNat 8),(.ofNat 8),(.ofNat 8),(.ofNat 8),(.ofNat 8),(.ofNat 8),(.ofNat 8),(.ofNat 8),(.ofNat 8),(.ofNat 8),(.ofNat 8),(.ofNat 8),(.ofNat 8),(.ofNat 8),(.ofNat 8),(.ofNat 8),(.ofNat 8),(.ofNat 8),(.ofNat 8),(.ofNat 8),(.ofNat 8),(.ofNat 8),(.ofNat 8),(.ofNat 8),(.ofNat 8),(.ofNat 8),(.ofNat 8),(.ofNat 8),(.ofNat 8),(.ofNat 8),(.ofNat 8),(.ofNat 8),(.ofNat 8),(.ofNat 8),(.ofNat 8),(.ofNat 8),(.ofNat 8),(.ofNat 8),(.ofNat 8),(.ofNat 8),(.ofNat 8),(.ofNat 8),(.ofNat 8),(.ofNat 8),(.ofNat 8),(.ofNat 8),(.ofNat 8),(.ofNat 8),(.ofNat 8),(.ofNat 8),(.ofNat 8),(.ofNat 8),(.ofNat 8),(.ofNat 8),(.ofNat 8),(.ofNat 8),(.ofNat 8),(.ofNat 8),(.ofNat 8),(.ofNat 8),(.ofNat 8),(.ofNat 8),(.ofNat 8),(.ofNat 8),(.ofNat 8),(.ofNat 8),(.ofNat 8),(.ofNat 8),(.ofNat 8),(.ofNat 8),(.ofNat 8),(.ofNat 8),(.ofNat 8),(.ofNat 8),(.ofNat 8),(.ofNat 8),(.ofNat 8)])) (wrapI .u8 r1.1)))))]
def F_math_bits_Len64 (S:Ids) (x:Int):Prog:=
 thn 0 [(Ty.one (B.int IntKind.u64)),tI] (ifB (geI x 4294967296)
 (grd (notB false) <|
 .ret 0 [(Value.int IntKind.u64 (shrI IntKind.u64 x 32)),vI 32]) <|
 .ret 0 [(Value.int IntKind.u64 x),vI 0]) fun (r0:Int×Int×Unit)=>
 thn 0 [(Ty.one (B.int IntKind.u64)),tI] (ifB (geI r0.1 65536)
 (grd (notB false) <|
 .ret 0 [(Value.int IntKind.u64 (shrI IntKind.u64 r0.1 16)),vI (addI .i64 r0.2.1 16)]) <|
 .ret 0 [(Value.int IntKind.u64 r0.1),vI r0.2.1]) fun (r1:Int×Int×Unit)=>
 thn 0 [(Ty.one (B.int IntKind.u64)),tI] (ifB (geI r1.1 256)
 (grd (notB false) <|
 .ret 0 [(Value.int IntKind.u64 (shrI IntKind.u64 r1.1 8)),vI (addI .i64 r1.2.1 8)]) <|
 .ret 0 [(Value.int IntKind.u64 r1.1),vI r1.2.1]) fun (r2:Int×Int×Unit)=>
 grd (inB (wrapI .u8 r2.1) 256) <|
 .ret 0 [(vI (addI .i64 r2.2.1 (wrapI .i64 (byteAt (ByteArray.mk (#[(.ofNat 0),(.ofNat 1),(.ofNat 2),(.ofNat 2),(.ofNat 3),(.ofNat 3),(.ofNat 3),(.ofNat 3),(.ofNat 4),(.ofNat 4),(.ofNat 4),(.ofNat 4),(.ofNat 4),(.ofNat 4),(.ofNat 4),(.ofNat 4),(.ofNat 5),(.ofNat 5),(.ofNat 5),(.ofNat 5),(.ofNat 5),(.ofNat 5),(.ofNat 5),(.ofNat 5),(.ofNat 5),(.ofNat 5),(.ofNat 5),(.ofNat 5),(.ofNat 5),(.ofNat 5),(.ofNat 5),(.ofNat 5),(.ofNat 6),(.ofNat 6),(.ofNat 6),(.ofNat 6),(.ofNat 6),(.ofNat 6),(.ofNat 6),(.ofNat 6),(.ofNat 6),(.ofNat 6),(.ofNat 6),(.ofNat 6),(.ofNat 6),(.ofNat 6),(.ofNat 6),(.ofNat 6),(.ofNat 6),(.ofNat 6),(.ofNat 6),(.ofNat 6),(.ofNat 6),(.ofNat 6),(.ofNat 6),(.ofNat 6),(.ofNat 6),(.ofNat 6),(.ofNat 6),(.ofNat 6),(.ofNat 6),(.ofNat 6),(.ofNat 6),(.ofNat 6),(.ofNat 7),(.ofNat 7),(.ofNat 7),(.ofNat 7),(.ofNat 7),(.ofNat 7),(.ofNat 7),(.ofNat 7),(.ofNat 7),(.ofNat 7),(.ofNat 7),(.ofNat 7),(.ofNat 7),(.ofNat 7),(.ofNat 7),(.ofNat 7),(.ofNat 7),(.ofNat 7),(.ofNat 7),(.ofNat 7),(.ofNat 7),(.ofNat 7),(.ofNat 7),(.ofNat 7),(.ofNat 7),(.ofNat 7),(.ofNat 7),(.ofNat 7),(.ofNat 7),(.ofNat 7),(.ofNat 7),(.ofNat 7),(.ofNat 7),(.ofNat 7),(.ofNat 7),(.ofNat 7),(.ofNat 7),(.ofNat 7),(.ofNat 7),(.ofNat 7),(.ofNat 7),(.ofNat 7),(.ofNat 7),(.ofNat 7),(.ofNat 7),(.ofNat 7),(.ofNat 7),(.ofNat 7),(.ofNat 7),(.ofNat 7),(.ofNat 7),(.ofNat 7),(.ofNat 7),(.ofNat 7),(.ofNat 7),(.ofNat 7),(.ofNat 7),(.ofNat 7),(.ofNat 7),(.ofNat 7),(.ofNat 7),(.ofNat 7),(.ofNat 7),(.ofNat 7),(.ofNat 8),(.ofNat 8),(.ofNat 8),(.ofNat 8),(.ofNat 8),(.ofNat 8),(.ofNat 8),(.ofNat 8),(.ofNat 8),(.ofNat 8),(.ofNat 8),(.ofNat 8),(.ofNat 8),(.ofNat 8),(.ofNat 8),(.ofNat 8),(.ofNat 8),(.ofNat 8),(.ofNat 8),(.ofNat 8),(.ofNat 8),(.ofNat 8),(.ofNat 8),(.ofNat 8),(.ofNat 8),(.ofNat 8),(.ofNat 8),(.ofNat 8),(.ofNat 8),(.ofNat 8),(.ofNat 8),(.ofNat 8),(.ofNat 8),(.ofNat 8),(.ofNat 8),(.ofNat 8),(.ofNat 8),(.ofNat 8),(.ofNat 8),(.ofNat 8),(.ofNat 8),(.ofNat 8),(.ofNat 8),(.ofNat 8),(.ofNat 8),(.ofNat 8),(.ofNat 8),(.ofNat 8),(.ofNat 8),(.ofNat 8),(.ofNat 8),(.ofNat 8),(.ofNat 8),(.ofNat 8),(.ofNat 8),(.ofNat 8),(.ofNat 8),(.ofNat 8),(.ofNat 8),(.ofNat 8),(.ofNat 8),(.ofNat 8),(.ofNat 8),(.ofNat 8),(.ofNat 8),(.ofNat 8),(.ofNat 8),(.ofNat 8),(.ofNat 8),(.ofNat 8),(.ofNat 8),(.ofNat 8),(.ofNat 8),(.ofNat 8),(.ofNat 8),(.ofNat 8),(.ofNat 8),(.ofNat 8),(.ofNat 8),(.ofNat 8),(.ofNat 8),(.ofNat 8),(.ofNat 8),(.ofNat 8),(.ofNat 8),(.ofNat 8),(.ofNat 8),(.ofNat 8),(.ofNat 8),(.ofNat 8),(.ofNat 8),(.ofNat 8),(.ofNat 8),(.ofNat 8),(.ofNat 8),(.ofNat 8),(.ofNat 8),(.ofNat 8),(.ofNat 8),(.ofNat 8),(.ofNat 8),(.ofNat 8),(.ofNat 8),(.ofNat 8),(.ofNat 8),(.ofNat 8),(.ofNat 8),(.ofNat 8),(.ofNat 8),(.ofNat 8),(.ofNat 8),(.ofNat 8),(.ofNat 8),(.ofNat 8),(.ofNat 8),(.ofNat 8),(.ofNat 8),(.ofNat 8),(.ofNat 8),(.ofNat 8),(.ofNat 8),(.ofNat 8),(.ofNat 8),(.ofNat 8),(.ofNat 8),(.ofNat 8),(.ofNat 8),(.ofNat 8)])) (wrapI .u8 r2.1)))))]
def F_math_bits_Len (S:Ids) (x:Int):Prog:=
 .call (F_math_bits_Len64 S x) [tI] fun (r1:Int×Unit)=>
 .ret 0 [vI r1.1]
def F_slices_insertionSortCmpFuncint___2 (S:Ids) (data:Sl) (a:Int) (b:Int) (cmp:Value):Prog:=
 thn 2 [] (.loop [tI] ((addI .i64 a 1),()) fun (r0:Int×Unit)=>
 ifB (ltI r0.1 b)
 (thn 4 [] (.loop [tI] (r0.1,()) fun (r1:Int×Unit)=>
 thn 0 [tB] (ifB (gtI r1.1 a)
 (atx (Ty.agg [bI,bI]) data r1.1 2 fun (r2:Int×Int×Unit)=>
 grd (andB (someB data.base) (inB (subI .i64 r1.1 1) data.len)) <|
 .load (Ty.agg [bI,bI]) (shiftTo data.base (mulN (toN (subI .i64 r1.1 1)) 2)) fun (r3:Int×Int×Unit)=>
 .callv cmp [(Value.agg (#[vI r2.1,vI r2.2.1])),(Value.agg (#[vI r3.1,vI r3.2.1]))] [tI] fun (r4:Int×Unit)=>
 .ret 0 [vB (ltI r4.1 0)]) <|
 .ret 0 [vB false]) fun (r5:Bool×Unit)=>
 ifB r5.1
 (grd (andB (someB data.base) (inB (subI .i64 r1.1 1) data.len)) <|
 .load (Ty.agg [bI,bI]) (shiftTo data.base (mulN (toN (subI .i64 r1.1 1)) 2)) fun (r6:Int×Int×Unit)=>
 atx (Ty.agg [bI,bI]) data r1.1 2 fun (r7:Int×Int×Unit)=>
 grd (andB (someB data.base) (inB r1.1 data.len)) <|
 .store (shiftTo data.base (mulN (toN r1.1) 2)) [vI r6.1,vI r6.2.1] <|
 grd (andB (someB data.base) (inB (subI .i64 r1.1 1) data.len)) <|
 .store (shiftTo data.base (mulN (toN (subI .i64 r1.1 1)) 2)) [vI r7.1,vI r7.2.1] <|
 .ret 0 [vI (subI .i64 r1.1 1)]) <|
 .ret 4 []) fun (u0:Unit)=>
 .ret 0 [vI (addI .i64 r0.1 1)]) <|
 .ret 2 []) fun (u1:Unit)=>
 .ret 0 []
def F_slices_siftDownCmpFuncint___2 (S:Ids) (data:Sl) (lo:Int) (hi:Int) (first:Int) (cmp:Value):Prog:=
 .bind
 (.loop [tI] (lo,()) fun (r0:Int×Unit)=>
 ifB (geI (addI .i64 (mulI .i64 2 r0.1) 1) hi)
 (.ret 2 []) <|
 thn 0 [tI] (thn 0 [tB] (ifB (ltI (addI .i64 (addI .i64 (mulI .i64 2 r0.1) 1) 1) hi)
 (grd (andB (someB data.base) (inB (addI .i64 first (addI .i64 (mulI .i64 2 r0.1) 1)) data.len)) <|
 .load (Ty.agg [bI,bI]) (shiftTo data.base (mulN (toN (addI .i64 first (addI .i64 (mulI .i64 2 r0.1) 1))) 2)) fun (r1:Int×Int×Unit)=>
 grd (andB (someB data.base) (inB (addI .i64 (addI .i64 first (addI .i64 (mulI .i64 2 r0.1) 1)) 1) data.len)) <|
 .load (Ty.agg [bI,bI]) (shiftTo data.base (mulN (toN (addI .i64 (addI .i64 first (addI .i64 (mulI .i64 2 r0.1) 1)) 1)) 2)) fun (r2:Int×Int×Unit)=>
 .callv cmp [(Value.agg (#[vI r1.1,vI r1.2.1])),(Value.agg (#[vI r2.1,vI r2.2.1]))] [tI] fun (r3:Int×Unit)=>
 .ret 0 [vB (ltI r3.1 0)]) <|
 .ret 0 [vB false]) fun (r4:Bool×Unit)=>
 ifB r4.1
 (.ret 0 [vI (addI .i64 (addI .i64 (mulI .i64 2 r0.1) 1) 1)]) <|
 .ret 0 [vI (addI .i64 (mulI .i64 2 r0.1) 1)]) fun (r5:Int×Unit)=>
 grd (andB (someB data.base) (inB (addI .i64 first r0.1) data.len)) <|
 .load (Ty.agg [bI,bI]) (shiftTo data.base (mulN (toN (addI .i64 first r0.1)) 2)) fun (r6:Int×Int×Unit)=>
 grd (andB (someB data.base) (inB (addI .i64 first r5.1) data.len)) <|
 .load (Ty.agg [bI,bI]) (shiftTo data.base (mulN (toN (addI .i64 first r5.1)) 2)) fun (r7:Int×Int×Unit)=>
 .callv cmp [(Value.agg (#[vI r6.1,vI r6.2.1])),(Value.agg (#[vI r7.1,vI r7.2.1]))] [tI] fun (r8:Int×Unit)=>
 ifB (notB (ltI r8.1 0))
 (.ret 1 []) <|
 grd (andB (someB data.base) (inB (addI .i64 first r5.1) data.len)) <|
 .load (Ty.agg [bI,bI]) (shiftTo data.base (mulN (toN (addI .i64 first r5.1)) 2)) fun (r9:Int×Int×Unit)=>
 grd (andB (someB data.base) (inB (addI .i64 first r0.1) data.len)) <|
 .load (Ty.agg [bI,bI]) (shiftTo data.base (mulN (toN (addI .i64 first r0.1)) 2)) fun (r10:Int×Int×Unit)=>
 grd (andB (someB data.base) (inB (addI .i64 first r0.1) data.len)) <|
 .store (shiftTo data.base (mulN (toN (addI .i64 first r0.1)) 2)) [vI r9.1,vI r9.2.1] <|
 grd (andB (someB data.base) (inB (addI .i64 first r5.1) data.len)) <|
 .store (shiftTo data.base (mulN (toN (addI .i64 first r5.1)) 2)) [vI r10.1,vI r10.2.1] <|
 .ret 0 [vI r5.1]) fun (k0:Nat)=>
 fun (v0:List Value)=>
 ifB (eqN k0 2)
 (.cast [] v0 fun (u0:Unit)=>
 .ret 0 []) <|
 ifB (eqN k0 1)
 (.cast [] v0 fun (u1:Unit)=>
 .ret 0 []) <|
 .fail
def F_slices_heapSortCmpFuncint___2 (S:Ids) (data:Sl) (a:Int) (b:Int) (cmp:Value):Prog:=
 grd (notB false) <|
 thn 2 [] (.loop [tI] ((quoI .i64 (subI .i64 (subI .i64 b a) 1) 2),()) fun (r0:Int×Unit)=>
 ifB (geI r0.1 0)
 (.call (F_slices_siftDownCmpFuncint___2 S data r0.1 (subI .i64 b a) a cmp) [] fun (u0:Unit)=>
 .ret 0 [vI (subI .i64 r0.1 1)]) <|
 .ret 2 []) fun (u1:Unit)=>
 thn 4 [] (.loop [tI] ((subI .i64 (subI .i64 b a) 1),()) fun (r1:Int×Unit)=>
 ifB (geI r1.1 0)
 (grd (andB (someB data.base) (inB (addI .i64 a r1.1) data.len)) <|
 .load (Ty.agg [bI,bI]) (shiftTo data.base (mulN (toN (addI .i64 a r1.1)) 2)) fun (r2:Int×Int×Unit)=>
 atx (Ty.agg [bI,bI]) data a 2 fun (r3:Int×Int×Unit)=>
 grd (andB (someB data.base) (inB a data.len)) <|
 .store (shiftTo data.base (mulN (toN a) 2)) [vI r2.1,vI r2.2.1] <|
 grd (andB (someB data.base) (inB (addI .i64 a r1.1) data.len)) <|
 .store (shiftTo data.base (mulN (toN (addI .i64 a r1.1)) 2)) [vI r3.1,vI r3.2.1] <|
 .call (F_slices_siftDownCmpFuncint___2 S data (Int.ofNat 0) r1.1 a cmp) [] fun (u2:Unit)=>
 .ret 0 [vI (subI .i64 r1.1 1)]) <|
 .ret 4 []) fun (u3:Unit)=>
 .ret 0 []
def F_slices_nextPowerOfTwo (S:Ids) (length:Int):Prog:=
 .call (F_math_bits_Len S (wrapI IntKind.u64 length)) [tI] fun (r1:Int×Unit)=>
 grd (notB (ltI r1.1 0)) <|
 .ret 0 [(Value.int IntKind.u64 (shlI IntKind.u64 1 r1.1))]
def F_xorshift_Next (S:Ids) (r:OA):Prog:=
 grd (someB r) <|
 .load (Ty.one (B.int IntKind.u64)) r fun (n1:Int)=>
 grd (someB r) <|
 .load (Ty.one (B.int IntKind.u64)) r fun (n2:Int)=>
 grd (notB false) <|
 grd (someB r) <|
 .store r [(Value.int IntKind.u64 (xorI IntKind.u64 n1 (shlI IntKind.u64 n2 13)))] <|
 grd (someB r) <|
 .load (Ty.one (B.int IntKind.u64)) r fun (n3:Int)=>
 grd (someB r) <|
 .load (Ty.one (B.int IntKind.u64)) r fun (n4:Int)=>
 grd (notB false) <|
 grd (someB r) <|
 .store r [(Value.int IntKind.u64 (xorI IntKind.u64 n3 (shrI IntKind.u64 n4 7)))] <|
 grd (someB r) <|
 .load (Ty.one (B.int IntKind.u64)) r fun (n5:Int)=>
 grd (someB r) <|
 .load (Ty.one (B.int IntKind.u64)) r fun (n6:Int)=>
 grd (notB false) <|
 grd (someB r) <|
 .store r [(Value.int IntKind.u64 (xorI IntKind.u64 n5 (shlI IntKind.u64 n6 17)))] <|
 grd (someB r) <|
 .load (Ty.one (B.int IntKind.u64)) r fun (n7:Int)=>
 .ret 0 [(Value.int IntKind.u64 n7)]
def F_slices_breakPatternsCmpFuncint___2 (S:Ids) (data:Sl) (a:Int) (b:Int) (cmp:Value):Prog:=
 ifB (geI (subI .i64 b a) 8)
 (.alloc [(Value.int IntKind.u64 0)] fun (a1:Addr)=>
 .store (some a1) [(Value.int IntKind.u64 (wrapI IntKind.u64 (subI .i64 b a)))] <|
 .call (F_slices_nextPowerOfTwo S (subI .i64 b a)) [(Ty.one (B.int IntKind.u64))] fun (r2:Int×Unit)=>
 grd (notB false) <|
 thn 2 [] (.loop [tI] ((subI .i64 (addI .i64 a (mulI .i64 (quoI .i64 (subI .i64 b a) 4) 2)) 1),()) fun (r0:Int×Unit)=>
 grd (notB false) <|
 ifB (leI r0.1 (addI .i64 (addI .i64 a (mulI .i64 (quoI .i64 (subI .i64 b a) 4) 2)) 1))
 (.call (F_xorshift_Next S (some a1)) [(Ty.one (B.int IntKind.u64))] fun (r1:Int×Unit)=>
 thn 0 [tI] (ifB (geI (wrapI .i64 (andI IntKind.u64 r1.1 (subI IntKind.u64 r2.1 1))) (subI .i64 b a))
 (.ret 0 [vI (subI .i64 (wrapI .i64 (andI IntKind.u64 r1.1 (subI IntKind.u64 r2.1 1))) (subI .i64 b a))]) <|
 .ret 0 [vI (wrapI .i64 (andI IntKind.u64 r1.1 (subI IntKind.u64 r2.1 1)))]) fun (r3:Int×Unit)=>
 grd (andB (someB data.base) (inB (addI .i64 a r3.1) data.len)) <|
 .load (Ty.agg [bI,bI]) (shiftTo data.base (mulN (toN (addI .i64 a r3.1)) 2)) fun (r4:Int×Int×Unit)=>
 atx (Ty.agg [bI,bI]) data r0.1 2 fun (r5:Int×Int×Unit)=>
 grd (andB (someB data.base) (inB r0.1 data.len)) <|
 .store (shiftTo data.base (mulN (toN r0.1) 2)) [vI r4.1,vI r4.2.1] <|
 grd (andB (someB data.base) (inB (addI .i64 a r3.1) data.len)) <|
 .store (shiftTo data.base (mulN (toN (addI .i64 a r3.1)) 2)) [vI r5.1,vI r5.2.1] <|
 .ret 0 [vI (addI .i64 r0.1 1)]) <|
 .ret 2 []) fun (u0:Unit)=>
 .ret 0 []) <|
 .ret 0 []
def F_slices_order2CmpFuncint___2 (S:Ids) (data:Sl) (a:Int) (b:Int) (swaps:OA) (cmp:Value):Prog:=
 atx (Ty.agg [bI,bI]) data b 2 fun (r1:Int×Int×Unit)=>
 atx (Ty.agg [bI,bI]) data a 2 fun (r2:Int×Int×Unit)=>
 .callv cmp [(Value.agg (#[vI r1.1,vI r1.2.1])),(Value.agg (#[vI r2.1,vI r2.2.1]))] [tI] fun (r3:Int×Unit)=>
 ifB (ltI r3.1 0)
 (grd (someB swaps) <|
 .load tI swaps fun (n4:Int)=>
 grd (someB swaps) <|
 .store swaps [vI (addI .i64 n4 1)] <|
 .ret 0 [vI b,vI a]) <|
 .ret 0 [vI a,vI b]
def F_slices_medianCmpFuncint___2 (S:Ids) (data:Sl) (a:Int) (b:Int) (c:Int) (swaps:OA) (cmp:Value):Prog:=
 .call (F_slices_order2CmpFuncint___2 S data a b swaps cmp) [tI,tI] fun (r1:Int×Int×Unit)=>
 .call (F_slices_order2CmpFuncint___2 S data r1.2.1 c swaps cmp) [tI,tI] fun (r2:Int×Int×Unit)=>
 .call (F_slices_order2CmpFuncint___2 S data r1.1 r2.1 swaps cmp) [tI,tI] fun (r3:Int×Int×Unit)=>
 .ret 0 [vI r3.2.1]
def F_slices_medianAdjacentCmpFuncint___2 (S:Ids) (data:Sl) (a:Int) (swaps:OA) (cmp:Value):Prog:=
 .call (F_slices_medianCmpFuncint___2 S data (subI .i64 a 1) a (addI .i64 a 1) swaps cmp) [tI] fun (r1:Int×Unit)=>
 .ret 0 [vI r1.1]
def F_slices_choosePivotCmpFuncint___2 (S:Ids) (data:Sl) (a:Int) (b:Int) (cmp:Value):Prog:=
 .alloc [vI 0] fun (a1:Addr)=>
 grd (notB false) <|
 grd (notB false) <|
 grd (notB false) <|
 thn 0 [tI] (ifB (geI (subI .i64 b a) 8)
 (thn 0 [tI,tI,tI] (ifB (geI (subI .i64 b a) 50)
 (.call (F_slices_medianAdjacentCmpFuncint___2 S data (addI .i64 a (mulI .i64 (quoI .i64 (subI .i64 b a) 4) 1)) (some a1) cmp) [tI] fun (r0:Int×Unit)=>
 .call (F_slices_medianAdjacentCmpFuncint___2 S data (addI .i64 a (mulI .i64 (quoI .i64 (subI .i64 b a) 4) 2)) (some a1) cmp) [tI] fun (r1:Int×Unit)=>
 .call (F_slices_medianAdjacentCmpFuncint___2 S data (addI .i64 a (mulI .i64 (quoI .i64 (subI .i64 b a) 4) 3)) (some a1) cmp) [tI] fun (r2:Int×Unit)=>
 .ret 0 [vI r0.1,vI r1.1,vI r2.1]) <|
 .ret 0 [vI (addI .i64 a (mulI .i64 (quoI .i64 (subI .i64 b a) 4) 1)),vI (addI .i64 a (mulI .i64 (quoI .i64 (subI .i64 b a) 4) 2)),vI (addI .i64 a (mulI .i64 (quoI .i64 (subI .i64 b a) 4) 3))]) fun (r3:Int×Int×Int×Unit)=>
 .call (F_slices_medianCmpFuncint___2 S data r3.1 r3.2.1 r3.2.2.1 (some a1) cmp) [tI] fun (r4:Int×Unit)=>
 .ret 0 [vI r4.1]) <|
 .ret 0 [vI (addI .i64 a (mulI .i64 (quoI .i64 (subI .i64 b a) 4) 2))]) fun (r5:Int×Unit)=>
 .load tI (some a1) fun (n0:Int)=>
 ifB (eqI n0 0)
 (.ret 0 [vI r5.1,vI 1]) <|
 ifB (eqI n0 12)
 (.ret 0 [vI r5.1,vI 2]) <|
 .ret 0 [vI r5.1,vI 0]
def F_slices_reverseRangeCmpFuncint___2 (S:Ids) (data:Sl) (a:Int) (b:Int) (cmp:Value):Prog:=
 thn 2 [] (.loop [tI,tI] (a,((subI .i64 b 1),())) fun (r0:Int×Int×Unit)=>
 ifB (ltI r0.1 r0.2.1)
 (atx (Ty.agg [bI,bI]) data r0.2.1 2 fun (r1:Int×Int×Unit)=>
 atx (Ty.agg [bI,bI]) data r0.1 2 fun (r2:Int×Int×Unit)=>
 grd (andB (someB data.base) (inB r0.1 data.len)) <|
 .store (shiftTo data.base (mulN (toN r0.1) 2)) [vI r1.1,vI r1.2.1] <|
 grd (andB (someB data.base) (inB r0.2.1 data.len)) <|
 .store (shiftTo data.base (mulN (toN r0.2.1) 2)) [vI r2.1,vI r2.2.1] <|
 .ret 0 [vI (addI .i64 r0.1 1),vI (subI .i64 r0.2.1 1)]) <|
 .ret 2 []) fun (u0:Unit)=>
 .ret 0 []
def F_slices_partialInsertionSortCmpFuncint___2 (S:Ids) (data:Sl) (a:Int) (b:Int) (cmp:Value):Prog:=
 .bind
 (.loop [tI,tI] ((addI .i64 a 1),((0:Int),())) fun (r0:Int×Int×Unit)=>
 ifB (ltI r0.2.1 5)
 (.bind
 (thn 4 [tI] (.loop [tI] (r0.1,()) fun (r1:Int×Unit)=>
 thn 0 [tB] (ifB (ltI r1.1 b)
 (atx (Ty.agg [bI,bI]) data r1.1 2 fun (r2:Int×Int×Unit)=>
 grd (andB (someB data.base) (inB (subI .i64 r1.1 1) data.len)) <|
 .load (Ty.agg [bI,bI]) (shiftTo data.base (mulN (toN (subI .i64 r1.1 1)) 2)) fun (r3:Int×Int×Unit)=>
 .callv cmp [(Value.agg (#[vI r2.1,vI r2.2.1])),(Value.agg (#[vI r3.1,vI r3.2.1]))] [tI] fun (r4:Int×Unit)=>
 .ret 0 [vB (notB (ltI r4.1 0))]) <|
 .ret 0 [vB false]) fun (r5:Bool×Unit)=>
 ifB r5.1
 (.ret 0 [vI (addI .i64 r1.1 1)]) <|
 .ret 4 [vI r1.1]) fun (r6:Int×Unit)=>
 ifB (eqI r6.1 b)
 (.ret 1 [vB true]) <|
 ifB (ltI (subI .i64 b a) 50)
 (.ret 1 [vB false]) <|
 grd (andB (someB data.base) (inB (subI .i64 r6.1 1) data.len)) <|
 .load (Ty.agg [bI,bI]) (shiftTo data.base (mulN (toN (subI .i64 r6.1 1)) 2)) fun (r7:Int×Int×Unit)=>
 atx (Ty.agg [bI,bI]) data r6.1 2 fun (r8:Int×Int×Unit)=>
 grd (andB (someB data.base) (inB r6.1 data.len)) <|
 .store (shiftTo data.base (mulN (toN r6.1) 2)) [vI r7.1,vI r7.2.1] <|
 grd (andB (someB data.base) (inB (subI .i64 r6.1 1) data.len)) <|
 .store (shiftTo data.base (mulN (toN (subI .i64 r6.1 1)) 2)) [vI r8.1,vI r8.2.1] <|
 thn 0 [] (ifB (geI (subI .i64 r6.1 a) 2)
 (thn 6 [] (.loop [tI] ((subI .i64 r6.1 1),()) fun (r9:Int×Unit)=>
 ifB (geI r9.1 1)
 (atx (Ty.agg [bI,bI]) data r9.1 2 fun (r10:Int×Int×Unit)=>
 grd (andB (someB data.base) (inB (subI .i64 r9.1 1) data.len)) <|
 .load (Ty.agg [bI,bI]) (shiftTo data.base (mulN (toN (subI .i64 r9.1 1)) 2)) fun (r11:Int×Int×Unit)=>
 .callv cmp [(Value.agg (#[vI r10.1,vI r10.2.1])),(Value.agg (#[vI r11.1,vI r11.2.1]))] [tI] fun (r12:Int×Unit)=>
 ifB (notB (ltI r12.1 0))
 (.ret 6 []) <|
 grd (andB (someB data.base) (inB (subI .i64 r9.1 1) data.len)) <|
 .load (Ty.agg [bI,bI]) (shiftTo data.base (mulN (toN (subI .i64 r9.1 1)) 2)) fun (r13:Int×Int×Unit)=>
 atx (Ty.agg [bI,bI]) data r9.1 2 fun (r14:Int×Int×Unit)=>
 grd (andB (someB data.base) (inB r9.1 data.len)) <|
 .store (shiftTo data.base (mulN (toN r9.1) 2)) [vI r13.1,vI r13.2.1] <|
 grd (andB (someB data.base) (inB (subI .i64 r9.1 1) data.len)) <|
 .store (shiftTo data.base (mulN (toN (subI .i64 r9.1 1)) 2)) [vI r14.1,vI r14.2.1] <|
 .ret 0 [vI (subI .i64 r9.1 1)]) <|
 .ret 6 []) fun (u0:Unit)=>
 .ret 0 []) <|
 .ret 0 []) fun (u1:Unit)=>
 ifB (geI (subI .i64 b r6.1) 2)
 (thn 8 [] (.loop [tI] ((addI .i64 r6.1 1),()) fun (r15:Int×Unit)=>
 ifB (ltI r15.1 b)
 (atx (Ty.agg [bI,bI]) data r15.1 2 fun (r16:Int×Int×Unit)=>
 grd (andB (someB data.base) (inB (subI .i64 r15.1 1) data.len)) <|
 .load (Ty.agg [bI,bI]) (shiftTo data.base (mulN (toN (subI .i64 r15.1 1)) 2)) fun (r17:Int×Int×Unit)=>
 .callv cmp [(Value.agg (#[vI r16.1,vI r16.2.1])),(Value.agg (#[vI r17.1,vI r17.2.1]))] [tI] fun (r18:Int×Unit)=>
 ifB (notB (ltI r18.1 0))
 (.ret 8 []) <|
 grd (andB (someB data.base) (inB (subI .i64 r15.1 1) data.len)) <|
 .load (Ty.agg [bI,bI]) (shiftTo data.base (mulN (toN (subI .i64 r15.1 1)) 2)) fun (r19:Int×Int×Unit)=>
 atx (Ty.agg [bI,bI]) data r15.1 2 fun (r20:Int×Int×Unit)=>
 grd (andB (someB data.base) (inB r15.1 data.len)) <|
 .store (shiftTo data.base (mulN (toN r15.1) 2)) [vI r19.1,vI r19.2.1] <|
 grd (andB (someB data.base) (inB (subI .i64 r15.1 1) data.len)) <|
 .store (shiftTo data.base (mulN (toN (subI .i64 r15.1 1)) 2)) [vI r20.1,vI r20.2.1] <|
 .ret 0 [vI (addI .i64 r15.1 1)]) <|
 .ret 8 []) fun (u2:Unit)=>
 .ret 0 [vI r6.1]) <|
 .ret 0 [vI r6.1]) fun (k0:Nat)=>
 fun (v0:List Value)=>
 ifB (eqN k0 1)
 (.cast [tB] v0 fun (r21:Bool×Unit)=>
 .ret 1 [vB r21.1]) <|
 ifB (eqN k0 0)
 (.cast [tI] v0 fun (r22:Int×Unit)=>
 .ret 0 [vI r22.1,vI (addI .i64 r0.2.1 1)]) <|
 .fail) <|
 .ret 2 []) fun (k1:Nat)=>
 fun (v1:List Value)=>
 ifB (eqN k1 2)
 (.cast [] v1 fun (u3:Unit)=>
 .ret 0 [vB false]) <|
 ifB (eqN k1 1)
 (.cast [tB] v1 fun (r23:Bool×Unit)=>
 .ret 0 [vB r23.1]) <|
 .fail
def F_slices_partitionEqualCmpFuncint___2 (S:Ids) (data:Sl) (a:Int) (b:Int) (pivot:Int) (cmp:Value):Prog:=
 atx (Ty.agg [bI,bI]) data pivot 2 fun (r1:Int×Int×Unit)=>
 atx (Ty.agg [bI,bI]) data a 2 fun (r2:Int×Int×Unit)=>
 grd (andB (someB data.base) (inB a data.len)) <|
 .store (shiftTo data.base (mulN (toN a) 2)) [vI r1.1,vI r1.2.1] <|
 grd (andB (someB data.base) (inB pivot data.len)) <|
 .store (shiftTo data.base (mulN (toN pivot) 2)) [vI r2.1,vI r2.2.1] <|
 thn 2 [tI] (.loop [tI,tI] ((addI .i64 a 1),((subI .i64 b 1),())) fun (r0:Int×Int×Unit)=>
 thn 4 [tI] (.loop [tI] (r0.1,()) fun (r3:Int×Unit)=>
 thn 0 [tB] (ifB (leI r3.1 r0.2.1)
 (atx (Ty.agg [bI,bI]) data a 2 fun (r4:Int×Int×Unit)=>
 atx (Ty.agg [bI,bI]) data r3.1 2 fun (r5:Int×Int×Unit)=>
 .callv cmp [(Value.agg (#[vI r4.1,vI r4.2.1])),(Value.agg (#[vI r5.1,vI r5.2.1]))] [tI] fun (r6:Int×Unit)=>
 .ret 0 [vB (notB (ltI r6.1 0))]) <|
 .ret 0 [vB false]) fun (r7:Bool×Unit)=>
 ifB r7.1
 (.ret 0 [vI (addI .i64 r3.1 1)]) <|
 .ret 4 [vI r3.1]) fun (r8:Int×Unit)=>
 thn 6 [tI] (.loop [tI] (r0.2.1,()) fun (r9:Int×Unit)=>
 thn 0 [tB] (ifB (leI r8.1 r9.1)
 (atx (Ty.agg [bI,bI]) data a 2 fun (r10:Int×Int×Unit)=>
 atx (Ty.agg [bI,bI]) data r9.1 2 fun (r11:Int×Int×Unit)=>
 .callv cmp [(Value.agg (#[vI r10.1,vI r10.2.1])),(Value.agg (#[vI r11.1,vI r11.2.1]))] [tI] fun (r12:Int×Unit)=>
 .ret 0 [vB (ltI r12.1 0)]) <|
 .ret 0 [vB false]) fun (r13:Bool×Unit)=>
 ifB r13.1
 (.ret 0 [vI (subI .i64 r9.1 1)]) <|
 .ret 6 [vI r9.1]) fun (r14:Int×Unit)=>
 ifB (gtI r8.1 r14.1)
 (.ret 2 [vI r8.1]) <|
 atx (Ty.agg [bI,bI]) data r14.1 2 fun (r15:Int×Int×Unit)=>
 atx (Ty.agg [bI,bI]) data r8.1 2 fun (r16:Int×Int×Unit)=>
 grd (andB (someB data.base) (inB r8.1 data.len)) <|
 .store (shiftTo data.base (mulN (toN r8.1) 2)) [vI r15.1,vI r15.2.1] <|
 grd (andB (someB data.base) (inB r14.1 data.len)) <|
 .store (shiftTo data.base (mulN (toN r14.1) 2)) [vI r16.1,vI r16.2.1] <|
 .ret 0 [vI (addI .i64 r8.1 1),vI (subI .i64 r14.1 1)]) fun (r17:Int×Unit)=>
 .ret 0 [vI r17.1]
def F_slices_partitionCmpFuncint___2 (S:Ids) (data:Sl) (a:Int) (b:Int) (pivot:Int) (cmp:Value):Prog:=
 atx (Ty.agg [bI,bI]) data pivot 2 fun (r1:Int×Int×Unit)=>
 atx (Ty.agg [bI,bI]) data a 2 fun (r2:Int×Int×Unit)=>
 grd (andB (someB data.base) (inB a data.len)) <|
 .store (shiftTo data.base (mulN (toN a) 2)) [vI r1.1,vI r1.2.1] <|
 grd (andB (someB data.base) (inB pivot data.len)) <|
 .store (shiftTo data.base (mulN (toN pivot) 2)) [vI r2.1,vI r2.2.1] <|
 thn 2 [tI] (.loop [tI] ((addI .i64 a 1),()) fun (r0:Int×Unit)=>
 thn 0 [tB] (ifB (leI r0.1 (subI .i64 b 1))
 (atx (Ty.agg [bI,bI]) data r0.1 2 fun (r3:Int×Int×Unit)=>
 atx (Ty.agg [bI,bI]) data a 2 fun (r4:Int×Int×Unit)=>
 .callv cmp [(Value.agg (#[vI r3.1,vI r3.2.1])),(Value.agg (#[vI r4.1,vI r4.2.1]))] [tI] fun (r5:Int×Unit)=>
 .ret 0 [vB (ltI r5.1 0)]) <|
 .ret 0 [vB false]) fun (r6:Bool×Unit)=>
 ifB r6.1
 (.ret 0 [vI (addI .i64 r0.1 1)]) <|
 .ret 2 [vI r0.1]) fun (r7:Int×Unit)=>
 thn 4 [tI] (.loop [tI] ((subI .i64 b 1),()) fun (r8:Int×Unit)=>
 thn 0 [tB] (ifB (leI r7.1 r8.1)
 (atx (Ty.agg [bI,bI]) data r8.1 2 fun (r9:Int×Int×Unit)=>
 atx (Ty.agg [bI,bI]) data a 2 fun (r10:Int×Int×Unit)=>
 .callv cmp [(Value.agg (#[vI r9.1,vI r9.2.1])),(Value.agg (#[vI r10.1,vI r10.2.1]))] [tI] fun (r11:Int×Unit)=>
 .ret 0 [vB (notB (ltI r11.1 0))]) <|
 .ret 0 [vB false]) fun (r12:Bool×Unit)=>
 ifB r12.1
 (.ret 0 [vI (subI .i64 r8.1 1)]) <|
 .ret 4 [vI r8.1]) fun (r13:Int×Unit)=>
 ifB (gtI r7.1 r13.1)
 (atx (Ty.agg [bI,bI]) data a 2 fun (r14:Int×Int×Unit)=>
 atx (Ty.agg [bI,bI]) data r13.1 2 fun (r15:Int×Int×Unit)=>
 grd (andB (someB data.base) (inB r13.1 data.len)) <|
 .store (shiftTo data.base (mulN (toN r13.1) 2)) [vI r14.1,vI r14.2.1] <|
 grd (andB (someB data.base) (inB a data.len)) <|
 .store (shiftTo data.base (mulN (toN a) 2)) [vI r15.1,vI r15.2.1] <|
 .ret 0 [vI r13.1,vB true]) <|
 atx (Ty.agg [bI,bI]) data r13.1 2 fun (r16:Int×Int×Unit)=>
 atx (Ty.agg [bI,bI]) data r7.1 2 fun (r17:Int×Int×Unit)=>
 grd (andB (someB data.base) (inB r7.1 data.len)) <|
 .store (shiftTo data.base (mulN (toN r7.1) 2)) [vI r16.1,vI r16.2.1] <|
 grd (andB (someB data.base) (inB r13.1 data.len)) <|
 .store (shiftTo data.base (mulN (toN r13.1) 2)) [vI r17.1,vI r17.2.1] <|
 thn 6 [tI] (.loop [tI,tI] ((addI .i64 r7.1 1),((subI .i64 r13.1 1),())) fun (r18:Int×Int×Unit)=>
 thn 8 [tI] (.loop [tI] (r18.1,()) fun (r19:Int×Unit)=>
 thn 0 [tB] (ifB (leI r19.1 r18.2.1)
 (atx (Ty.agg [bI,bI]) data r19.1 2 fun (r20:Int×Int×Unit)=>
 atx (Ty.agg [bI,bI]) data a 2 fun (r21:Int×Int×Unit)=>
 .callv cmp [(Value.agg (#[vI r20.1,vI r20.2.1])),(Value.agg (#[vI r21.1,vI r21.2.1]))] [tI] fun (r22:Int×Unit)=>
 .ret 0 [vB (ltI r22.1 0)]) <|
 .ret 0 [vB false]) fun (r23:Bool×Unit)=>
 ifB r23.1
 (.ret 0 [vI (addI .i64 r19.1 1)]) <|
 .ret 8 [vI r19.1]) fun (r24:Int×Unit)=>
 thn 10 [tI] (.loop [tI] (r18.2.1,()) fun (r25:Int×Unit)=>
 thn 0 [tB] (ifB (leI r24.1 r25.1)
 (atx (Ty.agg [bI,bI]) data r25.1 2 fun (r26:Int×Int×Unit)=>
 atx (Ty.agg [bI,bI]) data a 2 fun (r27:Int×Int×Unit)=>
 .callv cmp [(Value.agg (#[vI r26.1,vI r26.2.1])),(Value.agg (#[vI r27.1,vI r27.2.1]))] [tI] fun (r28:Int×Unit)=>
 .ret 0 [vB (notB (ltI r28.1 0))]) <|
 .ret 0 [vB false]) fun (r29:Bool×Unit)=>
 ifB r29.1
 (.ret 0 [vI (subI .i64 r25.1 1)]) <|
 .ret 10 [vI r25.1]) fun (r30:Int×Unit)=>
 ifB (gtI r24.1 r30.1)
 (.ret 6 [vI r30.1]) <|
 atx (Ty.agg [bI,bI]) data r30.1 2 fun (r31:Int×Int×Unit)=>
 atx (Ty.agg [bI,bI]) data r24.1 2 fun (r32:Int×Int×Unit)=>
 grd (andB (someB data.base) (inB r24.1 data.len)) <|
 .store (shiftTo data.base (mulN (toN r24.1) 2)) [vI r31.1,vI r31.2.1] <|
 grd (andB (someB data.base) (inB r30.1 data.len)) <|
 .store (shiftTo data.base (mulN (toN r30.1) 2)) [vI r32.1,vI r32.2.1] <|
 .ret 0 [vI (addI .i64 r24.1 1),vI (subI .i64 r30.1 1)]) fun (r33:Int×Unit)=>
 atx (Ty.agg [bI,bI]) data a 2 fun (r34:Int×Int×Unit)=>
 atx (Ty.agg [bI,bI]) data r33.1 2 fun (r35:Int×Int×Unit)=>
 grd (andB (someB data.base) (inB r33.1 data.len)) <|
 .store (shiftTo data.base (mulN (toN r33.1) 2)) [vI r34.1,vI r34.2.1] <|
 grd (andB (someB data.base) (inB a data.len)) <|
 .store (shiftTo data.base (mulN (toN a) 2)) [vI r35.1,vI r35.2.1] <|
 .ret 0 [vI r33.1,vB false]
def R_slices_pdqsortCmpFuncint___2 (fuelN:Nat) (S:Ids) (data:Sl) (a:Int) (b:Int) (limit:Int) (cmp:Value):Prog:=
 match fuelN with
 | 0=>.fail
 | fuelN+1=>
  thn 1 [] (.loop [tI,tI,tI,tB,tB] (a,(b,(limit,(true,(true,()))))) fun (r0:d5)=>
  ifB (leI (subI .i64 r0.2.1 r0.1) 12)
  (.call (F_slices_insertionSortCmpFuncint___2 S data r0.1 r0.2.1 cmp) [] fun (u0:Unit)=>
  .ret 1 []) <|
  ifB (eqI r0.2.2.1 0)
  (.call (F_slices_heapSortCmpFuncint___2 S data r0.1 r0.2.1 cmp) [] fun (u1:Unit)=>
  .ret 1 []) <|
  thn 0 [tI] (ifB (notB r0.2.2.2.1)
  (.call (F_slices_breakPatternsCmpFuncint___2 S data r0.1 r0.2.1 cmp) [] fun (u2:Unit)=>
  .ret 0 [vI (subI .i64 r0.2.2.1 1)]) <|
  .ret 0 [vI r0.2.2.1]) fun (r1:Int×Unit)=>
  .call (F_slices_choosePivotCmpFuncint___2 S data r0.1 r0.2.1 cmp) [tI,tI] fun (r2:Int×Int×Unit)=>
  thn 0 [tI,tI] (ifB (eqI r2.2.1 2)
  (.call (F_slices_reverseRangeCmpFuncint___2 S data r0.1 r0.2.1 cmp) [] fun (u3:Unit)=>
  .ret 0 [vI (subI .i64 (subI .i64 r0.2.1 1) (subI .i64 r2.1 r0.1)),vI 1]) <|
  .ret 0 [vI r2.1,vI r2.2.1]) fun (r3:Int×Int×Unit)=>
  .bind
  (thn 0 [tB] (ifB r0.2.2.2.1
  (ifB r0.2.2.2.2.1
  (.ret 0 [vB (eqI r3.2.1 1)]) <|
  .ret 0 [vB false]) <|
  .ret 0 [vB false]) fun (r4:Bool×Unit)=>
  ifB r4.1
  (.call (F_slices_partialInsertionSortCmpFuncint___2 S data r0.1 r0.2.1 cmp) [tB] fun (r5:Bool×Unit)=>
  ifB r5.1
  (.ret 1 []) <|
  .ret 0 []) <|
  .ret 0 []) fun (k0:Nat)=>
  fun (v0:List Value)=>
  ifB (eqN k0 1)
  (.cast [] v0 fun (u4:Unit)=>
  .ret 1 []) <|
  ifB (eqN k0 0)
  (.cast [] v0 fun (u5:Unit)=>
  thn 0 [tB] (ifB (gtI r0.1 0)
  (grd (andB (someB data.base) (inB (subI .i64 r0.1 1) data.len)) <|
  .load (Ty.agg [bI,bI]) (shiftTo data.base (mulN (toN (subI .i64 r0.1 1)) 2)) fun (r6:Int×Int×Unit)=>
  atx (Ty.agg [bI,bI]) data r3.1 2 fun (r7:Int×Int×Unit)=>
  .callv cmp [(Value.agg (#[vI r6.1,vI r6.2.1])),(Value.agg (#[vI r7.1,vI r7.2.1]))] [tI] fun (r8:Int×Unit)=>
  .ret 0 [vB (notB (ltI r8.1 0))]) <|
  .ret 0 [vB false]) fun (r9:Bool×Unit)=>
  ifB r9.1
  (.call (F_slices_partitionEqualCmpFuncint___2 S data r0.1 r0.2.1 r3.1 cmp) [tI] fun (r10:Int×Unit)=>
  .ret 0 [vI r10.1,vI r0.2.1,vI r1.1,vB r0.2.2.2.1,vB r0.2.2.2.2.1]) <|
  .call (F_slices_partitionCmpFuncint___2 S data r0.1 r0.2.1 r3.1 cmp) [tI,tB] fun (r11:Int×Bool×Unit)=>
  grd (notB false) <|
  ifB (ltI (subI .i64 r11.1 r0.1) (subI .i64 r0.2.1 r11.1))
  (.call (R_slices_pdqsortCmpFuncint___2 fuelN S data r0.1 r11.1 r1.1 cmp) [] fun (u6:Unit)=>
  .ret 0 [vI (addI .i64 r11.1 1),vI r0.2.1,vI r1.1,vB (geI (subI .i64 r11.1 r0.1) (quoI .i64 (subI .i64 r0.2.1 r0.1) 8)),vB r11.2.1]) <|
  .call (R_slices_pdqsortCmpFuncint___2 fuelN S data (addI .i64 r11.1 1) r0.2.1 r1.1 cmp) [] fun (u7:Unit)=>
  .ret 0 [vI r0.1,vI r11.1,vI r1.1,vB (geI (subI .i64 r0.2.1 r11.1) (quoI .i64 (subI .i64 r0.2.1 r0.1) 8)),vB r11.2.1]) <|
  .fail) fun (u8:Unit)=>
  .ret 0 []
def F_slices_pdqsortCmpFuncint___2 (S:Ids) (data:Sl) (a:Int) (b:Int) (limit:Int) (cmp:Value):Prog:=.ex fun fuelN=>R_slices_pdqsortCmpFuncint___2 fuelN S data a b limit cmp
def F_slices_SortFunc_2_int__2_int___ (S:Ids) (x:Sl) (cmp:Value):Prog:=
 .call (F_math_bits_Len S (wrapI IntKind.u64 (natI x.len))) [tI] fun (r1:Int×Unit)=>
 .call (F_slices_pdqsortCmpFuncint___2 S x (Int.ofNat 0) (natI x.len) r1.1 cmp) [] fun (u2:Unit)=>
 .ret 0 []
def F_Book_Marks (S:Ids) (b:OA):Prog:=
 fld (Ty.one B.map) b 4 fun (p1:Option Nat)=>
 .mlen p1 fun (k2:Nat)=>
 .mk 16 [vI 0,vI 0] 0 (natI k2) fun (l3:Sl)=>
 fld (Ty.one B.map) b 4 fun (p4:Option Nat)=>
 .miter p4 fun (a5:Addr)=>
 thn 2 [tS] (.loop [tS] (l3,()) fun (r0:Sl×Unit)=>
 .mnext (some a5) (fun (n0:Int)=>
 fun (n1:Int)=>
 .mentry (some a5) fun (n2:Int)=>
 fun (n3:Int)=>
 .alloc [vI n2,vI n3] fun (a0:Addr)=>
 .append 2 16 [vI 0,vI 0] r0.1 (⟨(some a0),1,1⟩) fun (l0:Sl)=>
 .ret 0 [vS l0]) <|
 .ret 2 [vS r0.1]) fun (r1:Sl×Unit)=>
 .call (F_slices_SortFunc_2_int__2_int___ S r1.1 (Value.func (Fn.func S.f_Book_Marks_1) #[] #[])) [] fun (u0:Unit)=>
 .ret 0 [vS r1.1]
def F_Book_IsOpen (S:Ids) (b:OA):Prog:=
 fld tP b 6 fun (p1:OA)=>
 .ret 0 [vB (notB (noneB p1))]
def F_law7_see (S:Ids) (b:OA):Prog:=
 .alloc [nS,nS,nS,nS,vI 0,vI 0,vB false,vB false] fun (a1:Addr)=>
 .alloc [nS,nS,nS,nS,vI 0,vI 0,vB false,vB false] fun (a2:Addr)=>
 .call (F_Book_Text S b) [tP] fun (r3:OA×Unit)=>
 ifB (noneB r3.1)
 (.load (Ty.agg [B.sl,B.sl,B.sl,B.sl,bI,bI,B.bool,B.bool]) (some a2) fun (r4:Sl×Sl×Sl×Sl×Int×Int×Bool×Bool×Unit)=>
 .store (some a1) [vS r4.1,vS r4.2.1,vS r4.2.2.1,vS r4.2.2.2.1,vI r4.2.2.2.2.1,vI r4.2.2.2.2.2.1,vB r4.2.2.2.2.2.2.1,vB r4.2.2.2.2.2.2.2.1] <|
 .load (Ty.agg [B.sl,B.sl,B.sl,B.sl,bI,bI,B.bool,B.bool]) (some a1) fun (r5:Sl×Sl×Sl×Sl×Int×Int×Bool×Bool×Unit)=>
 .ret 0 [(Value.agg (#[vS r5.1,vS r5.2.1,vS r5.2.2.1,vS r5.2.2.2.1,vI r5.2.2.2.2.1,vI r5.2.2.2.2.2.1,vB r5.2.2.2.2.2.2.1,vB r5.2.2.2.2.2.2.2.1]))]) <|
 .call (F_Text_Len S r3.1) [tI] fun (r6:Int×Unit)=>
 .call (F_Text_Atoms S r3.1 (Int.ofNat 0) r6.1) [tS] fun (r7:Sl×Unit)=>
 .store (shiftTo (some a2) 0) [vS r7.1] <|
 .call (F_Text_Len S r3.1) [tI] fun (r8:Int×Unit)=>
 .call (F_Text_Tags S r3.1 (Int.ofNat 0) r8.1) [tS] fun (r9:Sl×Unit)=>
 .store (shiftTo (some a2) 1) [vS r9.1] <|
 .call (F_Book_Watched S b) [tS] fun (r0:Sl×Unit)=>
 .store (shiftTo (some a2) 2) [vS r0.1] <|
 .call (F_Book_Marks S b) [tS] fun (r1:Sl×Unit)=>
 .store (shiftTo (some a2) 3) [vS r1.1] <|
 .call (F_Book_Depth S b) [tI,tI] fun (r2:Int×Int×Unit)=>
 .store (shiftTo (some a2) 4) [vI r2.1] <|
 .store (shiftTo (some a2) 5) [vI r2.2.1] <|
 .call (F_Book_Dirty S b) [tB] fun (r17:Bool×Unit)=>
 .store (shiftTo (some a2) 6) [vB r17.1] <|
 .call (F_Book_IsOpen S b) [tB] fun (r18:Bool×Unit)=>
 .store (shiftTo (some a2) 7) [vB r18.1] <|
 .load (Ty.agg [B.sl,B.sl,B.sl,B.sl,bI,bI,B.bool,B.bool]) (some a2) fun (r19:Sl×Sl×Sl×Sl×Int×Int×Bool×Bool×Unit)=>
 .store (some a1) [vS r19.1,vS r19.2.1,vS r19.2.2.1,vS r19.2.2.2.1,vI r19.2.2.2.2.1,vI r19.2.2.2.2.2.1,vB r19.2.2.2.2.2.2.1,vB r19.2.2.2.2.2.2.2.1] <|
 .load (Ty.agg [B.sl,B.sl,B.sl,B.sl,bI,bI,B.bool,B.bool]) (some a1) fun (r20:Sl×Sl×Sl×Sl×Int×Int×Bool×Bool×Unit)=>
 .ret 0 [(Value.agg (#[vS r20.1,vS r20.2.1,vS r20.2.2.1,vS r20.2.2.2.1,vI r20.2.2.2.2.1,vI r20.2.2.2.2.2.1,vB r20.2.2.2.2.2.2.1,vB r20.2.2.2.2.2.2.2.1]))]
def F_law7_sameInts (S:Ids) (a:Sl) (b:Sl):Prog:=
 ifB (neI (natI a.len) (natI b.len))
 (.ret 0 [vB false]) <|
 .bind
 (.loop [tI] ((0:Int),()) fun (r0:Int×Unit)=>
 ifB (ltI r0.1 (natI a.len))
 (atx tI a r0.1 1 fun (n0:Int)=>
 atx tI b r0.1 1 fun (n1:Int)=>
 ifB (neI n0 n1)
 (.ret 1 [vB false]) <|
 .ret 0 [vI (addI .i64 r0.1 1)]) <|
 .ret 2 []) fun (k0:Nat)=>
 fun (v0:List Value)=>
 ifB (eqN k0 2)
 (.cast [] v0 fun (u0:Unit)=>
 .ret 0 [vB true]) <|
 ifB (eqN k0 1)
 (.cast [tB] v0 fun (r1:Bool×Unit)=>
 .ret 0 [vB r1.1]) <|
 .fail
def F_law7_alike (S:Ids) (a:(Sl×Sl×Sl×Sl×Int×Int×Bool×Bool×Unit)) (b:(Sl×Sl×Sl×Sl×Int×Int×Bool×Bool×Unit)):Prog:=
 .alloc [vS a.1,vS a.2.1,vS a.2.2.1,vS a.2.2.2.1,vI a.2.2.2.2.1,vI a.2.2.2.2.2.1,vB a.2.2.2.2.2.2.1,vB a.2.2.2.2.2.2.2.1] fun (a1:Addr)=>
 .alloc [vS b.1,vS b.2.1,vS b.2.2.1,vS b.2.2.2.1,vI b.2.2.2.2.1,vI b.2.2.2.2.2.1,vB b.2.2.2.2.2.2.1,vB b.2.2.2.2.2.2.2.1] fun (a2:Addr)=>
 thn 0 [tB] (.load tS (shiftTo (some a1) 0) fun (l0:Sl)=>
 .load tS (shiftTo (some a2) 0) fun (l1:Sl)=>
 .call (F_law7_sameInts S l0 l1) [tB] fun (r0:Bool×Unit)=>
 ifB r0.1
 (.load tS (shiftTo (some a1) 1) fun (l2:Sl)=>
 .load tS (shiftTo (some a2) 1) fun (l3:Sl)=>
 .call (F_law7_sameInts S l2 l3) [tB] fun (r1:Bool×Unit)=>
 .ret 0 [vB r1.1]) <|
 .ret 0 [vB false]) fun (r2:Bool×Unit)=>
 .ret 0 [vB r2.1]
def F_Book_Drop (S:Ids) (b:OA):Prog:=
 fld tP b 6 fun (p1:OA)=>
 ifB (noneB p1)
 (.ret 0 [vI 0,vI 71]) <|
 .deferv S.f_Book_shut [vP b] <|
 fld tP b 0 fun (p2:OA)=>
 fld tP b 6 fun (p3:OA)=>
 grd (someB p3) <|
 grd (someB p3) <|
 grd (someB (shiftTo p3 0)) <|
 .load tP (shiftTo (shiftTo p3 0) 0) fun (p4:OA)=>
 .call (F_Text_Back S p2 p4) [tI] fun (r5:Int×Unit)=>
 fld tP b 6 fun (p6:OA)=>
 fld (Ty.one B.map) p6 7 fun (p7:Option Nat)=>
 fld tP b 6 fun (p8:OA)=>
 fld tS p8 8 fun (l9:Sl)=>
 sto b 4 [(Value.map p7)] <|
 sto b 5 [vS l9] <|
 fld tP b 6 fun (p0:OA)=>
 grd (someB p0) <|
 grd (someB p0) <|
 grd (someB (shiftTo p0 0)) <|
 .load tI (shiftTo (shiftTo p0 0) 2) fun (n0:Int)=>
 .ret 0 [vI n0,vI 0]
def F_law7_same (S:Ids) (a:(Sl×Sl×Sl×Sl×Int×Int×Bool×Bool×Unit)) (b:(Sl×Sl×Sl×Sl×Int×Int×Bool×Bool×Unit)):Prog:=
 .alloc [vS a.1,vS a.2.1,vS a.2.2.1,vS a.2.2.2.1,vI a.2.2.2.2.1,vI a.2.2.2.2.2.1,vB a.2.2.2.2.2.2.1,vB a.2.2.2.2.2.2.2.1] fun (a1:Addr)=>
 .alloc [vS b.1,vS b.2.1,vS b.2.2.1,vS b.2.2.2.1,vI b.2.2.2.2.1,vI b.2.2.2.2.2.1,vB b.2.2.2.2.2.2.1,vB b.2.2.2.2.2.2.2.1] fun (a2:Addr)=>
 thn 0 [tB] (.load (Ty.agg [B.sl,B.sl,B.sl,B.sl,bI,bI,B.bool,B.bool]) (some a1) fun (r0:Sl×Sl×Sl×Sl×Int×Int×Bool×Bool×Unit)=>
 .load (Ty.agg [B.sl,B.sl,B.sl,B.sl,bI,bI,B.bool,B.bool]) (some a2) fun (r1:Sl×Sl×Sl×Sl×Int×Int×Bool×Bool×Unit)=>
 .call (F_law7_alike S (r0.1,(r0.2.1,(r0.2.2.1,(r0.2.2.2.1,(r0.2.2.2.2.1,(r0.2.2.2.2.2.1,(r0.2.2.2.2.2.2.1,(r0.2.2.2.2.2.2.2.1,())))))))) (r1.1,(r1.2.1,(r1.2.2.1,(r1.2.2.2.1,(r1.2.2.2.2.1,(r1.2.2.2.2.2.1,(r1.2.2.2.2.2.2.1,(r1.2.2.2.2.2.2.2.1,()))))))))) [tB] fun (r2:Bool×Unit)=>
 ifB (notB r2.1)
 (.ret 0 [vB true]) <|
 .load tS (shiftTo (some a1) 2) fun (l0:Sl)=>
 .load tS (shiftTo (some a2) 2) fun (l1:Sl)=>
 .call (F_law7_sameInts S l0 l1) [tB] fun (r3:Bool×Unit)=>
 ifB (notB r3.1)
 (.ret 0 [vB true]) <|
 .load tS (shiftTo (some a1) 3) fun (l2:Sl)=>
 .load tS (shiftTo (some a2) 3) fun (l3:Sl)=>
 .ret 0 [vB (neI (natI l2.len) (natI l3.len))]) fun (r4:Bool×Unit)=>
 ifB r4.1
 (.ret 0 [vB false]) <|
 .bind
 (.loop [tI] ((0:Int),()) fun (r5:Int×Unit)=>
 .load tS (shiftTo (some a1) 3) fun (l4:Sl)=>
 ifB (ltI r5.1 (natI l4.len))
 (.load tS (shiftTo (some a1) 3) fun (l5:Sl)=>
 atx (Ty.agg [bI,bI]) l5 r5.1 2 fun (r6:Int×Int×Unit)=>
 .load tS (shiftTo (some a2) 3) fun (l6:Sl)=>
 atx (Ty.agg [bI,bI]) l6 r5.1 2 fun (r7:Int×Int×Unit)=>
 ifB (notB (andB (eqI r6.1 r7.1) (eqI r6.2.1 r7.2.1)))
 (.ret 1 [vB false]) <|
 .ret 0 [vI (addI .i64 r5.1 1)]) <|
 .ret 2 []) fun (k0:Nat)=>
 fun (v0:List Value)=>
 ifB (eqN k0 2)
 (.cast [] v0 fun (u0:Unit)=>
 thn 0 [tB] (.load tI (shiftTo (some a1) 4) fun (n0:Int)=>
 .load tI (shiftTo (some a2) 4) fun (n1:Int)=>
 ifB (eqI n0 n1)
 (.load tI (shiftTo (some a1) 5) fun (n2:Int)=>
 .load tI (shiftTo (some a2) 5) fun (n3:Int)=>
 ifB (eqI n2 n3)
 (.load tB (shiftTo (some a1) 6) fun (b0:Bool)=>
 .load tB (shiftTo (some a2) 6) fun (b1:Bool)=>
 ifB (eqB b0 b1)
 (.load tB (shiftTo (some a1) 7) fun (b2:Bool)=>
 .load tB (shiftTo (some a2) 7) fun (b3:Bool)=>
 .ret 0 [vB (eqB b2 b3)]) <|
 .ret 0 [vB false]) <|
 .ret 0 [vB false]) <|
 .ret 0 [vB false]) fun (r8:Bool×Unit)=>
 .ret 0 [vB r8.1]) <|
 ifB (eqN k0 1)
 (.cast [tB] v0 fun (r9:Bool×Unit)=>
 .ret 0 [vB r9.1]) <|
 .fail
def F_law7_HistoryDropped (S:Ids) (enc:Int) (b:Sl) (groups:Sl) (back:Int) (cuts:Sl) (marks:Sl):Prog:=
 thn 0 [tB] (.call (F_law7_short S b groups) [tB] fun (r0:Bool×Unit)=>
 ifB (notB r0.1)
 (.ret 0 [vB true]) <|
 .alloc [vS cuts] fun (a0:Addr)=>
 .call (F_law7_short S b (⟨(some a0),1,1⟩)) [tB] fun (r1:Bool×Unit)=>
 ifB (notB r1.1)
 (.ret 0 [vB true]) <|
 .ret 0 [vB (gtI (natI marks.len) 20)]) fun (r2:Bool×Unit)=>
 ifB r2.1
 (.ret 0 [vB true]) <|
 .call (F_law7_book S enc b (Int.ofNat 4)) [tP] fun (r3:OA×Unit)=>
 thn 0 [tB] (ifB (noneB r3.1)
 (.ret 0 [vB true]) <|
 .alloc [vI 1] fun (a1:Addr)=>
 .alloc [vI 0,vI 0,(Value.slice (some a1) 1 1)] fun (a2:Addr)=>
 .call (F_law7_group S r3.1 (⟨(some a2),1,1⟩) (Int.ofNat 0)) [tB] fun (r4:Bool×Unit)=>
 .ret 0 [vB (notB r4.1)]) fun (r5:Bool×Unit)=>
 ifB r5.1
 (.ret 0 [vB false]) <|
 .bind
 (.loop [tI] ((0:Int),()) fun (r6:Int×Unit)=>
 ifB (ltI r6.1 (natI groups.len))
 (atx tS groups r6.1 1 fun (l0:Sl)=>
 .call (F_law7_group S r3.1 l0 r6.1) [tB] fun (r7:Bool×Unit)=>
 ifB (notB r7.1)
 (.ret 1 [vB false]) <|
 .ret 0 [vI (addI .i64 r6.1 1)]) <|
 .ret 2 []) fun (k0:Nat)=>
 fun (v0:List Value)=>
 ifB (eqN k0 2)
 (.cast [] v0 fun (u0:Unit)=>
 thn 4 [] (.loop [tI] ((0:Int),()) fun (r8:Int×Unit)=>
 ifB (ltI r8.1 (natI marks.len))
 (atx tI marks r8.1 1 fun (n0:Int)=>
 .call (F_Book_Text S r3.1) [tP] fun (r9:OA×Unit)=>
 .check (shiftTo marks.base (mulN (toN r8.1) 1)) [vI n0] <|
 .call (F_Text_Len S r9.1) [tI] fun (r10:Int×Unit)=>
 .check (shiftTo marks.base (mulN (toN r8.1) 1)) [vI n0] <|
 .call (F_law7_slot S n0 r10.1) [tI] fun (r11:Int×Unit)=>
 .call (F_Book_SetMark S r3.1 (addI .i64 97 r8.1) r11.1) [tI] fun (r12:Int×Unit)=>
 .ret 0 [vI (addI .i64 r8.1 1)]) <|
 .ret 4 []) fun (u1:Unit)=>
 .call (F_law7_slot S back (Int.ofNat 3)) [tI] fun (r13:Int×Unit)=>
 thn 6 [] (.loop [tI] (r13.1,()) fun (r14:Int×Unit)=>
 ifB (gtI r14.1 0)
 (.call (F_Book_Undo S r3.1) [tI,tI] fun (r15:Int×Int×Unit)=>
 .ret 0 [vI (subI .i64 r14.1 1)]) <|
 .ret 6 []) fun (u2:Unit)=>
 .call (F_Book_Text S r3.1) [tP] fun (r16:OA×Unit)=>
 .call (F_Text_Len S r16.1) [tI] fun (r17:Int×Unit)=>
 .alloc [vI 0,vI r17.1] fun (a3:Addr)=>
 .call (F_Book_Watch S r3.1 (⟨(some a3),2,2⟩)) [tI] fun (r18:Int×Unit)=>
 .call (F_law7_see S r3.1) [(Ty.agg [B.sl,B.sl,B.sl,B.sl,bI,bI,B.bool,B.bool])] fun (r19:((Sl×Sl×Sl×Sl×Int×Int×Bool×Bool×Unit)×Unit))=>
 .alloc [nS,nS,nS,nS,vI 0,vI 0,vB false,vB false] fun (a4:Addr)=>
 .store (some a4) [vS r19.1.1,vS r19.1.2.1,vS r19.1.2.2.1,vS r19.1.2.2.2.1,vI r19.1.2.2.2.2.1,vI r19.1.2.2.2.2.2.1,vB r19.1.2.2.2.2.2.2.1,vB r19.1.2.2.2.2.2.2.2.1] <|
 .call (F_Book_Text S r3.1) [tP] fun (r20:OA×Unit)=>
 .call (F_Text_Len S r20.1) [tI] fun (r21:Int×Unit)=>
 .call (F_law7_slot S back r21.1) [tI] fun (r22:Int×Unit)=>
 .call (F_Book_Begin S r3.1 r22.1) [tI] fun (r23:Int×Unit)=>
 .call (F_law7_num S r23.1) [tI] fun (r24:Int×Unit)=>
 ifB (neI r24.1 0)
 (.ret 0 [vB false]) <|
 .alloc [vI 2] fun (a5:Addr)=>
 .call (F_Book_Text S r3.1) [tP] fun (r25:OA×Unit)=>
 .call (F_Text_Len S r25.1) [tI] fun (r26:Int×Unit)=>
 .call (F_law7_edit S (0,(0,(⟨(some a5),1,1⟩,()))) r26.1) [(Ty.agg [bI,bI,B.sl])] fun (r27:((Int×Int×Sl×Unit)×Unit))=>
 .alloc [vI r27.1.1,vI r27.1.2.1,vS r27.1.2.2.1] fun (a6:Addr)=>
 .call (F_Book_Change S r3.1 (⟨(some a6),1,1⟩)) [tI] fun (r28:Int×Unit)=>
 .call (F_law7_num S r28.1) [tI] fun (r29:Int×Unit)=>
 ifB (neI r29.1 0)
 (.ret 0 [vB false]) <|
 .call (F_law7_see S r3.1) [(Ty.agg [B.sl,B.sl,B.sl,B.sl,bI,bI,B.bool,B.bool])] fun (r30:((Sl×Sl×Sl×Sl×Int×Int×Bool×Bool×Unit)×Unit))=>
 .alloc [nS,nS,nS,nS,vI 0,vI 0,vB false,vB false] fun (a7:Addr)=>
 .store (some a7) [vS r30.1.1,vS r30.1.2.1,vS r30.1.2.2.1,vS r30.1.2.2.2.1,vI r30.1.2.2.2.2.1,vI r30.1.2.2.2.2.2.1,vB r30.1.2.2.2.2.2.2.1,vB r30.1.2.2.2.2.2.2.2.1] <|
 .bind
 (.loop [tI] ((0:Int),()) fun (r31:Int×Unit)=>
 ifB (ltI r31.1 (natI cuts.len))
 (atx (Ty.agg [bI,bI,B.sl]) cuts r31.1 3 fun (r32:Int×Int×Sl×Unit)=>
 .call (F_Book_Text S r3.1) [tP] fun (r33:OA×Unit)=>
 .check (shiftTo cuts.base (mulN (toN r31.1) 3)) [vI r32.1,vI r32.2.1,vS r32.2.2.1] <|
 .call (F_Text_Len S r33.1) [tI] fun (r34:Int×Unit)=>
 .check (shiftTo cuts.base (mulN (toN r31.1) 3)) [vI r32.1,vI r32.2.1,vS r32.2.2.1] <|
 .call (F_law7_edit S (r32.1,(r32.2.1,(r32.2.2.1,()))) r34.1) [(Ty.agg [bI,bI,B.sl])] fun (r35:((Int×Int×Sl×Unit)×Unit))=>
 .alloc [vI r35.1.1,vI r35.1.2.1,vS r35.1.2.2.1] fun (a8:Addr)=>
 .call (F_Book_Change S r3.1 (⟨(some a8),1,1⟩)) [tI] fun (r36:Int×Unit)=>
 .call (F_law7_num S r36.1) [tI] fun (r37:Int×Unit)=>
 ifB (neI r37.1 0)
 (.ret 1 [vB false]) <|
 .ret 0 [vI (addI .i64 r31.1 1)]) <|
 .ret 8 []) fun (k1:Nat)=>
 fun (v1:List Value)=>
 ifB (eqN k1 8)
 (.cast [] v1 fun (u3:Unit)=>
 .call (F_Book_SetMark S r3.1 (Int.ofNat 98) (Int.ofNat 0)) [tI] fun (r38:Int×Unit)=>
 .call (F_Book_Watch S r3.1 (⟨none,0,0⟩)) [tI] fun (r39:Int×Unit)=>
 .call (F_Book_Drop S r3.1) [tI,tI] fun (r40:Int×Int×Unit)=>
 thn 0 [tB] (.call (F_law7_num S r40.2.1) [tI] fun (r41:Int×Unit)=>
 ifB (eqI r41.1 0)
 (ifB (eqI r40.1 r22.1)
 (.load (Ty.agg [B.sl,B.sl,B.sl,B.sl,bI,bI,B.bool,B.bool]) (some a7) fun (r42:Sl×Sl×Sl×Sl×Int×Int×Bool×Bool×Unit)=>
 .load (Ty.agg [B.sl,B.sl,B.sl,B.sl,bI,bI,B.bool,B.bool]) (some a4) fun (r43:Sl×Sl×Sl×Sl×Int×Int×Bool×Bool×Unit)=>
 .call (F_law7_alike S (r42.1,(r42.2.1,(r42.2.2.1,(r42.2.2.2.1,(r42.2.2.2.2.1,(r42.2.2.2.2.2.1,(r42.2.2.2.2.2.2.1,(r42.2.2.2.2.2.2.2.1,())))))))) (r43.1,(r43.2.1,(r43.2.2.1,(r43.2.2.2.1,(r43.2.2.2.2.1,(r43.2.2.2.2.2.1,(r43.2.2.2.2.2.2.1,(r43.2.2.2.2.2.2.2.1,()))))))))) [tB] fun (r44:Bool×Unit)=>
 ifB (notB r44.1)
 (.load tB (shiftTo (some a7) 6) fun (b0:Bool)=>
 ifB b0
 (.load tB (shiftTo (some a7) 7) fun (b1:Bool)=>
 ifB b1
 (.load (Ty.agg [B.sl,B.sl,B.sl,B.sl,bI,bI,B.bool,B.bool]) (some a4) fun (r45:Sl×Sl×Sl×Sl×Int×Int×Bool×Bool×Unit)=>
 .call (F_law7_see S r3.1) [(Ty.agg [B.sl,B.sl,B.sl,B.sl,bI,bI,B.bool,B.bool])] fun (r46:((Sl×Sl×Sl×Sl×Int×Int×Bool×Bool×Unit)×Unit))=>
 .check (some a4) [vS r45.1,vS r45.2.1,vS r45.2.2.1,vS r45.2.2.2.1,vI r45.2.2.2.2.1,vI r45.2.2.2.2.2.1,vB r45.2.2.2.2.2.2.1,vB r45.2.2.2.2.2.2.2.1] <|
 .call (F_law7_same S (r46.1.1,(r46.1.2.1,(r46.1.2.2.1,(r46.1.2.2.2.1,(r46.1.2.2.2.2.1,(r46.1.2.2.2.2.2.1,(r46.1.2.2.2.2.2.2.1,(r46.1.2.2.2.2.2.2.2.1,())))))))) (r45.1,(r45.2.1,(r45.2.2.1,(r45.2.2.2.1,(r45.2.2.2.2.1,(r45.2.2.2.2.2.1,(r45.2.2.2.2.2.2.1,(r45.2.2.2.2.2.2.2.1,()))))))))) [tB] fun (r47:Bool×Unit)=>
 .ret 0 [vB r47.1]) <|
 .ret 0 [vB false]) <|
 .ret 0 [vB false]) <|
 .ret 0 [vB false]) <|
 .ret 0 [vB false]) <|
 .ret 0 [vB false]) fun (r48:Bool×Unit)=>
 .ret 0 [vB r48.1]) <|
 ifB (eqN k1 1)
 (.cast [tB] v1 fun (r49:Bool×Unit)=>
 .ret 0 [vB r49.1]) <|
 .fail) <|
 ifB (eqN k0 1)
 (.cast [tB] v0 fun (r50:Bool×Unit)=>
 .ret 0 [vB r50.1]) <|
 .fail
def F_Text_Atoms_1 (S:Ids) (atom:Int) (x1:Int) (x2:OA):Prog:=
 .load tS x2 fun (l1:Sl)=>
 .alloc [vI atom] fun (a2:Addr)=>
 .append 1 8 [vI 0] l1 (⟨(some a2),1,1⟩) fun (l3:Sl)=>
 .store x2 [vS l3] <|
 .ret 0 []
def F_Book_Marks_1 (S:Ids) (x:(Int×Int×Unit)) (y:(Int×Int×Unit)):Prog:=
 .alloc [vI x.1,vI x.2.1] fun (a1:Addr)=>
 .alloc [vI y.1,vI y.2.1] fun (a2:Addr)=>
 .load tI (shiftTo (some a1) 0) fun (n3:Int)=>
 .load tI (shiftTo (some a2) 0) fun (n4:Int)=>
 .ret 0 [vI (subI .i64 n3 n4)]
end
end Go.Sw
