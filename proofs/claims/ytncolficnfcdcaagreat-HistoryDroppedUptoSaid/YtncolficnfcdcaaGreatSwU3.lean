/-
  Laws for the user of shallow programs: bits, reckoning without wraps, lists of ints in memory, parts of lists, old memory up to a block.
-/
import Derived.Test.YtncolficnfcdcaaGreatSwU2
set_option linter.unusedVariables false
set_option linter.unusedSimpArgs false
set_option maxRecDepth 100000
namespace Go.Sw
variable {P:Program} {h:Heap} {Q:Nat→List Value→Heap→Prop}
theorem ofInt64_nat (a:Nat) (ha:a<2 ^ 64):(BitVec.ofInt 64 (a:Int)).toNat=a:=by
 rw [BitVec.ofInt_natCast,BitVec.toNat_ofNat,Nat.mod_eq_of_lt ha]
theorem ofInt8_nat (a:Nat) (ha:a<256):(BitVec.ofInt 8 (a:Int)).toNat=a:=by
 rw [BitVec.ofInt_natCast,BitVec.toNat_ofNat,Nat.mod_eq_of_lt (by simpa using ha)]
theorem wrap64_id {n:Int} (h1 : -9223372036854775808≤n) (h2:n<9223372036854775808):IntKind.i64.wrap n=n:=by
 rw [IntKind.wrap_i64]; omega
theorem or64_nat {a b:Nat} (ha:a<2 ^ 62) (hb:b<2 ^ 62):orI .i64 (a:Int) (b:Int)=((a ||| b:Nat):Int):=by
 unfold orI
 show IntKind.i64.wrap (BitVec.ofInt 64 a ||| BitVec.ofInt 64 b).toNat=_
 rw [BitVec.toNat_or,ofInt64_nat a (by omega),ofInt64_nat b (by omega)]
 have:=Nat.or_lt_two_pow ha hb
 rw [wrap64_id (by omega) (by omega)]
theorem or8_nat {a b:Nat} (ha:a<256) (hb:b<256):orI .u8 (a:Int) (b:Int)=((a ||| b:Nat):Int):=by
 unfold orI
 show IntKind.u8.wrap (BitVec.ofInt 8 a ||| BitVec.ofInt 8 b).toNat=_
 rw [BitVec.toNat_or,ofInt8_nat a ha,ofInt8_nat b hb]
 have:a ||| b<2 ^ 8:=Nat.or_lt_two_pow (by simpa using ha) (by simpa using hb)
 rw [IntKind.wrap_u8']; omega
theorem and8_nat {a b:Nat} (ha:a<256) (hb:b<256):andI .u8 (a:Int) (b:Int)=((a &&& b:Nat):Int):=by
 unfold andI
 show IntKind.u8.wrap (BitVec.ofInt 8 a &&& BitVec.ofInt 8 b).toNat=_
 rw [BitVec.toNat_and,ofInt8_nat a ha,ofInt8_nat b hb]
 have:=Nat.and_le_left (n:=a) (m:=b)
 rw [IntKind.wrap_u8']; omega
theorem and_mask64 (a:Int) (k:Nat) (hk:k<62):andI .i64 a (((2 ^ k-1:Nat)):Int)=a % ((2 ^ k:Nat):Int):=by
 unfold andI
 show IntKind.i64.wrap (BitVec.ofInt 64 a &&& BitVec.ofInt 64 ((2 ^ k-1:Nat):Int)).toNat=_
 have h1:2 ^ k≤2 ^ 62:=Nat.pow_le_pow_right (by decide) (by omega)
 have h0:0<2 ^ k:=Nat.two_pow_pos k
 rw [BitVec.toNat_and,ofInt64_nat (2 ^ k-1) (by omega),Nat.and_two_pow_sub_one_eq_mod,BitVec.toNat_ofInt]
 have h2:(a % ((2 ^ 64:Nat):Int)).toNat % 2 ^ k<2 ^ k:=Nat.mod_lt _ h0
 rw [wrap64_id (by omega) (by omega)]
 have h3:(((a % ((2 ^ 64:Nat):Int)).toNat:Nat):Int)=a % ((2 ^ 64:Nat):Int):=Int.toNat_of_nonneg (Int.emod_nonneg _ (by decide))
 have h4:(((2 ^ k:Nat)):Int) ∣ ((2 ^ 64:Nat):Int):=Int.natCast_dvd_natCast.2 (Nat.pow_dvd_pow 2 (by omega))
 rw [Int.natCast_emod,h3,Int.emod_emod_of_dvd _ h4]
theorem and3 (a:Int):andI .i64 a 3=a % 4:=and_mask64 a 2 (by decide)
theorem and7 (a:Int):andI .i64 a 7=a % 8:=and_mask64 a 3 (by decide)
theorem and15 (a:Int):andI .i64 a 15=a % 16:=and_mask64 a 4 (by decide)
theorem and31 (a:Int):andI .i64 a 31=a % 32:=and_mask64 a 5 (by decide)
theorem and1023 (a:Int):andI .i64 a 1023=a % 1024:=and_mask64 a 10 (by decide)
theorem and8_63 {a:Int} (h0:0≤a) (h1:a<256):andI .u8 a 63=a % 64:=by
 obtain ⟨n,rfl⟩:=Int.eq_ofNat_of_zero_le h0
 rw [show (63:Int)=((63:Nat):Int) from rfl,and8_nat (by omega) (by decide),show (63:Nat)=2 ^ 6-1 from rfl,Nat.and_two_pow_sub_one_eq_mod]
 rfl
theorem and8_192 {a:Int} (h0:0≤a) (h1:a<256):andI .u8 a 192=a / 64*64:=by
 obtain ⟨n,rfl⟩:=Int.eq_ofNat_of_zero_le h0
 have hn:n<256:=by omega
 rw [show (192:Int)=((192:Nat):Int) from rfl,and8_nat hn (by decide)]
 have:∀ n:Fin 256,(n.val &&& 192:Nat)=n.val / 64*64:=by decide
 have:=this ⟨n,hn⟩
 simp only at this
 rw [this]; omega
theorem or64_join {a b:Int} (k:Nat) (ha:0≤a) (ha':a<2 ^ 62) (hd:a % ((2 ^ k:Nat):Int)=0) (hb:0≤b) (hb':b<((2 ^ k:Nat):Int)) (hk:k≤62):orI .i64 a b=a+b:=by
 obtain ⟨n,rfl⟩:=Int.eq_ofNat_of_zero_le ha
 obtain ⟨m,rfl⟩:=Int.eq_ofNat_of_zero_le hb
 have h1:2 ^ k≤2 ^ 62:=Nat.pow_le_pow_right (by decide) hk
 have hm:m<2 ^ k:=by omega
 have hd':n % 2 ^ k=0:=by
  have:=hd
  rw [← Int.natCast_emod] at this
  omega
 rw [or64_nat (by omega) (by omega)]
 obtain ⟨q,hq⟩:=Nat.dvd_of_mod_eq_zero hd'
 rw [hq, ← Nat.two_pow_add_eq_or_of_lt hm]
 omega
theorem or8_join {a b:Int} (k:Nat) (ha:0≤a) (ha':a<256) (hd:a % ((2 ^ k:Nat):Int)=0) (hb:0≤b) (hb':b<((2 ^ k:Nat):Int)) (hk:k≤8):orI .u8 a b=a+b:=by
 obtain ⟨n,rfl⟩:=Int.eq_ofNat_of_zero_le ha
 obtain ⟨m,rfl⟩:=Int.eq_ofNat_of_zero_le hb
 have h1:2 ^ k≤2 ^ 8:=Nat.pow_le_pow_right (by decide) hk
 have hm:m<2 ^ k:=by omega
 have hd':n % 2 ^ k=0:=by
  have:=hd
  rw [← Int.natCast_emod] at this
  omega
 rw [or8_nat (by omega) (by omega)]
 obtain ⟨q,hq⟩:=Nat.dvd_of_mod_eq_zero hd'
 rw [hq, ← Nat.two_pow_add_eq_or_of_lt hm]
 omega
theorem nat_clear10 (a:Nat) (ha:a<2 ^ 63):(a &&& (2 ^ 64-1-1023))=a / 1024*1024:=by
 apply Nat.eq_of_testBit_eq
 intro i
 have h1:(2 ^ 64-1-1023:Nat)=(2 ^ 54-1)*2 ^ 10:=by decide
 rw [Nat.testBit_and,h1,Nat.testBit_mul_two_pow,Nat.testBit_two_pow_sub_one,show (1024:Nat)=2 ^ 10 from rfl,Nat.testBit_mul_two_pow,Nat.testBit_div_two_pow]
 by_cases h10:10≤i
 ·have e:i-10+10=i:=by omega
  simp only [h10,decide_true,Bool.true_and,e]
  by_cases h64:i-10<54
  ·simp [h64]
  ·simp only [h64,decide_false,Bool.and_false]
   have:a<2 ^ i:=Nat.lt_of_lt_of_le ha (Nat.pow_le_pow_right (by decide) (by omega))
   rw [Nat.testBit_lt_two_pow this]
 ·simp [h10]
theorem andNot1023 {a:Int} (h0:0≤a) (h1:a<2 ^ 63):andNotI .i64 a 1023=a / 1024*1024:=by
 obtain ⟨n,rfl⟩:=Int.eq_ofNat_of_zero_le h0
 unfold andNotI
 show IntKind.i64.wrap (BitVec.ofInt 64 n &&& ~~~BitVec.ofInt 64 1023).toNat=_
 have hc:(~~~BitVec.ofInt 64 1023).toNat=2 ^ 64-1-1023:=by decide
 rw [BitVec.toNat_and,ofInt64_nat n (by omega),hc,nat_clear10 n (by omega)]
 rw [wrap64_id (by omega) (by omega)]
 omega
theorem add_ok {a b:Int} (h1 : -9223372036854775808≤a+b) (h2:a+b≤9223372036854775807):addI .i64 a b=a+b:=wrap64_id h1 (by omega)
theorem sub_ok {a b:Int} (h1 : -9223372036854775808≤a-b) (h2:a-b≤9223372036854775807):subI .i64 a b=a-b:=wrap64_id h1 (by omega)
theorem mul_ok {a b:Int} (h1 : -9223372036854775808≤a*b) (h2:a*b≤9223372036854775807):mulI .i64 a b=a*b:=wrap64_id h1 (by omega)
theorem wrap_ok {a:Int} (h1 : -9223372036854775808≤a) (h2:a≤9223372036854775807):wrapI .i64 a=a:=wrap64_id h1 (by omega)
theorem byte_ok {a:Int} (h1:0≤a) (h2:a≤255):wrapI .u8 a=a:=by unfold wrapI; rw [IntKind.wrap_u8']; omega
theorem byte_mod (a:Int):wrapI .u8 a=a % 256:=by unfold wrapI; exact IntKind.wrap_u8' a
theorem quo_ok {a b:Int} (h0:0≤a) (hb:0<b) (h1:a≤9223372036854775807):quoI .i64 a b=a / b:=by
 unfold quoI
 rw [Int.tdiv_eq_ediv_of_nonneg h0]
 have:0≤a / b:=Int.ediv_nonneg h0 (by omega)
 have:a / b≤a:=Int.ediv_le_self b h0
 exact wrap64_id (by omega) (by omega)
theorem shl_ok {a:Int} (k:Nat) (hk:k<64) (h1 : -9223372036854775808≤a*((2 ^ k:Nat):Int)) (h2:a*((2 ^ k:Nat):Int)≤9223372036854775807):shlI .i64 a (k:Int)=a*((2 ^ k:Nat):Int):=by
 unfold shlI
 have:min (k:Int).toNat IntKind.i64.bits=k:=by show min (k:Int).toNat 64=k; omega
 rw [this,show ((2:Int) ^ k)=((2 ^ k:Nat):Int) by simp]
 exact wrap64_id h1 (by omega)
theorem shr_ok {a:Int} (k:Nat) (hk:k<64):shrI .i64 a (k:Int)=a / ((2 ^ k:Nat):Int):=by
 unfold shrI
 have:min (k:Int).toNat IntKind.i64.bits=k:=by show min (k:Int).toNat 64=k; omega
 rw [this,show ((2:Int) ^ k)=((2 ^ k:Nat):Int) by simp,Int.fdiv_eq_ediv_of_nonneg _ (Int.natCast_nonneg _)]
def fitsI (k:IntKind) (x:Int):Prop:=k.min≤x∧x≤k.max
theorem fits_u8 {x:Int}:fitsI .u8 x↔0≤x∧x≤255:=by unfold fitsI; simp [IntKind.min,IntKind.max,IntKind.signed,IntKind.bits]
theorem fits_i64 {x:Int}:fitsI .i64 x ↔ -9223372036854775808≤x∧x≤9223372036854775807:=by unfold fitsI; simp [IntKind.min,IntKind.max,IntKind.signed,IntKind.bits]
theorem fits_zero (k:IntKind):fitsI k 0:=by cases k <;> simp [fitsI,IntKind.min,IntKind.max,IntKind.signed,IntKind.bits]
theorem range_u8 (n:Int):fitsI .u8 (IntKind.u8.wrap n):=by rw [fits_u8,IntKind.wrap_u8']; omega
structure Lst (k:IntKind) (h:Heap) (s:Sl) (l:List Int):Prop where
 rd:Ints k h s l
 cap:s.len≤s.cap
 max:s.cap<2 ^ 63
 wf:∀ x,x∈l→fitsI k x
theorem Lst.len {k:IntKind} {h:Heap} {s:Sl} {l:List Int} (hr:Lst k h s l):s.len=l.length:=hr.rd.len
theorem Lst.ext {k:IntKind} {h h':Heap} {s:Sl} {l:List Int} (hr:Lst k h s l) (e:Ext h h'):Lst k h' s l:=⟨e.ints hr.rd,hr.cap,hr.max,hr.wf⟩
theorem Lst.nil {k:IntKind} {h:Heap} {p:Option Addr} {c:Nat} (hc:c<2 ^ 63):Lst k h ⟨p,0,c⟩ []:=⟨Ints.nil,Nat.zero_le _,hc,by simp⟩
theorem Lst.fits {k:IntKind} {h:Heap} {s:Sl} {l:List Int} (hr:Lst k h s l) (i:Nat):fitsI k (l.getD i 0):=by
 rw [List.getD_eq_getElem?_getD]
 cases hi:l[i]? with
 | none=>exact fits_zero k
 | some x=>exact hr.wf x (List.mem_of_getElem? hi)
theorem Lst.byte {h:Heap} {s:Sl} {l:List Int} (hr:Lst .u8 h s l) (i:Nat):0≤l.getD i 0∧l.getD i 0≤255:=fits_u8.1 (hr.fits i)
theorem Lst.bound {k:IntKind} {h:Heap} {s:Sl} {l:List Int} (hr:Lst k h s l):l.length<2 ^ 63:=by have:=hr.len; have:=hr.cap; have:=hr.max; omega
theorem cutBase_zero (p:Option Addr) (m size:Nat):cutBase p m 0 size=p:=by
 unfold cutBase
 split
 ·rfl
 ·cases p <;> simp [add_zero']
theorem Rd.take {size:Nat} {h:Heap} {s:Sl} {vs:List Value} (hr:Rd size h s vs) {n:Nat} (hn:n≤s.len) (m:Nat):Rd size h ⟨s.base,n,m⟩ (vs.take (n*size)):=by
 have:=hr.1
 have:n*size≤s.len*size:=Nat.mul_le_mul_right _ hn
 refine ⟨by simp; omega,fun i v hi=>?_⟩
 rw [List.getElem?_take] at hi
 split at hi
 ·exact hr.2 i v hi
 ·cases hi
theorem Rd.drop {size:Nat} {h:Heap} {s:Sl} {vs:List Value} (hr:Rd size h s vs) {i:Nat} (hi:i≤s.len) (hc:s.len≤s.cap) (m:Nat) :
  Rd size h ⟨cutBase s.base s.cap i size,s.len-i,m⟩ (vs.drop (i*size)):=by
 refine ⟨by simp [Nat.sub_mul,hr.1],fun j v hj=>?_⟩
 rw [List.getElem?_drop] at hj
 obtain ⟨a,e,c⟩:=hr.2 _ v hj
 by_cases he:s.cap=i
 ·have:=(List.getElem?_eq_some_iff.1 hj).1
  rw [← hr.1,show s.len=i by omega] at this
  omega
 ·refine ⟨a.add (i*size),by simp [cutBase,he,e],?_⟩
  rw [add_add]; exact c
theorem Lst.take {k:IntKind} {h:Heap} {s:Sl} {l:List Int} (hr:Lst k h s l) {n m:Nat} (hn:n≤l.length) (hm:n≤m) (hm':m<2 ^ 63):Lst k h ⟨s.base,n,m⟩ (l.take n):=
 ⟨by have:=Rd.take hr.rd (n:=n) (by rw [hr.len]; exact hn) m; simpa [Ints,List.map_take] using this,hm,hm',fun x hx=>hr.wf x (List.mem_of_mem_take hx)⟩
theorem Lst.drop {k:IntKind} {h:Heap} {s:Sl} {l:List Int} (hr:Lst k h s l) {i m:Nat} (hi:i≤l.length) (hm:s.len-i≤m) (hm':m<2 ^ 63):Lst k h ⟨cutBase s.base s.cap i 1,s.len-i,m⟩ (l.drop i):=
 ⟨by have:=Rd.drop hr.rd (i:=i) (by rw [hr.len]; exact hi) hr.cap m; simpa [Ints,List.map_drop] using this,hm,hm',fun x hx=>hr.wf x (List.mem_of_mem_drop hx)⟩
theorem s_at {k:IntKind} {s:Sl} {l:List Int} {K:Int→Prog} {j:Int} (hr:Lst k h s l) (h0:0≤j) (h1:j<l.length)
  (hk:fitsI k (l.getD j.toNat 0)→wp P (K (l.getD j.toNat 0)) h Q):wp P (grd (andB (someB s.base) (inB j s.len)) (.load (.one (.int k)) (shiftTo s.base (mulN (toN j) 1)) K)) h Q:=
 wp_at hr.rd h0 h1 (hk (hr.fits _))
theorem s_at0 {k:IntKind} {s:Sl} {l:List Int} {K:Int→Prog} {n:Nat} (hr:Lst k h s l) (h1:n<l.length) (hk:fitsI k (l.getD n 0)→wp P (K (l.getD n 0)) h Q) :
  wp P (grd (andB (someB s.base) (inB (n:Int) s.len)) (.load (.one (.int k)) (shiftTo s.base n) K)) h Q:=by
 have:=s_at (j:=(n:Int)) hr (by omega) (by omega) (by simpa using hk)
 simpa [mulN_def,toN_def] using this
theorem s_grd {b:Bool} {X:Prog} (hb:b=true) (h1:wp P X h Q):wp P (grd b X) h Q:=wp_grd hb h1
theorem leB_ok {j:Int} {n:Nat} (h0:0≤j) (h1:j≤n):leB j n=true:=leB_is.2 ⟨h0,h1⟩
theorem inB_ok {j:Int} {n:Nat} (h0:0≤j) (h1:j<n):inB j n=true:=inB_is.2 ⟨h0,h1⟩
def GivesN (n:Nat) (P:Program) (m:Prog) (tys:List Ty) (h:Heap) (R:Ts.den tys→Heap→Prop):Prop:=
 wp P m h fun t vs h'=>t=0∧Keep n h h'∧∃ x,vs=Ts.inj tys x∧R x h'
theorem wp_callN {n:Nat} {m:Prog} {tys:List Ty} {K:Ts.den tys→Prog} {R:Ts.den tys→Heap→Prop} (g:GivesN n P m tys h R) (hk:∀ x h',Keep n h h'→R x h'→wp P (K x) h' Q) :
  wp P (.call m tys K) h Q:=
 wp_mono m (fun _ _ _ ⟨a,b,x,c,d⟩=>⟨a,x,c,hk x _ b d⟩) g
theorem wp_while {tys:List Ty} {s:Ts.den tys} {body:Ts.den tys→Prog} {K:Nat→List Value→Prog} (I:Ts.den tys→Heap→Prop) (μ:Ts.den tys→Heap→Nat) (R:Nat→List Value→Heap→Prop) (h0:I s h)
  (hs:∀ s h,I s h→wp P (body s) h fun tag vs h'=>(tag=0→∃ s',vs=Ts.inj tys s'∧I s' h'∧μ s' h'<μ s h)∧(tag≠0→R tag vs h'))
  (hk:∀ t vs h',R t vs h'→wp P (K t vs) h' Q):wp P (.bind (.loop tys s body) K) h Q:=
 wp_bind R (wp_loop I μ h0 hs) hk
end Go.Sw
namespace Go.Sw
variable {P:Program} {h:Heap} {Q:Nat→List Value→Heap→Prop}
structure OwnL (n:Nat) (k:IntKind) (h:Heap) (s:Sl) (l:List Int):Prop where
 own:Own n 1 h s (l.map (.int k))
 wf:∀ x,x∈l→fitsI k x
theorem OwnL.lst {n:Nat} {k:IntKind} {h:Heap} {s:Sl} {l:List Int} (ho:OwnL n k h s l):Lst k h s l:=
 ⟨ho.own.rd,ho.own.2.1,ho.own.2.2.1,ho.wf⟩
theorem OwnL.nil (n:Nat) (k:IntKind) (h:Heap):OwnL n k h ⟨none,0,0⟩ []:=⟨Own.nil n 1 h,by simp⟩
theorem OwnL.len {n:Nat} {k:IntKind} {h:Heap} {s:Sl} {l:List Int} (ho:OwnL n k h s l):s.len=l.length:=ho.lst.len
theorem Own.lt {n size:Nat} {h:Heap} {s:Sl} {vs:List Value} (ho:Own n size h s vs) {a:Addr} (ha:s.base=some a):n≤a.block∧a.block<h.size:=by
 obtain ⟨_,_,_,h4⟩:=ho
 rw [ha] at h4
 obtain ⟨_,_,h3,cs,elem,h5,_⟩:=h4
 refine ⟨h3,?_⟩
 by_cases hlt:a.block<h.size
 ·exact hlt
 ·rw [Array.getElem?_eq_none (by omega)] at h5; cases h5
theorem Own.keep {n size:Nat} {h h':Heap} {s:Sl} {vs:List Value} (ho:Own n size h s vs) (hk:∀ a,s.base=some a→h'[a.block]? = h[a.block]?):Own n size h' s vs:=by
 obtain ⟨h1,h2,h3,h4⟩:=ho
 refine ⟨h1,h2,h3,?_⟩
 cases hb:s.base with
 | none=>rw [hb] at h4; exact h4
 | some a=>
  rw [hb] at h4
  simp only at h4 ⊢
  rw [hk a hb]; exact h4
theorem Own.ext {n size:Nat} {h h':Heap} {s:Sl} {vs:List Value} (ho:Own n size h s vs) (e:Ext h h'):Own n size h' s vs:=
 ho.keep fun a ha=>e.2.1 _ (ho.lt ha).2
theorem Own.mono {n m size:Nat} {h:Heap} {s:Sl} {vs:List Value} (ho:Own n size h s vs) (hm:m≤n):Own m size h s vs:=by
 obtain ⟨h1,h2,h3,h4⟩:=ho
 refine ⟨h1,h2,h3,?_⟩
 cases hb:s.base with
 | none=>rw [hb] at h4; exact h4
 | some a=>
  rw [hb] at h4
  obtain ⟨a1,a2,a3,a4⟩:=h4
  exact ⟨a1,a2,by omega,a4⟩
theorem OwnL.ext {n:Nat} {k:IntKind} {h h':Heap} {s:Sl} {l:List Int} (ho:OwnL n k h s l) (e:Ext h h'):OwnL n k h' s l:=⟨ho.own.ext e,ho.wf⟩
theorem OwnL.mono {n m:Nat} {k:IntKind} {h:Heap} {s:Sl} {l:List Int} (ho:OwnL n k h s l) (hm:m≤n):OwnL m k h s l:=⟨ho.own.mono hm,ho.wf⟩
theorem OwnL.keep {n:Nat} {k:IntKind} {h h':Heap} {s:Sl} {l:List Int} (ho:OwnL n k h s l) (hk:∀ a,s.base=some a→h'[a.block]? = h[a.block]?):OwnL n k h' s l:=⟨ho.own.keep hk,ho.wf⟩
theorem Ext.size {h h':Heap} (k:Ext h h'):h.size≤h'.size:=k.1
theorem s_push {n bytes:Nat} {k:IntKind} {s:Sl} {l:List Int} {v:Int} {K:Sl→Prog} (ho:OwnL n k h s l) (hn:n≤h.size) (hv:fitsI k v) (hroom:(l.length+1)*bytes≤140737488355328) (hlen:l.length+1<2 ^ 63)
  (hk:∀ r h',Keep n h h'→OwnL n k h' r (l++[v])→Upd s h h'→(∀ a,r.base=some a→s.base=some a∨(h.size≤a.block))→wp P (K r) h' Q) :
  wp P (.alloc [.int k v] fun a=>.append 1 bytes [.int k 0] s ⟨some a,1,1⟩ K) h Q:=by
 have hl:=ho.len
 refine wp_push ho.own hn rfl (by intro x hx; simp at hx; subst hx; rfl) rfl (by rw [hl]; exact hroom) (by rw [hl]; exact hlen) fun r h' a b c d=>?_
 refine hk r h' (Upd.keep ho.own hn c) ⟨by simpa using a,?_⟩ c d
 intro x hx
 rcases List.mem_append.1 hx with hx | hx
 ·exact ho.wf x hx
 ·rw [List.mem_singleton.1 hx]; exact hv
theorem s_append {n bytes:Nat} {k:IntKind} {s x:Sl} {l m:List Int} {K:Sl→Prog} (ho:OwnL n k h s l) (hn:n≤h.size) (hx:Lst k h x m) (hroom:(l.length+m.length)*bytes≤140737488355328) (hlen:l.length+m.length<2 ^ 63)
  (hk:∀ r h',Keep n h h'→OwnL n k h' r (l++m)→Upd s h h'→(∀ a,r.base=some a→s.base=some a∨(h.size≤a.block))→wp P (K r) h' Q) :
  wp P (.append 1 bytes [.int k 0] s x K) h Q:=by
 have hl:=ho.len
 have hm:=hx.len
 refine wp_append ho.own hn hx.rd (by intro y hy; obtain ⟨z,_,rfl⟩:=List.mem_map.1 hy; rfl) rfl (by rw [hl,hm]; exact hroom) (by rw [hl,hm]; exact hlen) fun r h' a b c d=>?_
 refine hk r h' (Upd.keep ho.own hn c) ⟨by simpa using a,?_⟩ c d
 intro y hy
 rcases List.mem_append.1 hy with hy | hy
 ·exact ho.wf y hy
 ·exact hx.wf y hy
theorem s_set {n:Nat} {k:IntKind} {s:Sl} {l:List Int} {v:Int} {j:Int} {K:Prog} (ho:OwnL n k h s l) (h0:0≤j) (h1:j<l.length) (hv:fitsI k v)
  (hk:∀ h',OwnL n k h' s (l.set j.toNat v)→Upd s h h'→h'.size=h.size→wp P K h' Q) :
  wp P (grd (andB (someB s.base) (inB j s.len)) (.store (shiftTo s.base (mulN (toN j) 1)) [.int k v] K)) h Q:=by
 have hl:=ho.len
 obtain ⟨o1,o2,o3,o4⟩:=ho.own
 cases hb:s.base with
 | none=>
  rw [hb] at o4; simp only at o4
  omega
 | some a=>
  rw [hb] at o4
  obtain ⟨b,off,spot⟩:=a
  obtain ⟨e0,e1,e2,cs,elem,e3,e4,e5⟩:=o4
  simp only at e0 e1 e2 e3
  subst e0; subst e1
  refine wp_grd (andB_iff.2 ⟨rfl,inB_is.2 ⟨h0,by omega⟩⟩) ?_
  have hj:j.toNat<cs.size:=by simp at e4; omega
  have hadd:((Addr.mk b 0 none).add (mulN (toN j) 1))=⟨b,j.toNat,none⟩:=by simp [add_mk,mulN,toN]
  obtain ⟨w,cs',c1,c2,c3,c4,c5,c6⟩:=puts_block (vs:=[.int k v]) (i:=0) (off:=j.toNat) e3 (by intro x hx; simp at hx; subst hx; rfl) (by simp; omega)
  refine ⟨⟨b,j.toNat,none⟩,by rw [shiftTo_some,hadd],w,hk _ ⟨⟨by simpa using o1,o2,o3,?_⟩,?_⟩ ⟨by unfold puts; omega,fun i hi hne=>c6 i fun e=>(hne _ hb) e.symm,fun a e=>by unfold puts; rw [thaw_putFrom]; exact e⟩ (by unfold puts; omega)⟩
  ·rw [hb]
   refine ⟨rfl,rfl,e2,cs',elem,c1,by rw [c2,e4],fun i x hi=>?_⟩
   rw [List.getElem?_map,List.getElem?_set] at hi
   by_cases hij:j.toNat=i
   ·subst hij
    have:(l.set j.toNat v).length=l.length:=by simp
    rw [if_pos rfl,if_pos (by omega)] at hi
    have:=c3 0 _ rfl
    simp at hi
    subst hi
    simpa using this
   ·rw [if_neg hij] at hi
    rw [c4 i (by simp; omega)]
    exact e5 i x (by rw [List.getElem?_map]; exact hi)
  ·intro x hx
   rcases List.mem_or_eq_of_mem_set hx with hx | rfl
   ·exact ho.wf x hx
   ·exact hv
theorem Upd.ext_of {s:Sl} {n:Nat} {h h':Heap} (u:Upd s h h') (hb:∀ a,s.base=some a→n≤a.block) (hn:n≤h.size):Keep n h h':=
 ⟨u.1,fun i hi=>u.2.1 i (by omega) fun a ha e=>by have:=hb a ha; omega,u.2.2⟩
theorem OwnL.upd {n:Nat} {k:IntKind} {h h':Heap} {s t:Sl} {l:List Int} (ho:OwnL n k h s l) (u:Upd t h h') (hne:∀ a b,s.base=some a→t.base=some b→b.block≠a.block):OwnL n k h' s l:=
 ho.keep fun a ha=>u.2.1 _ (ho.own.lt ha).2 fun b hb=>hne a b ha hb
end Go.Sw
namespace Go.Sw
variable {P:Program} {h:Heap} {Q:Nat→List Value→Heap→Prop}
theorem s_exit {t n:Nat} {tys:List Ty} {vs:List Value} {K:Ts.den tys→Prog} {Y:Prog} (ht:t=n) (x:Ts.den tys) (e:vs=Ts.inj tys x) (hk:wp P (K x) h Q):wp P (ifB (eqN t n) (.cast tys vs K) Y) h Q:=by
 subst ht; exact s_tag ⟨x,e,hk⟩
theorem s_skip {t n:Nat} {X Y:Prog} (ht:t≠n) (hk:wp P Y h Q):wp P (ifB (eqN t n) X Y) h Q:=
 s_tagNo (by cases he:eqN t n; rfl; exact absurd (eqN_iff.1 he) ht) hk
end Go.Sw
namespace Go.Sw
variable {P:Program} {h:Heap} {Q:Nat→List Value→Heap→Prop}
end Go.Sw
namespace Go.Sw
variable {P:Program} {h:Heap} {Q:Nat→List Value→Heap→Prop}
theorem bind_bool (φ:Prop) {m:Prog} {K:Bool×Unit→Prog} {Y:Prog} (hm:wp P m h fun t vs h'=>t=0∧Ext h h'∧∃ b,vs=[.bool b]∧(b=true↔φ))
  (hk:∀ b h',Ext h h'→(b=true↔φ)→wp P (K (b,())) h' Q):wp P (.bind m fun t vs=>ifB (eqN t 0) (.cast [.one .bool] vs K) Y) h Q:=
 wp_mono m (fun t vs h' ⟨ht,e,b,hv,hb⟩=>s_exit ht (b,()) hv (hk b h' e hb)) hm
theorem bind_val {tys:List Ty} (R:Ts.den tys→Heap→Prop) {m:Prog} {K:Ts.den tys→Prog} {Y:Prog} (hm:wp P m h fun t vs h'=>t=0∧Ext h h'∧∃ x,vs=Ts.inj tys x∧R x h')
  (hk:∀ x h',Ext h h'→R x h'→wp P (K x) h' Q):wp P (.bind m fun t vs=>ifB (eqN t 0) (.cast tys vs K) Y) h Q:=
 wp_mono m (fun t vs h' ⟨ht,e,b,hv,hb⟩=>s_exit ht b hv (hk b h' e hb)) hm
end Go.Sw
namespace Go.Sw
variable {P:Program} {h:Heap} {Q:Nat→List Value→Heap→Prop}
theorem wp_invN {n:Nat} {c:Value} {name:String} {args:List Value} {m:Prog} {tys:List Ty} {K:Ts.den tys→Prog} {R:Ts.den tys→Heap→Prop}
  (hi:Inv P c name args m) (g:GivesN n P m tys h R) (hk:∀ x h',Keep n h h'→R x h'→wp P (K x) h' Q):wp P (.invoke c name args tys K) h Q:=
 hi h _ (wp_mono m (fun _ _ _ ⟨a,b,x,c,d⟩=>⟨a,x,c,hk x _ b d⟩) g)
theorem own_fresh {k:IntKind} {l:List Int} {elem:TypeId} (hf:∀ x,x∈l→fitsI k x) (hb:l.length<2 ^ 63):OwnL h.size k (h.push (.cells (l.map (.int k)).toArray elem)) ⟨some ⟨h.size,0,none⟩,l.length,l.length⟩ l:=
 ⟨own_alloc (by simp) (by decide) hb,hf⟩
theorem s_allocL {k:IntKind} (l:List Int) {K:Addr→Prog} (hf:∀ x,x∈l→fitsI k x) (hb:l.length<2 ^ 63)
  (hk:∀ h',Ext h h'→OwnL h.size k h' ⟨some ⟨h.size,0,none⟩,l.length,l.length⟩ l→wp P (K ⟨h.size,0,none⟩) h' Q):wp P (.alloc (l.map (.int k)) K) h Q:=
 fun elem=>hk _ (Ext.push ..) (own_fresh hf hb)
theorem s_alloc0 {K:Addr→Prog} (hk:∀ h',Ext h h'→wp P (K ⟨h.size,0,none⟩) h' Q):wp P (.alloc [] K) h Q:=fun elem=>hk _ (Ext.push ..)
theorem s_load0 {a:Addr} {K:Unit→Prog} (hk:wp P (K ()) h Q):wp P (.load (.agg []) (some a) K) h Q:=⟨a,rfl,(),trivial,hk⟩
theorem Lst.cell {k:IntKind} {a:Addr} {n m:Nat} {l:List Int} (hr:Lst k h ⟨some a,n,m⟩ l) {j:Nat} (hj:j<l.length):Sw.cell h (a.add j)=some (.int k (l.getD j 0)):=by
 obtain ⟨a',e,c⟩:=hr.rd.at hj
 cases e; exact c
theorem s_loadL {k:IntKind} {a:Addr} {n m:Nat} {l:List Int} {K:Int→Prog} {j:Nat} (hr:Lst k h ⟨some a,n,m⟩ l) (hj:j<l.length) (hk:wp P (K (l.getD j 0)) h Q) :
  wp P (.load (.one (.int k)) (shiftTo (some a) j) K) h Q:=wp_load1 (a.add j) _ rfl (hr.cell hj) hk
theorem s_loadA {k:IntKind} {a:Addr} {n m:Nat} {c:Int} {K:Int×Unit→Prog} (hr:Lst k h ⟨some a,n,m⟩ [c]) (hk:wp P (K (c,())) h Q) :
  wp P (.load (.agg [.int k]) (some a) K) h Q:=by
 refine ⟨a,rfl,(c,()),cells_iff.2 fun j v hj=>?_,hk⟩
 cases j with
 | zero=>simp [Ty.cells,Bs.inj] at hj; subst hj; exact hr.cell (j:=0) (by simp)
 | succ j=>simp [Ty.cells,Bs.inj] at hj
theorem s_check1 {k:IntKind} {a:Addr} {n m:Nat} {l:List Int} {j:Nat} {v:Int} {K:Prog} (hr:Lst k h ⟨some a,n,m⟩ l) (hj:j<l.length) (hv:v=l.getD j 0) (hk:wp P K h Q) :
  wp P (.check (shiftTo (some a) j) [.int k v] K) h Q:=by
 refine ⟨⟨a.add j,rfl,cells_iff.2 fun i u hi=>?_⟩,hk⟩
 cases i with
 | zero=>simp at hi; subst hi; rw [add_zero',hv]; exact hr.cell hj
 | succ i=>simp at hi
theorem s_storeL {n:Nat} {k:IntKind} {a:Addr} {c:Nat} {l:List Int} (m:List Int) {K:Prog} (ho:OwnL n k h ⟨some a,l.length,c⟩ l) (hm:m.length=l.length) (hf:∀ x,x∈m→fitsI k x)
  (hk:∀ h',OwnL n k h' ⟨some a,m.length,c⟩ m→Upd ⟨some a,l.length,c⟩ h h'→h'.size=h.size→wp P K h' Q):wp P (.store (some a) (m.map (.int k)) K) h Q:=by
 obtain ⟨o1,o2,o3,o4⟩:=ho.own
 obtain ⟨b,off,spot⟩:=a
 obtain ⟨e0,e1,e2,cs,elem,e3,e4,e5⟩:=o4
 dsimp only at e0 e1 e2 e3 o2 o3
 subst e0; subst e1
 obtain ⟨w,cs',c1,c2,c3,c4,c5,c6⟩:=puts_block (vs:=m.map (.int k)) (i:=0) (off:=0) e3 (by intro x hx; obtain ⟨y,_,rfl⟩:=List.mem_map.1 hx; rfl) (by simp; simp at e4; omega)
 refine ⟨_,rfl,w,hk _ ⟨⟨by simp,by dsimp only; omega,o3,rfl,rfl,e2,cs',elem,c1,by rw [c2,e4],fun i x hi=>by have:=c3 i x hi; simpa using this⟩,hf⟩
  ⟨by unfold puts; omega,fun j hj hne=>c6 j fun e=>(hne _ rfl) e.symm,fun a e=>by unfold puts; rw [thaw_putFrom]; exact e⟩ (by unfold puts; omega)⟩
theorem s_setA {n:Nat} {k:IntKind} {a:Addr} {c m:Nat} {l:List Int} {v:Int} {j:Nat} {K:Prog} (ho:OwnL n k h ⟨some a,m,c⟩ l) (h1:j<l.length) (hv:fitsI k v)
  (hk:∀ h',OwnL n k h' ⟨some a,m,c⟩ (l.set j v)→Upd ⟨some a,m,c⟩ h h'→h'.size=h.size→wp P K h' Q) :
  wp P (.store (shiftTo (some a) j) [.int k v] K) h Q:=by
 have:=s_set (P:=P) (K:=K) (Q:=Q) (j:=(j:Int)) ho (by omega) (by omega) hv (by simpa using hk)
 have hm:=ho.len
 have hg:andB (someB (some a)) (inB (j:Int) m)=true:=andB_iff.2 ⟨rfl,inB_is.2 ⟨by omega,by dsimp only at hm; omega⟩⟩
 rw [hg] at this
 simpa [grd,mulN,toN] using this
theorem shr0 (a:Int):shrI .i64 a 0=a:=by have:=shr_ok (a:=a) 0 (by decide); simpa using this
theorem shr6 (a:Int):shrI .i64 a 6=a / 64:=shr_ok 6 (by decide)
theorem shr8 (a:Int):shrI .i64 a 8=a / 256:=shr_ok 8 (by decide)
theorem shr10 (a:Int):shrI .i64 a 10=a / 1024:=shr_ok 10 (by decide)
theorem shr12 (a:Int):shrI .i64 a 12=a / 4096:=shr_ok 12 (by decide)
theorem shr18 (a:Int):shrI .i64 a 18=a / 262144:=shr_ok 18 (by decide)
theorem shl6 {a:Int} (h0:0≤a) (h1:a≤2147483647):shlI .i64 a 6=a*64:=shl_ok 6 (by decide) (by simp; omega) (by simp; omega)
theorem shl8 {a:Int} (h0:0≤a) (h1:a≤2147483647):shlI .i64 a 8=a*256:=shl_ok 8 (by decide) (by simp; omega) (by simp; omega)
theorem shl10 {a:Int} (h0:0≤a) (h1:a≤2147483647):shlI .i64 a 10=a*1024:=shl_ok 10 (by decide) (by simp; omega) (by simp; omega)
end Go.Sw
namespace Go.Sw
structure Grew (out:Sl) (h h':Heap) (r:Sl):Prop where
 upd:Upd out h h'
 base:∀ a,r.base=some a→out.base=some a∨h.size≤a.block
theorem Upd.pre {s:Sl} {h h1 h2:Heap} (e:Ext h h1) (u:Upd s h1 h2):Upd s h h2:=
 ⟨Nat.le_trans e.1 u.1,fun i hi hne=>(u.2.1 i (Nat.lt_of_lt_of_le hi e.1) hne).trans (e.2.1 i hi),fun a x=>u.2.2 a (e.2.2 a x)⟩
theorem Grew.pre {s r:Sl} {h h1 h2:Heap} (e:Ext h h1) (g:Grew s h1 h2 r):Grew s h h2 r:=
 ⟨g.upd.pre e,fun a ha=>(g.base a ha).imp id fun x=>Nat.le_trans e.1 x⟩
theorem Grew.trans {s r t:Sl} {h h1 h2:Heap} (g:Grew s h h1 r) (k:Grew r h1 h2 t):Grew s h h2 t:=by
 refine ⟨⟨Nat.le_trans g.upd.1 k.upd.1,fun i hi hne=>?_,fun a x=>k.upd.2.2 a (g.upd.2.2 a x)⟩,fun a ha=>?_⟩
 ·rw [k.upd.2.1 i (Nat.lt_of_lt_of_le hi g.upd.1) fun a ha e=>?_,g.upd.2.1 i hi hne]
  rcases g.base a ha with hb | hb
  ·exact hne a hb e
  ·omega
 ·rcases k.base a ha with hb | hb
  ·exact g.base a hb
  ·exact .inr (Nat.le_trans g.upd.1 hb)
end Go.Sw
