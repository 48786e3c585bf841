/-
  Codec: a program's stream and a document's stream that have seen the same.
-/
import Derived.Test.YtfgknhffpccamaaSwC24
set_option linter.unusedVariables false
set_option linter.unusedSimpArgs false
set_option maxRecDepth 100000
namespace Go.Sw.Codec
variable {P : Program} {S : Ids} {h : Heap} {Q : Nat → List Value → Heap → Prop} {n : Nat}

/-- Two streams: where they lie, what they were fed, how much of it is told. -/
structure DS where
  p : Addr
  q : Addr
  enc : Int
  ws : Sl
  rs : Sl
  all : List Int
  pp : Nat
def DS.w (d : DS) : List Int := d.all.drop d.pp
def hfoot (d : DS) (ws : Sl) (i : Nat) : Prop := i = d.p.block ∨ (∃ a, ws.base = some a ∧ a.block = i) ∨ rfoot d.q d.rs i
def DS.foot (d : DS) (i : Nat) : Prop := hfoot d d.ws i

structure Half (S : Ids) (n : Nat) (h : Heap) (d : DS) (ws : Sl) (w : List Int) : Prop where
  kn : known d.enc
  st : Strm S h d.p d.enc ws w
  rt : RStr n h d.q d.enc d.rs d.all ((dec d.enc (d.all.take d.pp)).length : Int)
  wt : Waits d.enc d.all d.pp
  lo : ∀ i, hfoot d ws i → n ≤ i ∧ i < h.size
  pq : d.p.block ≠ d.q.block
  pr : ∀ a, d.rs.base = some a → a.block ≠ d.p.block
  qw : ∀ a, ws.base = some a → a.block ≠ d.q.block
  wr : ∀ a b, ws.base = some a → d.rs.base = some b → a.block ≠ b.block
abbrev Duo (S : Ids) (n : Nat) (h : Heap) (d : DS) : Prop := Half S n h d d.ws d.w

theorem Half.chg {F : Nat → Prop} {h' : Heap} {d : DS} {ws : Sl} {w : List Int} (u : Half S n h d ws w) (c : Chg F h h') (hf : ∀ i, hfoot d ws i → ¬ F i) : Half S n h' d ws w := by
  have key : ∀ i, hfoot d ws i → h'[i]? = h[i]? := fun i hi => c.2.1 i (u.lo i hi).2 (hf i hi)
  exact ⟨u.kn, u.st.blocks (key _ (.inl rfl)) fun a ha _ => key _ (.inr (.inl ⟨a, ha, rfl⟩)), u.rt.blocks (key _ (.inr (.inr (.inl rfl)))) fun a ha => key _ (.inr (.inr (.inr ⟨a, ha, rfl⟩))), u.wt,
    fun i hi => ⟨(u.lo i hi).1, by have := (u.lo i hi).2; have := c.1; omega⟩, u.pq, u.pr, u.qw, u.wr⟩
theorem Half.ext {h' : Heap} {d : DS} {ws : Sl} {w : List Int} (u : Half S n h d ws w) (e : Ext h h') : Half S n h' d ws w := u.chg (Chg.of_ext (F := fun _ => False) e) fun _ _ h => h

/-- What an answer leaves of the two streams. -/
structure Next (d d' : DS) (m : Nat) : Prop where
  p : d'.p = d.p
  q : d'.q = d.q
  enc : d'.enc = d.enc
  foot : ∀ i, d'.foot i → d.foot i ∨ m ≤ i
theorem Next.refl (d : DS) (m : Nat) : Next d d m := ⟨rfl, rfl, rfl, fun _ h => .inl h⟩
theorem Next.trans {d d' d'' : DS} {m m' : Nat} (a : Next d d' m) (b : Next d' d'' m') (hm : m ≤ m') : Next d d'' m :=
  ⟨b.p.trans a.p, b.q.trans a.q, b.enc.trans a.enc, fun i hi => by
    rcases b.foot i hi with h | h
    · exact a.foot i h
    · exact .inr (by omega)⟩

theorem c_feed1 (M : Meth P S) {d : DS} {b : Sl} {x : List Int} (u : Duo S n h d) (hn : n ≤ h.size) (hb : Lst .u8 h b x) (hl : d.all.length + x.length ≤ 1099511627776) :
    GivesF (fun i => i = d.p.block) P (F_Stream_Feed S (some d.p) b) [.one .sl] h fun y h' => ∃ (ws' : Sl) (v : Int), HeldR d.enc (d.w ++ x) v ∧ Half S n h' d ws' ((d.w ++ x).drop ((d.w ++ x).length - v.toNat)) ∧
      (∀ a, ws'.base = some a → h.size ≤ a.block) ∧ OwnL h.size .i64 h' y.1 (dec d.enc ((d.w ++ x).take ((d.w ++ x).length - v.toNat))) := by
  have hwl : d.w.length = d.all.length - d.pp := List.length_drop
  refine wp_mono _ (fun t vs h' ⟨a, c, y, ey, ws', v, g1, g2, g3, g4, g5, g6, g7⟩ => ?_) (c_Feed M u.kn u.st hb (by omega))
  have c' : Chg (fun i => i = d.p.block) h h' := c
  refine ⟨a, c', y, ey, ws', v, g1, ?_, fun a ha => (g5 a ha).1, g6⟩
  have hp := u.lo d.p.block (.inl rfl)
  have hq := u.lo d.q.block (.inr (.inr (.inl rfl)))
  have hr : ∀ a, d.rs.base = some a → n ≤ a.block ∧ a.block < h.size := fun a ha => u.lo a.block (.inr (.inr (.inr ⟨a, ha, rfl⟩)))
  refine ⟨u.kn, g4, u.rt.blocks (c'.2.1 _ hq.2 fun e => u.pq e.symm) fun a ha => c'.2.1 _ (hr a ha).2 (u.pr a ha), u.wt, ?_, u.pq, u.pr, fun a ha => ?_, fun a b ha hb => ?_⟩
  · rintro i (rfl | ⟨a, ha, rfl⟩ | rfl | ⟨a, ha, rfl⟩)
    · exact ⟨hp.1, by have := c'.1; omega⟩
    · have := g5 a ha; exact ⟨by omega, this.2⟩
    · exact ⟨hq.1, by have := c'.1; omega⟩
    · exact ⟨(hr a ha).1, by have := (hr a ha).2; have := c'.1; omega⟩
  · have := (g5 a ha).1; omega
  · have := (g5 a ha).1; have := (hr b hb).2; omega

theorem c_feed2 {d : DS} {b ws' : Sl} {x : List Int} {v : Int} (hv : HeldR d.enc (d.w ++ x) v) (u : Half S n h d ws' ((d.w ++ x).drop ((d.w ++ x).length - v.toNat))) (hn : n ≤ h.size) (hb : Lst .u8 h b x)
    (hbd : x ≠ [] → ∀ a, b.base = some a → ¬ rfoot d.q d.rs a.block) (hl : d.all.length + x.length ≤ 1099511627776) :
    GivesF (rfoot d.q d.rs) P (F_ref_Stream_Feed S (some d.q) b) [.one .sl] h fun y h' => ∃ (d' : DS), Duo S n h' d' ∧ d'.p = d.p ∧ d'.q = d.q ∧ d'.enc = d.enc ∧ d'.all = d.all ++ x ∧ d'.ws = ws' ∧ (∀ a, d'.rs.base = some a → d.rs.base = some a ∨ h.size ≤ a.block) ∧
      Lst .i64 h' y.1 (dec d.enc ((d.w ++ x).take ((d.w ++ x).length - v.toNat))) ∧ ∀ a, y.1.base = some a → h.size ≤ a.block := by
  have hby : isBytes (d.w ++ x) := bytes_append (u.wt.bytes.drop _) hb.wf
  have hby2 : isBytes (d.all ++ x) := bytes_append u.wt.bytes hb.wf
  obtain ⟨hk, v0, vl⟩ := Waits.of hby hv
  generalize hkk : (d.w ++ x).length - v.toNat = k at *
  have hk' : Waits d.enc (d.all.drop d.pp ++ x) k := hk
  obtain ⟨hw2, hd2⟩ := u.wt.feed hby2 hk'
  have hkl := hw2.bnd.le hby2
  have hval : ∀ v', HeldR d.enc (d.all ++ x) v' → (d.all ++ x).length - v'.toNat = d.pp + k := fun v' hv' => by
    have := HeldR.fn hby2 hv' hw2.held
    omega
  refine wp_mono _ (fun t vs h' ⟨a, c, y, ey, rs', v', g1, g2, g3, g4, g5⟩ => ?_) (c_ref_Feed u.kn u.rt hn hb hbd hl (by omega) fun v' hv' => by rw [hval v' hv', hd2, List.length_append]; omega)
  rw [hval v' g1] at g2 g4
  rw [hd2] at g4
  rw [Int.toNat_natCast, List.drop_left'] at g4
  rotate_left
  · rfl
  have hp := u.lo d.p.block (.inl rfl)
  have hw : ∀ a, ws'.base = some a → n ≤ a.block ∧ a.block < h.size := fun a ha => u.lo a.block (.inr (.inl ⟨a, ha, rfl⟩))
  have hr : ∀ a, d.rs.base = some a → n ≤ a.block ∧ a.block < h.size := fun a ha => u.lo a.block (.inr (.inr (.inr ⟨a, ha, rfl⟩)))
  have nf : ∀ i, (i = d.p.block ∨ ∃ a, ws'.base = some a ∧ a.block = i) → ¬ rfoot d.q d.rs i := by
    rintro i (rfl | ⟨a, ha, rfl⟩) (hi | ⟨b, hb, hi⟩)
    · exact u.pq hi
    · exact u.pr b hb hi
    · exact u.qw a ha hi
    · exact u.wr a b ha hb hi.symm
  refine ⟨a, c, y, ey, ⟨d.p, d.q, d.enc, ws', rs', d.all ++ x, d.pp + k⟩, ⟨u.kn, ?_, g2, hw2, ?_, u.pq, ?_, u.qw, ?_⟩, rfl, rfl, rfl, rfl, rfl, g3, g4, g5⟩
  · have st := u.st.blocks (h' := h') (c.2.1 _ hp.2 (nf _ (.inl rfl))) fun a ha _ => c.2.1 _ (hw a ha).2 (nf _ (.inr ⟨a, ha, rfl⟩))
    have e : (DS.mk d.p d.q d.enc ws' rs' (d.all ++ x) (d.pp + k)).w = (d.w ++ x).drop k := by
      unfold DS.w
      dsimp only
      rw [← List.drop_drop, List.drop_append_of_le_length (u.wt.bnd.le u.wt.bytes)]
    rw [e]; exact st
  · rintro i (rfl | ⟨a, ha, rfl⟩ | rfl | ⟨a, ha, rfl⟩)
    · exact ⟨hp.1, by dsimp only; have := c.1; omega⟩
    · have := hw a ha; exact ⟨by omega, by have := c.1; omega⟩
    · exact ⟨g2.lt.1, g2.lt.2⟩
    · exact g2.al.own.lt ha
  · intro a ha
    dsimp only at ha ⊢
    rcases g3 a ha with hh | hh
    · exact u.pr a hh
    · omega
  · intro a b ha hb
    dsimp only at hb ⊢
    rcases g3 b hb with hh | hh
    · exact u.wr a b ha hh
    · have := (hw a ha).2; omega

/-- Close. -/
theorem c_close1 (M : Meth P S) {d : DS} (u : Duo S n h d) (hn : n ≤ h.size) (hl : d.all.length ≤ 1099511627776) :
    GivesF (fun i => i = d.p.block) P (F_Stream_Close S (some d.p)) [.one .sl] h fun y h' => Half S n h' d ⟨none, 0, 0⟩ [] ∧ OwnL h.size .i64 h' y.1 (dec d.enc d.w) := by
  have hwl : d.w.length = d.all.length - d.pp := List.length_drop
  refine wp_mono _ (fun t vs h' ⟨a, c, y, ey, g4, g6⟩ => ?_) (c_Close M u.kn u.st (by omega))
  have c' : Chg (fun i => i = d.p.block) h h' := c
  refine ⟨a, c', y, ey, ?_, g6⟩
  have hp := u.lo d.p.block (.inl rfl)
  have hq := u.lo d.q.block (.inr (.inr (.inl rfl)))
  have hr : ∀ a, d.rs.base = some a → n ≤ a.block ∧ a.block < h.size := fun a ha => u.lo a.block (.inr (.inr (.inr ⟨a, ha, rfl⟩)))
  refine ⟨u.kn, g4, u.rt.blocks (c'.2.1 _ hq.2 fun e => u.pq e.symm) fun a ha => c'.2.1 _ (hr a ha).2 (u.pr a ha), u.wt, ?_, u.pq, u.pr, (fun a ha => by cases ha), (fun a b ha => by cases ha)⟩
  rintro i (rfl | ⟨a, ha, rfl⟩ | rfl | ⟨a, ha, rfl⟩)
  · exact ⟨hp.1, by have := c'.1; omega⟩
  · cases ha
  · exact ⟨hq.1, by have := c'.1; omega⟩
  · exact ⟨(hr a ha).1, by have := (hr a ha).2; have := c'.1; omega⟩

theorem c_close2 {d : DS} (u : Half S n h d ⟨none, 0, 0⟩ []) (hn : n ≤ h.size) (hl : d.all.length ≤ 1099511627776) :
    GivesF (fun i => i = d.q.block) P (F_ref_Stream_Close S (some d.q)) [.one .sl] h fun y h' => ∃ (d' : DS), Duo S n h' d' ∧ d'.p = d.p ∧ d'.q = d.q ∧ d'.enc = d.enc ∧ d'.all = [] ∧ d'.ws = ⟨none, 0, 0⟩ ∧ d'.rs = ⟨none, 0, 0⟩ ∧
      Lst .i64 h' y.1 (dec d.enc d.w) ∧ ∀ a, y.1.base = some a → h.size ≤ a.block := by
  have hsp := dec_split u.wt.bytes u.wt.bnd
  refine wp_mono _ (fun t vs h' ⟨a, c, y, ey, g1, g2, g3⟩ => ?_) (c_ref_Close u.kn u.rt hl (by omega) (by rw [hsp, List.length_append]; omega))
  rw [hsp, Int.toNat_natCast, List.drop_left'] at g2
  rotate_left
  · rfl
  have hp := u.lo d.p.block (.inl rfl)
  refine ⟨a, c, y, ey, ⟨d.p, d.q, d.enc, ⟨none, 0, 0⟩, ⟨none, 0, 0⟩, [], 0⟩, ⟨u.kn, ?_, ?_, Waits.zero _, ?_, u.pq, (fun a ha => by cases ha), (fun a ha => by cases ha), (fun a b ha => by cases ha)⟩, rfl, rfl, rfl, rfl, rfl, rfl, g2, g3⟩
  · have st := u.st.blocks (h' := h') (c.2.1 _ hp.2 u.pq) fun a ha _ => by cases ha
    exact st
  · have : ((dec d.enc (([] : List Int).take 0)).length : Int) = 0 := by rw [List.take_nil, dec_nil (by simp)]; rfl
    dsimp only
    rw [this]; exact g1
  · rintro i (rfl | ⟨a, ha, rfl⟩ | rfl | ⟨a, ha, rfl⟩)
    · exact ⟨hp.1, by dsimp only; have := c.1; omega⟩
    · cases ha
    · exact ⟨g1.lt.1, g1.lt.2⟩
    · cases ha

/-- Held. -/
theorem c_held1 {d : DS} (u : Duo S n h d) : Gives P (F_Stream_Held S (some d.p)) [.one (.int .i64)] h fun (x : Int × Unit) _ => x.1 = d.w.length := c_Held u.st
theorem c_held2 {d : DS} (u : Duo S n h d) (hl : d.all.length < 2 ^ 61) : Gives P (F_ref_Stream_Held S (some d.q)) [.one (.int .i64)] h fun (x : Int × Unit) _ => x.1 = d.w.length := by
  refine wp_mono _ (fun t vs h' ⟨a, c, y, ey, g⟩ => ⟨a, c, y, ey, ?_⟩) (c_ref_Held u.kn u.rt hl)
  have := HeldR.fn u.wt.bytes g u.wt.held
  have hkl := u.wt.bnd.le u.wt.bytes
  have hwl : d.w.length = d.all.length - d.pp := List.length_drop
  have e : (d.all.length : Int) - (d.pp : Int) = ((d.w.length : Nat) : Int) := by omega
  exact Eq.trans this e
end Go.Sw.Codec
