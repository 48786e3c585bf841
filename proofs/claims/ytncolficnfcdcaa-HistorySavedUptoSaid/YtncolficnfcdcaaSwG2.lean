/-
  A model of a book: what each call does to it.
-/
import Derived.Test.YtncolficnfcdcaaSwG1
set_option linter.unusedVariables false
set_option linter.unusedSimpArgs false
set_option maxRecDepth 100000
namespace Go.Sw.Hist
open Go.Sw.Any Go.Sw.Codec Go.Sw.Piece
abbrev MkL := List (Int × Int)
structure NowM where
 chs : List (List EdD)
 bg : Int
 om : MkL
 ow : List Int
structure Mo where
 E0 : List El
 depth : Int
 lost : List GM
 done : List GM
 next : List GM
 now : Option NowM
 marks : MkL
 watched : List Int
 saved : Int
 last : Int
def Mo.C (M : Mo) : List El := playG M.E0 (M.lost ++ M.done)
def Mo.st (M : Mo) : Int := stG 0 (M.lost ++ M.done)
def Mo.ch (M : Mo) : List (List EdD) := (M.now.map (·.chs)).getD []
def Mo.E (M : Mo) : List El := playC M.C M.ch
def Mo.all (M : Mo) : List GM := M.lost ++ M.done ++ M.next
def Mo.sz (M : Mo) : Nat := M.last.toNat + (M.all.map (·.chs.length)).sum + M.ch.length
def Mo.ins (M : Mo) (a : Int) : Prop := 0 ≤ a ∧ a ≤ M.E.length
def folP (x : List MvD) (l : MkL) : MkL := l.map fun e => (e.1, (goL e.2 x).1)
def undoP (l : List (List MvD)) (ms : MkL) : MkL := l.foldr (fun m s => folP (invL 0 m) s) ms
def redoP (l : List (List MvD)) (ms : MkL) : MkL := l.foldl (fun s m => folP m s) ms
def Mo.chg (M : Mo) (q : NowM) (es : List EdD) : Mo := { M with now := some { q with chs := q.chs ++ [es.map strip] }, marks := folP (mvC' es) M.marks, watched := folW (mvC' es) M.watched }
def Mo.keep (M : Mo) (q : NowM) (a : Int) : Mo :=
 let l := M.done ++ [⟨q.chs, q.bg, a, M.last + 1⟩]
 { M with now := none, next := [], last := M.last + 1, lost := if M.depth < (M.done.length : Int) + 1 then M.lost ++ l.take 1 else M.lost, done := if M.depth < (M.done.length : Int) + 1 then l.drop 1 else l }
def Mo.back (M : Mo) (ds : List GM) (g : GM) : Mo := { M with done := ds, next := g :: M.next, marks := undoP (g.chs.map mvC') M.marks, watched := undoW (g.chs.map mvC') M.watched }
def Mo.forth (M : Mo) (g : GM) (ns : List GM) : Mo := { M with done := M.done ++ [g], next := ns, marks := redoP (g.chs.map mvC') M.marks, watched := redoW (g.chs.map mvC') M.watched }
structure MoOk (enc limit : Int) (M : Mo) (N : Nat) : Prop where
 en : known enc
 li : 0 ≤ limit ∧ limit ≤ 65536
 dp : 1 ≤ M.depth ∧ M.depth ≤ 200
 e0 : OkE enc limit M.E0
 ok : OkG enc limit M.E0 M.all
 okn : OkC enc limit M.C M.ch
 la : 0 ≤ M.last
 nums : ∀ g ∈ M.all, 0 < g.st ∧ g.st ≤ M.last
 mono : M.all.Pairwise fun a b => a.st < b.st
 mi : ∀ e ∈ M.marks, 0 ≤ e.2 ∧ e.2 ≤ M.E.length
 so : M.marks.Pairwise fun a b => a.1 < b.1
 mb : M.marks.length ≤ N
 wk : ∀ v ∈ M.watched, v ≤ M.E.length
 wl : M.watched.length ≤ N
 nw : ∀ q, M.now = some q → (∀ e ∈ q.om, 0 ≤ e.2 ∧ e.2 ≤ M.C.length) ∧ (q.om.Pairwise fun a b => a.1 < b.1) ∧ q.om.length ≤ N ∧ (∀ v ∈ q.ow, v ≤ M.C.length) ∧ q.ow.length ≤ N
 sz : M.sz ≤ N
variable {enc limit : Int} {M : Mo} {N : Nat}
theorem MoOk.mono' {N' : Nat} (o : MoOk enc limit M N) (hN : N ≤ N') : MoOk enc limit M N' :=
 ⟨o.en, o.li, o.dp, o.e0, o.ok, o.okn, o.la, o.nums, o.mono, o.mi, o.so, Nat.le_trans o.mb hN, o.wk, Nat.le_trans o.wl hN, fun q hq => let ⟨a, b, c, d, e⟩ := o.nw q hq; ⟨a, b, Nat.le_trans c hN, d, Nat.le_trans e hN⟩, Nat.le_trans o.sz hN⟩
theorem MoOk.okC (o : MoOk enc limit M N) : OkE enc limit M.C := OkG.ok o.e0 (OkG.append.1 o.ok).1
theorem MoOk.okE (o : MoOk enc limit M N) : OkE enc limit M.E := OkC.ok o.okC o.okn
theorem Mo.E_shut (hn : M.now = none) : M.E = M.C := by unfold Mo.E Mo.ch; rw [hn]; rfl
theorem MoOk.len (o : MoOk enc limit M N) : (M.E.length : Int) ≤ 65536 := by have := o.okE.len; have := o.li; omega
def emb (l : MkL) : Ents := l.map fun e => (e.1, e.2, 0)
theorem emb_fol (x : List MvD) (l : MkL) : folM x (emb l) = emb (folP x l) := by simp [folM, emb, folP]
theorem emb_undo : ∀ (l : List (List MvD)) (ms : MkL), undoM l (emb ms) = emb (undoP l ms)
 | [], ms => rfl
 | m :: l, ms => by show folM (invL 0 m) (undoM l (emb ms)) = emb (folP (invL 0 m) (undoP l ms)); rw [emb_undo l ms, emb_fol]
theorem emb_redo : ∀ (l : List (List MvD)) (ms : MkL), redoM l (emb ms) = emb (redoP l ms)
 | [], ms => rfl
 | m :: l, ms => by show redoM l (folM m (emb ms)) = emb (redoP l (folP m ms)); rw [emb_fol, emb_redo l]
theorem emb_in {L : Int} {ms : MkL} {ws : List Int} : MsIn L (emb ms) ws ↔ (∀ e ∈ ms, 0 ≤ e.2 ∧ e.2 ≤ L) ∧ ∀ v ∈ ws, v ≤ L := by
 unfold MsIn emb
 refine and_congr ⟨fun h e he => h _ (List.mem_map.2 ⟨e, he, rfl⟩), fun h e he => ?_⟩ Iff.rfl
 obtain ⟨x, hx, rfl⟩ := List.mem_map.1 he
 exact h x hx
theorem MoOk.ms (o : MoOk enc limit M N) : MsIn M.E.length (emb M.marks) M.watched := emb_in.2 ⟨o.mi, o.wk⟩
theorem fol_key (x : List MvD) (l : MkL) : (folP x l).map (·.1) = l.map (·.1) := by simp [folP]
theorem undo_key : ∀ (l : List (List MvD)) (ms : MkL), (undoP l ms).map (·.1) = ms.map (·.1)
 | [], ms => rfl
 | m :: l, ms => by show (folP (invL 0 m) (undoP l ms)).map _ = _; rw [fol_key, undo_key l]
theorem redo_key : ∀ (l : List (List MvD)) (ms : MkL), (redoP l ms).map (·.1) = ms.map (·.1)
 | [], ms => rfl
 | m :: l, ms => by show (redoP l (folP m ms)).map _ = _; rw [redo_key l, fol_key]
theorem so_key {a b : MkL} (h : b.map (·.1) = a.map (·.1)) (ha : a.Pairwise fun x y => x.1 < y.1) : b.Pairwise fun x y => x.1 < y.1 := by
 have h1 : (a.map (·.1)).Pairwise fun x y => x < y := List.pairwise_map.2 ha
 rw [← h] at h1
 exact List.pairwise_map.1 h1
theorem len_key {a b : MkL} (h : b.map (·.1) = a.map (·.1)) : b.length = a.length := by have := congrArg List.length h; simpa using this
theorem undoW_len : ∀ (l : List (List MvD)) (ws : List Int), (undoW l ws).length = ws.length
 | [], _ => rfl
 | m :: l, ws => by show (folW (invL 0 m) (undoW l ws)).length = _; unfold folW; rw [List.length_map, undoW_len l]
theorem redoW_len : ∀ (l : List (List MvD)) (ws : List Int), (redoW l ws).length = ws.length
 | [], _ => rfl
 | m :: l, ws => by show (redoW l (folW m ws)).length = _; rw [redoW_len l]; unfold folW; rw [List.length_map]
theorem MoOk.begin (o : MoOk enc limit M N) (hn : M.now = none) (a : Int) : MoOk enc limit { M with now := some ⟨[], a, M.marks, M.watched⟩ } N := by
 have he := Mo.E_shut hn
 refine ⟨o.en, o.li, o.dp, o.e0, o.ok, trivial, o.la, o.nums, o.mono, ?_, o.so, o.mb, ?_, o.wl, fun q hq => ?_, ?_⟩
 ·have := o.mi; rw [he] at this; exact this
 ·have := o.wk; rw [he] at this; exact this
 ·cases hq
  have h1 := o.mi; have h2 := o.wk
  rw [he] at h1 h2
  exact ⟨h1, o.so, o.mb, h2, o.wl⟩
 ·have := o.sz; unfold Mo.sz Mo.ch at this ⊢; rw [hn] at this; exact this
theorem Mo.chg_E {q : NowM} (hn : M.now = some q) (es : List EdD) : (M.chg q es).E = allE M.E es := by
 unfold Mo.E Mo.ch Mo.chg
 rw [hn]
 show playC M.C (q.chs ++ [es.map strip]) = _
 rw [playC_snoc, strip_all]; rfl
theorem MoOk.chg {q : NowM} {es : List EdD} (o : MoOk enc limit M N) (hn : M.now = some q) (hl : es.length ≤ 70000) (hok : Okay enc limit M.E es) : MoOk enc limit (M.chg q es) (N + 1) := by
 have hE := Mo.chg_E hn es
 have hch : M.ch = q.chs := by unfold Mo.ch; rw [hn]; rfl
 have hlen := allE_len hok.1 (Int.le_refl _)
 have hm := fol_in (by omega) (plM_of hok.1) o.ms
 rw [← hlen, emb_fol] at hm
 have hm := emb_in.1 hm
 have hk := fol_key (mvC' es) M.marks
 refine ⟨o.en, o.li, o.dp, o.e0, o.ok, ?_, o.la, o.nums, o.mono, ?_, so_key hk o.so, ?_, ?_, ?_, fun q' hq => ?_, ?_⟩
 ·show OkC enc limit M.C (q.chs ++ [es.map strip])
  refine OkC.snoc (by rw [List.length_map]; exact hl) (by have := o.okn; rw [hch] at this; exact this) (strip_okay.2 ?_)
  have : M.E = playC M.C q.chs := by unfold Mo.E; rw [hch]
  rw [← this]; exact hok
 ·rw [hE]; exact hm.1
 ·have := len_key hk; have h2 := o.mb; show (folP (mvC' es) M.marks).length ≤ _; omega
 ·rw [hE]; exact hm.2
 ·show (folW _ _).length ≤ _; unfold folW; rw [List.length_map]; have := o.wl; omega
 ·have := o.nw q hn
  cases hq
  exact ⟨this.1, this.2.1, Nat.le_succ_of_le this.2.2.1, this.2.2.2.1, Nat.le_succ_of_le this.2.2.2.2⟩
 ·have := o.sz
  unfold Mo.sz at this ⊢
  rw [hch] at this
  show M.last.toNat + (M.all.map (·.chs.length)).sum + (q.chs ++ [es.map strip]).length ≤ N + 1
  rw [List.length_append, List.length_singleton]; omega
theorem MoOk.endNo {q : NowM} (o : MoOk enc limit M N) (hn : M.now = some q) (he : effC q.chs = false) : MoOk enc limit { M with now := none } N := by
 have hch : M.ch = q.chs := by unfold Mo.ch; rw [hn]; rfl
 have hE : M.E = M.C := by have := o.okn; rw [hch] at this; unfold Mo.E; rw [hch]; exact eff_play this he
 refine ⟨o.en, o.li, o.dp, o.e0, o.ok, trivial, o.la, o.nums, o.mono, ?_, o.so, o.mb, ?_, o.wl, fun q' hq => (by cases hq), ?_⟩
 ·have := o.mi; rw [hE] at this; exact this
 ·have := o.wk; rw [hE] at this; exact this
 ·have := o.sz; unfold Mo.sz at this ⊢; exact Nat.le_trans (by show M.last.toNat + (M.all.map (·.chs.length)).sum + 0 ≤ _; omega) this
theorem Mo.keep_done {q : NowM} {a : Int} : (M.keep q a).lost ++ (M.keep q a).done = M.lost ++ M.done ++ [⟨q.chs, q.bg, a, M.last + 1⟩] := by
 unfold Mo.keep
 dsimp only
 split
 ·rw [List.append_assoc, List.take_append_drop, List.append_assoc]
 ·rw [List.append_assoc]
theorem Mo.keep_all {q : NowM} {a : Int} : (M.keep q a).all = M.lost ++ M.done ++ [⟨q.chs, q.bg, a, M.last + 1⟩] := by
 unfold Mo.all
 rw [Mo.keep_done]
 show _ ++ [] = _
 rw [List.append_nil]
theorem Mo.keep_C {q : NowM} {a : Int} (hn : M.now = some q) : (M.keep q a).C = M.E := by
 unfold Mo.C
 rw [Mo.keep_done, playG_snoc]
 unfold Mo.E Mo.ch
 rw [hn]; rfl
theorem Mo.keep_st {q : NowM} {a : Int} : (M.keep q a).st = M.last + 1 := by
 unfold Mo.st
 rw [Mo.keep_done, stG_snoc]
theorem MoOk.keep {q : NowM} {a : Int} (o : MoOk enc limit M N) (hn : M.now = some q) : MoOk enc limit (M.keep q a) (N + 1) := by
 have hch : M.ch = q.chs := by unfold Mo.ch; rw [hn]; rfl
 have hE : (M.keep q a).E = M.E := by rw [Mo.E_shut rfl, Mo.keep_C hn]
 have hall : ∀ g ∈ M.lost ++ M.done, g ∈ M.all := fun g hg => List.mem_append_left _ hg
 refine ⟨o.en, o.li, o.dp, o.e0, ?_, trivial, ?_, fun g hg => ?_, ?_, ?_, o.so, Nat.le_succ_of_le o.mb, ?_, Nat.le_succ_of_le o.wl, fun q' hq => (by cases hq), ?_⟩
 ·rw [Mo.keep_all]
  refine OkG.append.2 ⟨(OkG.append.1 o.ok).1, ?_, trivial⟩
  have := o.okn; rw [hch] at this; exact this
 ·show 0 ≤ M.last + 1; have := o.la; omega
 ·rw [Mo.keep_all] at hg
  show 0 < g.st ∧ g.st ≤ M.last + 1
  have := o.la
  rcases List.mem_append.1 hg with hg | hg
  ·have := o.nums g (hall g hg); omega
  ·rw [List.mem_singleton.1 hg]; dsimp only; omega
 ·rw [Mo.keep_all]
  refine List.pairwise_append.2 ⟨(List.pairwise_append.1 o.mono).1, List.pairwise_singleton _ _, fun x hx y hy => ?_⟩
  rw [List.mem_singleton.1 hy]
  have := o.nums x (hall x hx)
  dsimp only; omega
 ·rw [hE]; exact o.mi
 ·rw [hE]; exact o.wk
 ·have := o.sz
  have hla := o.la
  unfold Mo.sz at this ⊢
  rw [Mo.keep_all]
  rw [hch] at this
  unfold Mo.all at this
  show (M.last + 1).toNat + _ + 0 ≤ N + 1
  rw [List.map_append, List.sum_append_nat] at this ⊢
  simp only [List.map_cons, List.map_nil, List.sum_cons, List.sum_nil] at this ⊢
  omega
theorem Mo.back_all {ds : List GM} {g : GM} (hd : M.done = ds ++ [g]) : (M.back ds g).all = M.all := by unfold Mo.all Mo.back; rw [hd]; simp
theorem Mo.C_last {ds : List GM} {g : GM} (hd : M.done = ds ++ [g]) : M.C = playC (playG M.E0 (M.lost ++ ds)) g.chs := by unfold Mo.C; rw [hd, ← List.append_assoc, playG_snoc]
theorem Mo.back_C {ds : List GM} {g : GM} : (M.back ds g).C = playG M.E0 (M.lost ++ ds) := rfl
theorem Mo.back_E {ds : List GM} {g : GM} (hn : M.now = none) : (M.back ds g).E = playG M.E0 (M.lost ++ ds) := Mo.E_shut hn
theorem MoOk.mchU {ds : List GM} {g : GM} (o : MoOk enc limit M N) (hn : M.now = none) (hd : M.done = ds ++ [g]) : Mch (playG M.E0 (M.lost ++ ds)).length (g.chs.map mvC') M.E.length := by
 have h1 := o.ok
 unfold Mo.all at h1
 rw [hd, ← List.append_assoc, List.append_assoc (M.lost ++ ds)] at h1
 obtain ⟨h2, h3⟩ := OkG.append.1 h1
 have := OkC.mch o.li.2 (OkG.ok o.e0 h2) h3.1
 rw [Mo.E_shut hn, Mo.C_last hd]; exact this
theorem MoOk.back {ds : List GM} {g : GM} (o : MoOk enc limit M N) (hn : M.now = none) (hd : M.done = ds ++ [g]) : MoOk enc limit (M.back ds g) N := by
 have hm := (o.mchU hn hd).undo o.ms
 rw [emb_undo] at hm
 have hm := emb_in.1 hm
 have hE := Mo.back_E (ds := ds) (g := g) hn
 have hk := undo_key (g.chs.map mvC') M.marks
 refine ⟨o.en, o.li, o.dp, o.e0, ?_, ?_, o.la, ?_, ?_, ?_, so_key hk o.so, ?_, ?_, ?_, fun q hq => ?_, ?_⟩
 ·rw [Mo.back_all hd]; exact o.ok
 ·have : (M.back ds g).ch = [] := by unfold Mo.ch Mo.back; rw [hn]; rfl
  rw [this]; trivial
 ·rw [Mo.back_all hd]; exact o.nums
 ·rw [Mo.back_all hd]; exact o.mono
 ·rw [hE]; exact hm.1
 ·have := len_key hk; have h2 := o.mb; show (undoP _ _).length ≤ _; omega
 ·rw [hE]; exact hm.2
 ·show (undoW _ _).length ≤ _; rw [undoW_len]; exact o.wl
 ·have hq : M.now = some q := hq
  rw [hn] at hq; cases hq
 ·have := o.sz
  unfold Mo.sz at this ⊢
  rw [Mo.back_all hd]; exact this
theorem Mo.forth_all {ns : List GM} {g : GM} (hd : M.next = g :: ns) : (M.forth g ns).all = M.all := by unfold Mo.all Mo.forth; rw [hd]; simp
theorem Mo.forth_C {ns : List GM} {g : GM} : (M.forth g ns).C = playC M.C g.chs := by
 unfold Mo.C Mo.forth; dsimp only; rw [← List.append_assoc, playG_snoc]
theorem Mo.forth_E {ns : List GM} {g : GM} (hn : M.now = none) : (M.forth g ns).E = playC M.C g.chs := by rw [← Mo.forth_C (ns := ns)]; exact Mo.E_shut hn
theorem MoOk.mchR {ns : List GM} {g : GM} (o : MoOk enc limit M N) (hn : M.now = none) (hd : M.next = g :: ns) : Mch M.E.length (g.chs.map mvC') (playC M.C g.chs).length := by
 have h1 := o.ok
 unfold Mo.all at h1
 rw [hd] at h1
 obtain ⟨h2, h3⟩ := OkG.append.1 h1
 have := OkC.mch o.li.2 o.okC h3.1
 rw [Mo.E_shut hn]; exact this
theorem MoOk.forth {ns : List GM} {g : GM} (o : MoOk enc limit M N) (hn : M.now = none) (hd : M.next = g :: ns) : MoOk enc limit (M.forth g ns) N := by
 have hm := (o.mchR hn hd).redo o.ms
 rw [emb_redo] at hm
 have hm := emb_in.1 hm
 have hE := Mo.forth_E (ns := ns) (g := g) hn
 have hk := redo_key (g.chs.map mvC') M.marks
 refine ⟨o.en, o.li, o.dp, o.e0, ?_, ?_, o.la, ?_, ?_, ?_, so_key hk o.so, ?_, ?_, ?_, fun q hq => ?_, ?_⟩
 ·rw [Mo.forth_all hd]; exact o.ok
 ·have : (M.forth g ns).ch = [] := by unfold Mo.ch Mo.forth; rw [hn]; rfl
  rw [this]; trivial
 ·rw [Mo.forth_all hd]; exact o.nums
 ·rw [Mo.forth_all hd]; exact o.mono
 ·rw [hE]; exact hm.1
 ·have := len_key hk; have h2 := o.mb; show (redoP _ _).length ≤ _; omega
 ·rw [hE]; exact hm.2
 ·show (redoW _ _).length ≤ _; rw [redoW_len]; exact o.wl
 ·have hq : M.now = some q := hq
  rw [hn] at hq; cases hq
 ·have := o.sz
  unfold Mo.sz at this ⊢
  rw [Mo.forth_all hd]; exact this
def Mo.save (M : Mo) : Mo := if M.now.isNone then { M with saved := M.st } else M
theorem MoOk.save (o : MoOk enc limit M N) : MoOk enc limit M.save N := by
 unfold Mo.save
 split
 ·exact ⟨o.en, o.li, o.dp, o.e0, o.ok, o.okn, o.la, o.nums, o.mono, o.mi, o.so, o.mb, o.wk, o.wl, o.nw, o.sz⟩
 ·exact o
end Go.Sw.Hist

set_option linter.unusedVariables false
set_option linter.unusedSimpArgs false
set_option maxRecDepth 100000
namespace Go.Sw.Hist
open Go.Sw.Any Go.Sw.Codec Go.Sw.Piece
variable {P : Program} {S : Ids} {h : Heap} {Q : Nat → List Value → Heap → Prop} {n k : Nat} {rho : Nat → Nat} {X : Bk}
instance (M : Mo) (a : Int) : Decidable (M.ins a) := inferInstanceAs (Decidable (_ ∧ _))
structure OpnM (enc : Int) (M : Mo) (o : Opn) (q : NowM) : Prop where
 eb : els enc o.sb.ps = M.C
 mv : o.mv.2.map (·.2) = q.chs.map mvC'
 bg : o.bg = q.bg
 old : o.old = M.st
 ch : o.ch = effC q.chs
 ms : (o.ms.map kv).Perm q.om
 ws : o.ws = q.ow
def NowR (enc : Int) (M : Mo) : Option Opn → Option NowM → Prop
 | none, none => True
 | some o, some q => OpnM enc M o q
 | _, _ => False
structure Lnk (X : Bk) (M : Mo) (N : Nat) : Prop where
 E : els X.T.enc X.T.cur.ps = M.E
 u : Chain X.T.enc (playG M.E0 M.lost) (stG 0 M.lost) X.U.2 M.done
 r : Chain X.T.enc M.C M.st X.R.2.reverse M.next
 now : NowR X.T.enc M X.now M.now
 ms : (X.ms.map kv).Perm M.marks
 ws : X.ws = M.watched
 st : X.state = M.st
 sv : X.saved = M.saved
 la : X.last = M.last
 dp : X.depth = M.depth
 A : X.T.A.length ≤ 4 * N
structure Inv (X : Bk) (M : Mo) (N : Nat) : Prop where
 ok : MoOk X.T.enc X.T.limit M N
 lk : Lnk X M N
structure Sm (X X' : Bk) : Prop where
 b : X'.b = X.b
 p : X'.T.p = X.T.p
 enc : X'.T.enc = X.T.enc
 limit : X'.T.limit = X.T.limit
 depth : X'.depth = X.depth
theorem Sm.refl (X : Bk) : Sm X X := ⟨rfl, rfl, rfl, rfl, rfl⟩
theorem Sm.trans {X Y Z : Bk} (a : Sm X Y) (b : Sm Y Z) : Sm X Z := ⟨b.b.trans a.b, b.p.trans a.p, b.enc.trans a.enc, b.limit.trans a.limit, b.depth.trans a.depth⟩
def BPost (S : Ids) (n k : Nat) (X : Bk) (h : Heap) (rho : Nat → Nat) (h' : Heap) (M' : Mo) (N' : Nat) : Prop :=
 ∃ rho' X', StepR k h rho h' rho' ∧ BookR S n h' rho' k X' ∧ Inv X' M' N' ∧ Sm X X'
theorem kv_fol (x : List MvD) (ms : Ents) : (folM x ms).map kv = folP x (ms.map kv) := by simp [folM, folP, kv]
theorem kv_undo : ∀ (l : List (List MvD)) (ms : Ents), (undoM l ms).map kv = undoP l (ms.map kv)
 | [], _ => rfl
 | m :: l, ms => by show (folM (invL 0 m) (undoM l ms)).map kv = folP (invL 0 m) (undoP l (ms.map kv)); rw [kv_fol, kv_undo l]
theorem kv_redo : ∀ (l : List (List MvD)) (ms : Ents), (redoM l ms).map kv = redoP l (ms.map kv)
 | [], _ => rfl
 | m :: l, ms => by show (redoM l (folM m ms)).map kv = redoP l (folP m (ms.map kv)); rw [kv_redo l, kv_fol]
theorem perm_fol (x : List MvD) {a b : MkL} (h : a.Perm b) : (folP x a).Perm (folP x b) := h.map _
theorem perm_undo : ∀ (l : List (List MvD)) {a b : MkL}, a.Perm b → (undoP l a).Perm (undoP l b)
 | [], _, _, h => h
 | m :: l, _, _, h => perm_fol _ (perm_undo l h)
theorem perm_redo : ∀ (l : List (List MvD)) {a b : MkL}, a.Perm b → (redoP l a).Perm (redoP l b)
 | [], _, _, h => h
 | m :: l, _, _, h => perm_redo l (perm_fol m h)
theorem Inv.msX {M : Mo} {N : Nat} (i : Inv X M N) : MsIn M.E.length X.ms X.ws := by
 refine ⟨fun e he => ?_, fun v hv => i.ok.wk v (by rw [← i.lk.ws]; exact hv)⟩
 exact i.ok.mi (kv e) (i.lk.ms.mem_iff.1 (List.mem_map.2 ⟨e, he, rfl⟩))
theorem Inv.mono {M : Mo} {N N' : Nat} (i : Inv X M N) (hN : N ≤ N') : Inv X M N' :=
 ⟨i.ok.mono' hN, ⟨i.lk.E, i.lk.u, i.lk.r, i.lk.now, i.lk.ms, i.lk.ws, i.lk.st, i.lk.sv, i.lk.la, i.lk.dp, by have := i.lk.A; omega⟩⟩
theorem BPost.ext {M : Mo} {N : Nat} {h' : Heap} (r : BookR S n h rho k X) (i : Inv X M N) (e : Ext h h') : BPost S n k X h rho h' M N :=
 ⟨_, X, StepR.ofExt e, r.zr e, i, Sm.refl X⟩
theorem Inv.noneM {M : Mo} {N : Nat} (i : Inv X M N) (hn : X.now = none) : M.now = none := by
 have := i.lk.now
 rw [hn] at this
 cases hm : M.now with
 | none => rfl
 | some q => rw [hm] at this; exact this.elim
theorem Inv.someM {M : Mo} {N : Nat} {o : Opn} (i : Inv X M N) (hn : X.now = some o) : ∃ q, M.now = some q ∧ OpnM X.T.enc M o q := by
 have := i.lk.now
 rw [hn] at this
 cases hm : M.now with
 | none => rw [hm] at this; exact this.elim
 | some q => rw [hm] at this; exact ⟨q, rfl, this⟩
theorem Inv.someX {M : Mo} {N : Nat} {q : NowM} (i : Inv X M N) (hm : M.now = some q) : ∃ o, X.now = some o ∧ OpnM X.T.enc M o q := by
 cases hn : X.now with
 | none => rw [i.noneM hn] at hm; cases hm
 | some o => obtain ⟨q', h1, h2⟩ := i.someM hn; rw [hm] at h1; cases h1; exact ⟨o, rfl, h2⟩
theorem Inv.ins {M : Mo} {N : Nat} (i : Inv X M N) (a : Int) : insideB X a ↔ M.ins a := by unfold insideB Mo.ins; rw [i.lk.E]
theorem Inv.wsl {M : Mo} {N : Nat} (i : Inv X M N) : X.ws.length ≤ N := by rw [i.lk.ws]; exact i.ok.wl
def Mo.beginR (M : Mo) (a : Int) : Int × Mo := if M.now.isSome then (70, M) else if M.ins a then (0, { M with now := some ⟨[], a, M.marks, M.watched⟩ }) else (2, M)
theorem v_Begin {M : Mo} {N : Nat} {a : Int} (r : BookR S n h rho k X) (i : Inv X M N) (hN : N ≤ 68719476736) :
  wp P (F_Book_Begin S (some X.b) a) h fun tg vs h' => tg = 0 ∧ vs = [i64v (M.beginR a).1] ∧ BPost S n k X h rho h' (M.beginR a).2 N := by
 cases hn : X.now with
 | some o =>
  obtain ⟨q, hm, _⟩ := i.someM hn
  refine wp_mono _ (fun tg vs h' ⟨h1, h2, h3⟩ => ?_) (c_BeginOpen (at_ := a) r hn)
  unfold Mo.beginR
  rw [hm, if_pos (show (some q).isSome = true from rfl), h3]
  exact ⟨h1, h2, BPost.ext r i (Ext.refl _)⟩
 | none =>
  have hm := i.noneM hn
  refine wp_mono _ (fun tg vs h' ⟨h1, h2⟩ => ?_) (c_Begin (at_ := a) r hn (by have := i.wsl; omega))
  unfold Mo.beginR
  rw [hm, if_neg (by decide)]
  rcases h2 with ⟨h2, h3, h4⟩ | ⟨h2, h3, rho', o, B⟩
  ·rw [i.ins] at h2
   rw [if_neg h2]
   exact ⟨h1, h3, BPost.ext r i h4⟩
  ·rw [i.ins] at h2
   rw [if_pos h2]
   have hE := Mo.E_shut hm
   refine ⟨h1, h3, rho', _, B.st, B.r, ⟨i.ok.begin hm a, ?_⟩, ⟨rfl, rfl, rfl, rfl, rfl⟩⟩
   refine ⟨?_, i.lk.u, i.lk.r, ?_, i.lk.ms, i.lk.ws, i.lk.st, i.lk.sv, i.lk.la, i.lk.dp, i.lk.A⟩
   ·have := i.lk.E; rw [hE] at this; exact this
   ·show OpnM X.T.enc _ o _
    refine ⟨?_, ?_, B.bg, ?_, B.ch, ?_, ?_⟩
    ·rw [B.sb]; have := i.lk.E; rw [hE] at this; exact this
    ·rw [B.mv]; rfl
    ·rw [B.old]; exact i.lk.st
    ·exact B.ms.trans i.lk.ms
    ·rw [B.ws]; exact i.lk.ws
theorem Inv.small {M : Mo} {N : Nat} (i : Inv X M N) (r : BookR S n h rho k X) : (bytesL X.T.cur.ps).length ≤ X.T.limit := by
 have h1 := blen_state r.t.cur r.t.enc
 have h2 := i.ok.okE.2
 rw [i.lk.E] at h1
 omega
theorem sz_ch {M : Mo} {N : Nat} (hs : M.sz ≤ N) : M.ch.length ≤ N := by unfold Mo.sz at hs; omega
theorem v_Change (Me : Meth0 P S) {M : Mo} {N : Nat} {q : NowM} {x : Eds} (r : BookR S n h rho k X) (i : Inv X M N) (hm : M.now = some q) (hok : ∀ h', Chg (fun i => k < rho i ∧ rho i ≤ k + 10) h h' → (Sh.list EdSh).ok h' x)
  (hz : ∀ e, e ∈ x.2 → e.2.2.1.2 ≠ [] → ∀ a, e.2.2.1.1.base = some a → rho a.block ≤ k ∨ k + 10 < rho a.block) (hN : N + 1 + (putsOf x.2).length ≤ 68719476736) :
  wp P (F_Book_Change S (some X.b) x.1) h fun tg vs h' => tg = 0 ∧ ∃ e, vs = [i64v e] ∧ RefR X.T.enc X.T.limit (toksL X.T.enc X.T.cur.ps) x.2 e ∧ (e = 0 ↔ x.2.length ≤ 70000 ∧ Okay X.T.enc X.T.limit M.E x.2) ∧
   BPost S n k X h rho h' (if e = 0 then M.chg q x.2 else M) (N + 1 + (putsOf x.2).length) := by
 obtain ⟨o, hn, om⟩ := i.someX hm
 have hch : M.ch = q.chs := by unfold Mo.ch; rw [hm]; rfl
 have hml : o.mv.2.length = q.chs.length := by have := congrArg List.length om.mv; simpa using this
 have hsz := sz_ch i.ok.sz
 rw [hch] at hsz
 have hlen := i.ok.len
 have hA := i.lk.A
 have hw := i.msX.w hlen
 refine wp_mono _ (fun tg vs h' ⟨h1, e, rho', X', h2, B⟩ => ?_) (c_BChange Me (o := o) (x := x) r hn hok hz (by omega) (i.small r) (by rw [i.lk.E]; omega) hw.1 hw.2 (by omega))
 have hre := ref_okay r.t.enc r.t.cur.bytes B.ref
 rw [i.lk.E] at hre
 refine ⟨h1, e, h2, B.ref, hre, rho', X', B.st, B.r, ?_, ?_⟩
 ·have hAl := B.len
  by_cases he : e = 0
  ·rw [if_pos he]
   obtain ⟨qq, l, hX⟩ := B.yes he
   have hok' := (hre.1 he)
   have hE : els X.T.enc X'.T.cur.ps = allE M.E x.2 := by rw [B.els, if_pos he, i.lk.E]
   have ho := (i.ok.chg hm hok'.1 hok'.2).mono' (N' := N + 1 + (putsOf x.2).length) (by omega)
   rw [hX] at hE hAl ⊢
   have e1 : X'.T.enc = X.T.enc := B.nx.enc
   have e2 : X'.T.limit = X.T.limit := B.nx.limit
   refine ⟨by show MoOk X'.T.enc X'.T.limit _ _; rw [e1, e2]; exact ho, ?_⟩
   refine ⟨?_, ?_, ?_, ?_, ?_, ?_, i.lk.st, i.lk.sv, i.lk.la, i.lk.dp, ?_⟩
   ·show els X'.T.enc X'.T.cur.ps = _
    rw [e1, Mo.chg_E hm]; exact hE
   ·show Chain X'.T.enc _ _ _ _; rw [e1]; exact i.lk.u
   ·show Chain X'.T.enc _ _ _ _; rw [e1]; exact i.lk.r
   ·show OpnM X'.T.enc _ _ _
    rw [e1]
    refine ⟨om.eb, ?_, om.bg, om.old, ?_, om.ms, om.ws⟩
    ·show (o.mv.2 ++ [(l, x.2.map mvOf)]).map (·.2) = (q.chs ++ [x.2.map strip]).map mvC'
     rw [List.map_append, List.map_append, om.mv, List.map_singleton, List.map_singleton, strip_mv]
    ·show (o.ch || x.2.any effE) = effC (q.chs ++ [x.2.map strip])
     rw [om.ch]
     unfold effC
     rw [List.any_append, List.any_cons, List.any_nil, Bool.or_false, strip_eff]
   ·show ((folM (x.2.map mvOf) X.ms).map kv).Perm (folP (mvC' x.2) M.marks)
    rw [kv_fol]; exact perm_fol _ i.lk.ms
   ·show folW (x.2.map mvOf) X.ws = folW (mvC' x.2) M.watched
    rw [i.lk.ws]
   ·dsimp only at hAl ⊢; omega
  ·rw [if_neg he]
   have hX := B.no he
   have hE : els X.T.enc X'.T.cur.ps = M.E := by rw [B.els, if_neg he, i.lk.E]
   rw [hX] at hE hAl ⊢
   have e1 : X'.T.enc = X.T.enc := B.nx.enc
   have e2 : X'.T.limit = X.T.limit := B.nx.limit
   have ho := i.ok.mono' (N' := N + 1 + (putsOf x.2).length) (by omega)
   refine ⟨by show MoOk X'.T.enc X'.T.limit _ _; rw [e1, e2]; exact ho, ?_⟩
   refine ⟨?_, ?_, ?_, ?_, i.lk.ms, i.lk.ws, i.lk.st, i.lk.sv, i.lk.la, i.lk.dp, ?_⟩
   ·show els X'.T.enc X'.T.cur.ps = _; rw [e1]; exact hE
   ·show Chain X'.T.enc _ _ _ _; rw [e1]; exact i.lk.u
   ·show Chain X'.T.enc _ _ _ _; rw [e1]; exact i.lk.r
   ·show NowR X'.T.enc _ _ _; rw [e1]; exact i.lk.now
   ·dsimp only at hAl ⊢; omega
 ·by_cases he : e = 0
  ·obtain ⟨qq, l, hX⟩ := B.yes he
   exact ⟨by rw [hX], B.nx.p, B.nx.enc, B.nx.limit, by rw [hX]⟩
  ·exact ⟨by rw [B.no he], B.nx.p, B.nx.enc, B.nx.limit, by rw [B.no he]⟩
theorem up_len {last : Int} : ∀ {l : List GM} {a : Int}, (∀ g ∈ l, a < g.st ∧ g.st ≤ last) → (l.Pairwise fun x y => x.st < y.st) → 0 ≤ a → a ≤ last → (l.length : Int) ≤ last - a
 | [], _, _, _, _, _ => by simp; omega
 | g :: l, a, h, p, h0, h1 => by
  obtain ⟨p1, p2⟩ := List.pairwise_cons.1 p
  have hg := h g (List.mem_cons_self ..)
  have := up_len (l := l) (a := g.st) (fun x hx => ⟨p1 x hx, (h x (List.mem_cons_of_mem _ hx)).2⟩) p2 (by omega) (by omega)
  rw [List.length_cons]; push_cast; omega
theorem all_le {enc limit : Int} {M : Mo} {N : Nat} (o : MoOk enc limit M N) : M.all.length ≤ M.last.toNat := by
 have := up_len (last := M.last) (l := M.all) (a := 0) o.nums o.mono (Int.le_refl _) o.la
 have := o.la
 omega
theorem done_le {enc limit : Int} {M : Mo} {N : Nat} (o : MoOk enc limit M N) : M.done.length ≤ M.last.toNat := by
 have := all_le o; unfold Mo.all at this; rw [List.length_append, List.length_append] at this; omega
theorem next_le {enc limit : Int} {M : Mo} {N : Nat} (o : MoOk enc limit M N) : M.next.length ≤ M.last.toNat := by
 have := all_le o; unfold Mo.all at this; rw [List.length_append, List.length_append] at this; omega
def Mo.endR (M : Mo) (a : Int) : Int × Mo := match M.now with
 | none => (71, M)
 | some q => if M.ins a then (0, if effC q.chs then M.keep q a else { M with now := none }) else (2, M)
theorem v_End (C : ClH P S) {M : Mo} {N : Nat} {a : Int} (r : BookR S n h rho k X) (i : Inv X M N) (hN : N ≤ 68719476736) :
  wp P (F_Book_End S (some X.b) a) h fun tg vs h' => tg = 0 ∧ vs = [i64v (M.endR a).1] ∧ BPost S n k X h rho h' (M.endR a).2 (N + 1) := by
 have i1 := i.mono (N' := N + 1) (Nat.le_succ _)
 cases hn : X.now with
 | none =>
  have hm := i.noneM hn
  refine wp_mono _ (fun tg vs h' ⟨h1, h2, h3⟩ => ?_) (c_EndShut (at_ := a) r hn)
  unfold Mo.endR
  rw [hm, h3]
  exact ⟨h1, h2, BPost.ext r i1 (Ext.refl _)⟩
 | some o =>
  obtain ⟨q, hm, om⟩ := i.someM hn
  have hch : M.ch = q.chs := by unfold Mo.ch; rw [hm]; rfl
  have hsz := i.ok.sz
  have hla := i.ok.la
  have hul := i.lk.u.len
  have hdl : M.done.length ≤ N ∨ True := .inr trivial
  have hd : M.done.length ≤ M.last.toNat := done_le i.ok
  have hl2 : M.last.toNat ≤ N := by unfold Mo.sz at hsz; omega
  refine wp_mono _ (fun tg vs h' ⟨h1, h2⟩ => ?_) (c_End C (o := o) (at_ := a) r hn (by rw [i.lk.la]; exact hla) (by rw [i.lk.la]; omega) (by rw [hul]; omega))
  unfold Mo.endR
  rw [hm]
  dsimp only
  rcases h2 with ⟨h2, h3, h4⟩ | ⟨h2, h3, rho', X', st, r', er⟩
  ·rw [i.ins] at h2
   rw [if_neg h2]
   exact ⟨h1, h3, BPost.ext r i1 h4⟩
  ·rw [i.ins] at h2
   rw [if_pos h2]
   refine ⟨h1, h3, rho', X', st, r', ?_⟩
   cases hc : effC q.chs with
   | false =>
    have hX := er.no (by rw [om.ch, hc])
    rw [if_neg (by decide), hX]
    have hE : M.E = M.C := by have := i.ok.okn; rw [hch] at this; unfold Mo.E; rw [hch]; exact eff_play this hc
    refine ⟨⟨(i1.ok.endNo hm hc), ?_, i.lk.u, i.lk.r, trivial, i.lk.ms, i.lk.ws, i.lk.st, i.lk.sv, i.lk.la, i.lk.dp, i1.lk.A⟩, ⟨rfl, rfl, rfl, rfl, rfl⟩⟩
    have := i.lk.E; rw [hE] at this; exact this
   | true =>
    obtain ⟨g, q', hg, hX⟩ := er.yes (by rw [om.ch, hc])
    rw [if_pos rfl, hX]
    have gm : GrpM X.T.enc (playG (playG M.E0 M.lost) M.done) (stG (stG 0 M.lost) M.done) g ⟨q.chs, q.bg, a, M.last + 1⟩ := by
     refine ⟨?_, ?_, ?_, ?_, hg.en, ?_, ?_⟩
     ·rw [hg.sb, om.eb, ← playG_append]; rfl
     ·rw [hg.sh, i.lk.E, ← playG_append]; unfold Mo.E; rw [hch]; rfl
     ·show g.mv.2.map (·.2) = _; rw [hg.mv, om.mv]
     ·rw [hg.bg, om.bg]
     ·rw [hg.old, om.old, ← stG_append]; rfl
     ·rw [hg.fresh, i.lk.la]
    have hu := i.lk.u.snoc gm
    have hE : (M.keep q a).E = M.E := by rw [Mo.E_shut rfl, Mo.keep_C hm]
    refine ⟨⟨i.ok.keep hm, ?_, ?_, ?_, trivial, i.lk.ms, i.lk.ws, ?_, i.lk.sv, ?_, i.lk.dp, i1.lk.A⟩, ⟨rfl, rfl, rfl, rfl, rfl⟩⟩
    ·rw [hE]; exact i.lk.E
    ·show Chain X.T.enc (playG M.E0 (M.keep q a).lost) (stG 0 (M.keep q a).lost) (putU X g) (M.keep q a).done
     unfold putU Mo.keep
     dsimp only
     rw [i.lk.dp, hul]
     split
     ·revert hu
      cases hx : X.U.2 ++ [g] with
      | nil => intro hu; simp at hx
      | cons g0 gs =>
       cases hy : M.done ++ [(⟨q.chs, q.bg, a, M.last + 1⟩ : GM)] with
       | nil => simp at hy
       | cons m0 ms =>
        intro hu
        cases hu with
        | cons c1 c2 =>
         show Chain X.T.enc (playG M.E0 (M.lost ++ [m0])) (stG 0 (M.lost ++ [m0])) gs ms
         rw [playG_snoc, stG_snoc]; exact c2
     ·exact hu
    ·show Chain X.T.enc _ _ [] []
     exact .nil _ _
    ·rw [Mo.keep_st, ← i.lk.la]
    ·show X.last + 1 = M.last + 1; rw [i.lk.la]
end Go.Sw.Hist

set_option linter.unusedVariables false
set_option linter.unusedSimpArgs false
set_option maxRecDepth 100000
namespace Go.Sw.Hist
open Go.Sw.Any Go.Sw.Codec Go.Sw.Piece
variable {P : Program} {S : Ids} {h : Heap} {Q : Nat → List Value → Heap → Prop} {n k : Nat} {rho : Nat → Nat} {X : Bk}
theorem NowR.re {enc : Int} {M M' : Mo} (hC : M'.C = M.C) (hs : M'.st = M.st) : ∀ {a : Option Opn} {b : Option NowM}, NowR enc M a b → NowR enc M' a b
 | none, none, _ => trivial
 | some o, some q, h => ⟨by rw [hC]; exact h.eb, h.mv, h.bg, by rw [hs]; exact h.old, h.ch, h.ms, h.ws⟩
def lastG : List GM → Option (List GM × GM)
 | [] => none
 | [g] => some ([], g)
 | g :: l => (lastG l).map fun x => (g :: x.1, x.2)
theorem lastG_snoc : ∀ (ds : List GM) (g : GM), lastG (ds ++ [g]) = some (ds, g)
 | [], g => rfl
 | x :: ds, g => by
  have := lastG_snoc ds g
  cases ds with
  | nil => rfl
  | cons y ds =>
   show (lastG (y :: ds ++ [g])).map _ = _
   rw [this]; rfl
theorem lastG_cases (l : List GM) : l = [] ∨ ∃ ds g, l = ds ++ [g] ∧ lastG l = some (ds, g) := by
 rcases List.eq_nil_or_concat l with h | ⟨ds, g, h⟩
 ·exact .inl h
 ·rw [List.concat_eq_append] at h
  exact .inr ⟨ds, g, h, by rw [h, lastG_snoc]⟩
def Mo.undoR (M : Mo) : Int × Int × Mo := if M.now.isSome then (0, 70, M) else match lastG M.done with
 | none => (0, 72, M)
 | some (ds, g) => (g.bg, 0, M.back ds g)
def Mo.redoR (M : Mo) : Int × Int × Mo := if M.now.isSome then (0, 70, M) else match M.next with
 | [] => (0, 73, M)
 | g :: ns => (g.en, 0, M.forth g ns)
theorem chs_le {M : Mo} {N : Nat} {g : GM} (hs : M.sz ≤ N) (hg : g ∈ M.all) : g.chs.length ≤ N := by
 have := sum_mem_le (fun g : GM => g.chs.length) hg
 unfold Mo.sz at hs
 omega
theorem v_Undo {M : Mo} {N : Nat} (r : BookR S n h rho k X) (i : Inv X M N) (hN : N ≤ 68719476736) :
  wp P (F_Book_Undo S (some X.b)) h fun tg vs h' => tg = 0 ∧ vs = [i64v M.undoR.1, i64v M.undoR.2.1] ∧ BPost S n k X h rho h' M.undoR.2.2 N := by
 cases hn : X.now with
 | some o =>
  obtain ⟨q, hm, _⟩ := i.someM hn
  refine wp_mono _ (fun tg vs h' ⟨h1, h2, h3⟩ => ?_) (c_UndoOpen r hn)
  unfold Mo.undoR
  rw [hm, if_pos (show (some q).isSome = true from rfl), h3]
  exact ⟨h1, h2, BPost.ext r i (Ext.refl _)⟩
 | none =>
  have hm := i.noneM hn
  rcases lastG_cases M.done with hd | ⟨ds, g, hd, hl⟩
  ·have hU : X.U.2 = [] := List.eq_nil_of_length_eq_zero (by rw [i.lk.u.len, hd]; rfl)
   refine wp_mono _ (fun tg vs h' ⟨h1, h2, h3⟩ => ?_) (c_UndoOld r hn hU)
   unfold Mo.undoR
   rw [hm, if_neg (by decide), hd, h3]
   exact ⟨h1, h2, BPost.ext r i (Ext.refl _)⟩
  ·have hu := i.lk.u
   rw [hd] at hu
   obtain ⟨us, x, hU, c1, gm⟩ := hu.un
   rw [← playG_append, ← stG_append] at gm
   have hg : g ∈ M.all := by unfold Mo.all; rw [hd]; simp
   have hla : M.last.toNat ≤ N := by have := i.ok.sz; unfold Mo.sz at this; omega
   have hdl := done_le i.ok
   have hnl := next_le i.ok
   have hrl := i.lk.r.len
   rw [List.length_reverse] at hrl
   have hgl := chs_le i.ok.sz hg
   have hul : us.length ≤ M.done.length := by have := c1.len; rw [this, hd]; simp
   have hmvs : mvs x = g.chs.map mvC' := gm.mv
   have hml : x.mv.2.length = g.chs.length := by have := congrArg List.length hmvs; simpa using this
   have hmch := i.ok.mchU hm hd
   rw [← hmvs] at hmch
   refine wp_mono _ (fun tg vs h' ⟨h1, h2, rho', T', u, q, st, r', nx, hcur, hA⟩ => ?_) (c_Undo r hn hU hmch i.msX (by omega) (by omega) (by omega))
   unfold Mo.undoR
   rw [hm, if_neg (by decide), hl]
   refine ⟨h1, by rw [h2, gm.bg], rho', _, st, r', ?_, ⟨rfl, nx.p, nx.enc, nx.limit, rfl⟩⟩
   have e1 : T'.enc = X.T.enc := nx.enc
   have e2 : T'.limit = X.T.limit := nx.limit
   refine ⟨by show MoOk T'.enc T'.limit _ _; rw [e1, e2]; exact i.ok.back hm hd, ?_⟩
   refine ⟨?_, ?_, ?_, ?_, ?_, ?_, ?_, i.lk.sv, i.lk.la, i.lk.dp, ?_⟩
   ·show els T'.enc T'.cur.ps = (M.back ds g).E
    rw [e1, hcur, Mo.back_E hm]; exact gm.eb
   ·show Chain T'.enc _ _ us ds; rw [e1]; exact c1
   ·show Chain T'.enc _ _ (X.R.2 ++ [x]).reverse (g :: M.next)
    rw [e1, List.reverse_append]
    refine .cons ?_ ?_
    ·exact gm
    ·rw [Mo.back_C, ← Mo.C_last hd]
     have : M.st = g.st := by unfold Mo.st; rw [hd, ← List.append_assoc, stG_snoc]
     rw [← this]; exact i.lk.r
   ·show NowR _ _ X.now M.now; rw [hn, hm]; trivial
   ·show ((undoM (mvs x) X.ms).map kv).Perm (undoP (g.chs.map mvC') M.marks)
    rw [kv_undo, hmvs]; exact perm_undo _ i.lk.ms
   ·show undoW (mvs x) X.ws = undoW (g.chs.map mvC') M.watched
    rw [hmvs, i.lk.ws]
   ·exact gm.old
   ·show T'.A.length ≤ _; rw [hA]; exact i.lk.A
theorem v_Redo {M : Mo} {N : Nat} (r : BookR S n h rho k X) (i : Inv X M N) (hN : N ≤ 68719476736) :
  wp P (F_Book_Redo S (some X.b)) h fun tg vs h' => tg = 0 ∧ vs = [i64v M.redoR.1, i64v M.redoR.2.1] ∧ BPost S n k X h rho h' M.redoR.2.2 N := by
 cases hn : X.now with
 | some o =>
  obtain ⟨q, hm, _⟩ := i.someM hn
  refine wp_mono _ (fun tg vs h' ⟨h1, h2, h3⟩ => ?_) (c_RedoOpen r hn)
  unfold Mo.redoR
  rw [hm, if_pos (show (some q).isSome = true from rfl), h3]
  exact ⟨h1, h2, BPost.ext r i (Ext.refl _)⟩
 | none =>
  have hm := i.noneM hn
  cases hd : M.next with
  | nil =>
   have hU : X.R.2 = [] := List.eq_nil_of_length_eq_zero (by have := i.lk.r.len; rw [hd, List.length_reverse] at this; exact this)
   refine wp_mono _ (fun tg vs h' ⟨h1, h2, h3⟩ => ?_) (c_RedoNew r hn hU)
   unfold Mo.redoR
   rw [hm, if_neg (by decide), hd, h3]
   exact ⟨h1, h2, BPost.ext r i (Ext.refl _)⟩
  | cons g ns =>
   have hr := i.lk.r
   rw [hd] at hr
   obtain ⟨x, rs, hrev⟩ : ∃ x rs, X.R.2.reverse = x :: rs := by
    cases hx : X.R.2.reverse with
    | nil => rw [hx] at hr; cases hr
    | cons x rs => exact ⟨x, rs, rfl⟩
   have hR : X.R.2 = rs.reverse ++ [x] := by have := congrArg List.reverse hrev; simpa using this
   rw [hrev] at hr
   cases hr with
   | cons gm c1 =>
   have hg : g ∈ M.all := by unfold Mo.all; rw [hd]; simp
   have hla : M.last.toNat ≤ N := by have := i.ok.sz; unfold Mo.sz at this; omega
   have hdl := done_le i.ok
   have hnl := next_le i.ok
   have hul := i.lk.u.len
   have hgl := chs_le i.ok.sz hg
   have hrl : rs.length ≤ M.next.length := by have := c1.len; rw [this, hd]; simp
   have hmvs : mvs x = g.chs.map mvC' := gm.mv
   have hml : x.mv.2.length = g.chs.length := by have := congrArg List.length hmvs; simpa using this
   have hmch := i.ok.mchR hm hd
   rw [← hmvs] at hmch
   refine wp_mono _ (fun tg vs h' ⟨h1, h2, rho', T', u, q, st, r', nx, hcur, hA⟩ => ?_) (c_Redo (us := rs.reverse) (g := x) r hn hR hmch i.msX (by omega) (by rw [List.length_reverse]; omega) (by omega))
   unfold Mo.redoR
   rw [hm, if_neg (by decide), hd]
   refine ⟨h1, by rw [h2, gm.en], rho', _, st, r', ?_, ⟨rfl, nx.p, nx.enc, nx.limit, rfl⟩⟩
   have e1 : T'.enc = X.T.enc := nx.enc
   have e2 : T'.limit = X.T.limit := nx.limit
   refine ⟨by show MoOk T'.enc T'.limit _ _; rw [e1, e2]; exact i.ok.forth hm hd, ?_⟩
   refine ⟨?_, ?_, ?_, ?_, ?_, ?_, ?_, i.lk.sv, i.lk.la, i.lk.dp, ?_⟩
   ·show els T'.enc T'.cur.ps = (M.forth g ns).E
    rw [e1, hcur, Mo.forth_E hm]; exact gm.ee
   ·show Chain T'.enc _ _ (X.U.2 ++ [x]) (M.done ++ [g])
    rw [e1]
    refine i.lk.u.snoc ?_
    rw [← playG_append, ← stG_append]; exact gm
   ·show Chain T'.enc _ _ rs.reverse.reverse ns
    rw [e1, List.reverse_reverse, Mo.forth_C]
    have : (M.forth g ns).st = g.st := by unfold Mo.st Mo.forth; dsimp only; rw [← List.append_assoc, stG_snoc]
    rw [this]; exact c1
   ·show NowR _ _ X.now M.now; rw [hn, hm]; trivial
   ·show ((redoM (mvs x) X.ms).map kv).Perm (redoP (g.chs.map mvC') M.marks)
    rw [kv_redo, hmvs]; exact perm_redo _ i.lk.ms
   ·show redoW (mvs x) X.ws = redoW (g.chs.map mvC') M.watched
    rw [hmvs, i.lk.ws]
   ·have : (M.forth g ns).st = g.st := by unfold Mo.st Mo.forth; dsimp only; rw [← List.append_assoc, stG_snoc]
    rw [this]; exact gm.fr
   ·show T'.A.length ≤ _; rw [hA]; exact i.lk.A
instance (M : Mo) (l : List Int) : Decidable (∀ v ∈ l, M.ins v) := inferInstance
theorem v_Saved {M : Mo} {N : Nat} (r : BookR S n h rho k X) (i : Inv X M N) : wp P (F_Book_Saved S (some X.b)) h fun tg vs h' => tg = 0 ∧ vs = [] ∧ BPost S n k X h rho h' M.save N := by
 have r0 := r.zr (Ext.refl h)
 have hz0 : StepR k h rho h (Hist.zr h rho) := StepR.ofExt (Ext.refl h)
 refine wp_mono _ (fun tg vs h' ⟨h1, h2, x, h3, r'⟩ => ⟨h1, by rw [h3]; rfl, _, _, hz0.trans (StepR.of h2 (fun j hj e => ?_) fun j hj _ => zr_new hj), r', ?_⟩) (c_Saved r0)
 ·rw [e, r0.rb]; omega
 ·have hb : (savedB X).now = X.now := by unfold savedB; split <;> rfl
  cases hn : X.now with
  | none =>
   have hm := i.noneM hn
   have e1 : savedB X = { X with saved := X.state } := by unfold savedB; rw [hn]; rfl
   have e2 : M.save = { M with saved := M.st } := by unfold Mo.save; rw [hm]; rfl
   have ho := i.ok.save
   rw [e2] at ho ⊢
   rw [e1]
   exact ⟨⟨ho, i.lk.E, i.lk.u, i.lk.r, NowR.re (by exact rfl) (by exact rfl) i.lk.now, i.lk.ms, i.lk.ws, i.lk.st, i.lk.st, i.lk.la, i.lk.dp, i.lk.A⟩, ⟨rfl, rfl, rfl, rfl, rfl⟩⟩
  | some o =>
   obtain ⟨q, hm, _⟩ := i.someM hn
   have e1 : savedB X = X := by unfold savedB; rw [hn]; rfl
   have e2 : M.save = M := by unfold Mo.save; rw [hm]; rfl
   rw [e1, e2]
   exact ⟨i, Sm.refl X⟩
theorem v_Depth {M : Mo} {N : Nat} (r : BookR S n h rho k X) (i : Inv X M N) : Gives P (F_Book_Depth S (some X.b)) [.one (.int .i64), .one (.int .i64)] h fun (y : Int × Int × Unit) _ => y.1 = M.done.length ∧ y.2.1 = M.next.length := by
 refine (c_Depth r).mono fun y h' e hy => ?_
 have h1 := i.lk.u.len
 have h2 := i.lk.r.len
 rw [List.length_reverse] at h2
 rw [h1, h2] at hy
 exact hy
def Mo.dirty (M : Mo) : Bool := decide (M.st ≠ M.saved) || (M.now.map fun q => effC q.chs).getD false
theorem v_Dirty {M : Mo} {N : Nat} (r : BookR S n h rho k X) (i : Inv X M N) : Gives P (F_Book_Dirty S (some X.b)) [.one .bool] h fun (y : Bool × Unit) _ => y.1 = M.dirty := by
 refine (c_Dirty r).mono fun y h' e hy => ?_
 rw [hy]
 unfold dirtyB Mo.dirty
 rw [i.lk.st, i.lk.sv]
 congr 1
 cases hn : X.now with
 | none => rw [i.noneM hn]; rfl
 | some o => obtain ⟨q, hm, om⟩ := i.someM hn; rw [hm]; exact om.ch
end Go.Sw.Hist

set_option linter.unusedVariables false
set_option linter.unusedSimpArgs false
set_option maxRecDepth 100000
namespace Go.Sw.Hist
open Go.Sw.Any Go.Sw.Codec Go.Sw.Piece
variable {P : Program} {S : Ids} {h : Heap} {Q : Nat → List Value → Heap → Prop} {n k : Nat} {rho : Nat → Nat} {X : Bk}
theorem ok_ints {w : Sl} {l : List Int} (o : Lst .i64 h w l) : (Sh.list (.int .i64)).ok h ((w, l) : Sl × List Int) := by
 refine ⟨o.len, o.cap, o.max, fun i y hi => ?_⟩
 obtain ⟨a, ha, hc⟩ := o.rd.2 i (.int .i64 y) (by rw [List.getElem?_map, hi]; rfl)
 refine ⟨a, ha, cells_iff.2 fun j v hj => ?_, o.wf y (List.mem_of_getElem? hi)⟩
 cases j with
 | zero =>
  simp [Sh.cells] at hj; subst hj
  simpa [Sh.size, add_zero'] using hc
 | succ j => simp [Sh.cells] at hj
theorem ok_edit {m : Nat} {w : Sl} {l : List Int} {a2 : Addr} {f t : Int} (ow : Lst .i64 h w l) (o2 : Own m 1 h ⟨some a2, 3, 3⟩ [i64v f, i64v t, slv w]) (hf : fitsI .i64 f) (ht : fitsI .i64 t) :
  (Sh.list EdSh).ok h (⟨some a2, 1, 1⟩, [((f, t, (w, l), ()) : EdD)]) := by
 refine ⟨rfl, Nat.le_refl _, (by decide : 1 < 2 ^ 63), fun i y hi => ?_⟩
 have hlt := (List.getElem?_eq_some_iff.1 hi).1
 simp at hlt
 subst hlt
 simp at hi
 subst hi
 refine ⟨a2, rfl, cells_iff.2 fun j v hj => ?_, ⟨hf, ht, ok_ints ow, trivial⟩⟩
 rw [Nat.zero_mul, add_zero']
 refine cells_iff.1 o2.cells j v ?_
 match j, hj with
 | 0, hj => exact hj
 | 1, hj => exact hj
 | 2, hj => exact hj
 | j + 3, hj => simp [Sh.cells] at hj
theorem s_ckSh {e : Sh} {x : Sl × List e.den} {y : e.den} {vs : List Value} {j : Int} {m : Nat} {K : Prog} (o : (Sh.list e).ok h x) (h0 : 0 ≤ j) (hj : x.2[j.toNat]? = some y) (hm : m = e.size) (hz : vs = e.cells y) (hk : wp P K h Q) :
  wp P (.check (shiftTo x.1.base (mulN (toN j) m)) vs K) h Q := by
 obtain ⟨o1, o2, o3, o4⟩ := o
 obtain ⟨a, ea, c, _⟩ := o4 _ _ hj
 refine ⟨⟨a.add (j.toNat * e.size), by rw [ea, hm]; rfl, by rw [hz]; exact c⟩, hk⟩
theorem c_num7 {a : Int} : Gives P (F_law7_num S a) [.one (.int .i64)] h fun (y : Int × Unit) _ => y.1 = a := by
 unfold F_law7_num Gives
 exact s_ret ⟨rfl, Ext.refl _, (a, ()), rfl, rfl⟩
theorem s_change1 (Me : Meth0 P S) {M : Mo} {N m : Nat} {q : NowM} {f t : Int} {w : Sl} {l : List Int} (r : BookR S n h rho k X) (i : Inv X M N) (hm : M.now = some q) (ow : OwnL m .i64 h w l) (hw : ∀ a, w.base = some a → rho a.block ≤ k ∨ k + 10 < rho a.block)
  (hok : Okay X.T.enc X.T.limit M.E [((f, t, (w, l), ()) : EdD)]) (hN : N + 1 + l.length ≤ 68719476736) {K : Int × Unit → Prog}
  (hk : ∀ h' rho' X', StepR k h rho h' rho' → BookR S n h' rho' k X' → Inv X' (M.chg q [(f, t, (w, l), ())]) (N + 1 + l.length) → Sm X X' → wp P (K (0, ())) h' Q) :
  wp P (.alloc [i64v f, i64v t, slv w] fun a => .call (F_Book_Change S (some X.b) ⟨some a, 1, 1⟩) [.one (.int .i64)] K) h Q := by
 refine fun elem => ?_
 have e1 : Ext h (h.push (.cells [i64v f, i64v t, slv w].toArray elem)) := Ext.push ..
 have o1 : Own h.size 1 (h.push (.cells [i64v f, i64v t, slv w].toArray elem)) ⟨some ⟨h.size, 0, none⟩, 3, 3⟩ [i64v f, i64v t, slv w] := own_alloc rfl (by decide) (by decide)
 generalize h.push (.cells [i64v f, i64v t, slv w].toArray elem) = h1 at e1 o1 ⊢
 have st1 := StepR.ofExt (k := k) (rho := rho) e1
 have r1 := r.zr e1
 have ow1 := (Chg.of_ext (F := fun _ => False) e1).ownL ow fun _ _ x => x
 have hlen := i.ok.len
 obtain ⟨p1, p2, p3, _⟩ := hok.1
 have p1 : 0 ≤ f := p1
 have p2 : f ≤ t := p2
 have p3 : t ≤ M.E.length := p3
 have hputs : putsOf [((f, t, (w, l), ()) : EdD)] = l := by simp [putsOf]
 have hzw : ∀ a, w.base = some a → Hist.zr h rho a.block ≤ k ∨ k + 10 < Hist.zr h rho a.block := fun a ha => by
  rw [zr_old (ow.own.lt ha).2]; exact hw a ha
 refine wp_callW (v_Change Me (x := (⟨some ⟨h.size, 0, none⟩, 1, 1⟩, [(f, t, (w, l), ())])) r1 i hm (fun h' c => ?_) (fun e he hne a ha => ?_) (by rw [hputs]; exact hN)) fun tg vs h2 hx => ?_
 ·refine ok_edit (c.ownL ow1 fun a ha hf => by have := hzw a ha; omega).lst (c.own o1 fun a ha hf => ?_) (fits_i64.2 (by omega)) (fits_i64.2 (by omega))
  cases ha
  have h0 : Hist.zr h rho h.size = 0 := zr_new (Nat.le_refl _)
  dsimp only at hf
  omega
 ·rw [List.mem_singleton.1 he] at ha
  exact hzw a ha
 ·obtain ⟨rfl, e, rfl, _, he, rho', X', st, r', i', sm⟩ := hx
  have h0 : e = 0 := he.2 ⟨by show 1 ≤ 70000; decide, hok⟩
  subst h0
  rw [if_pos rfl, hputs] at i'
  exact ⟨rfl, (0, ()), rfl, hk h2 rho' X' (st1.trans st) r' i' sm⟩
theorem lett_fits {enc : Int} (he : known enc) (a : Int) : 0 < sizeF enc (lett a) := by
 have := lett_in a
 rw [fits_iff]
 unfold known at he
 omega
def cutE (E : List El) (c : EdD) : EdD := (slotF c.1 E.length, slotF c.1 E.length + slotF c.2.1 (min 3 (E.length - slotF c.1 E.length)), (⟨none, 0, 0⟩, c.2.2.1.2.map lett), ())
def cutC : List El → List EdD → List (List EdD)
 | _, [] => []
 | E, c :: cs => [cutE E c] :: cutC (allE E [cutE E c]) cs
theorem cutC_snoc (c : EdD) : ∀ (l : List EdD) (E : List El), cutC E (l ++ [c]) = cutC E l ++ [[cutE (playC E (cutC E l)) c]]
 | [], E => rfl
 | d :: l, E => by show [cutE E d] :: cutC _ (l ++ [c]) = _; rw [cutC_snoc c l]; rfl
theorem cut_okay {enc limit : Int} {E : List El} {c : EdD} (he : known enc) (hb : (blen enc E : Int) + 4 * c.2.2.1.2.length ≤ limit) : Okay enc limit E [cutE E c] ∧ blen enc (allE E [cutE E c]) ≤ blen enc E + 4 * c.2.2.1.2.length := by
 have h1 := slot_in (i := c.1) (n := E.length) (by omega)
 have h2 := slot_in (i := c.2.1) (n := min 3 (E.length - slotF c.1 E.length)) (by omega)
 have hf : fitsE enc (c.2.2.1.2.map lett) := fun a ha => by
  obtain ⟨x, _, rfl⟩ := List.mem_map.1 ha
  exact lett_fits he x
 have hb2 := blen_one (E := E) (e := cutE E c) hf h1.1 (by show slotF c.1 E.length ≤ slotF c.1 E.length + _; omega)
 have hl : (cutE E c).2.2.1.2.length = c.2.2.1.2.length := by simp [cutE]
 rw [hl] at hb2
 have ha : allE E [cutE E c] = one1 E (cutE E c) := rfl
 refine ⟨⟨⟨h1.1, ?_, ?_, trivial⟩, ?_, ?_⟩, hb2⟩
 ·show slotF c.1 E.length ≤ slotF c.1 E.length + _; omega
 ·show slotF c.1 E.length + slotF c.2.1 (min 3 (E.length - slotF c.1 E.length)) ≤ _; omega
 ·have : putsOf [cutE E c] = c.2.2.1.2.map lett := by simp [putsOf, cutE]
  rw [this]; exact hf
 ·rw [ha]; omega
theorem cut_ok {enc limit : Int} (he : known enc) : ∀ {l : List EdD} {E : List El}, (blen enc E : Int) + 4 * (putsOf l).length ≤ limit → OkC enc limit E (cutC E l) ∧ blen enc (playC E (cutC E l)) ≤ blen enc E + 4 * (putsOf l).length
 | [], E, _ => ⟨trivial, Nat.le_add_right _ _⟩
 | c :: l, E, hb => by
  have hp : (putsOf (c :: l)).length = c.2.2.1.2.length + (putsOf l).length := by simp [putsOf]
  rw [hp] at hb ⊢
  push_cast at hb
  obtain ⟨h1, h2⟩ := cut_okay (enc := enc) (limit := limit) (E := E) (c := c) he (by omega)
  obtain ⟨h3, h4⟩ := cut_ok (l := l) (E := allE E [cutE E c]) (limit := limit) he (by omega)
  refine ⟨⟨by show 1 ≤ 70000; decide, h1, h3⟩, ?_⟩
  show blen enc (playC (allE E [cutE E c]) (cutC _ l)) ≤ _
  omega
theorem cut_eff : ∀ {l : List EdD} {E : List El}, (∃ c ∈ l, c.2.2.1.2 ≠ []) → effC (cutC E l) = true
 | [], _, ⟨c, hc, _⟩ => by cases hc
 | d :: l, E, ⟨c, hc, hn⟩ => by
  show (([cutE E d]).any effE || effC (cutC _ l)) = true
  rcases List.mem_cons.1 hc with rfl | hc
  ·have : 0 < c.2.2.1.2.length := List.length_pos_iff.2 hn
   have : effE (cutE E c) = true := by unfold effE; simp [cutE, this]
   simp [this]
  ·rw [cut_eff ⟨c, hc, hn⟩]; simp
def Mo.mid (M : Mo) (cs : List (List EdD)) (bg : Int) : Mo := { M with now := some ⟨cs, bg, M.marks, M.watched⟩, marks := redoP (cs.map mvC') M.marks, watched := redoW (cs.map mvC') M.watched }
def Mo.grp (M : Mo) (cs : List (List EdD)) (bg en : Int) : Mo := if effC cs then (M.mid cs bg).keep ⟨cs, bg, M.marks, M.watched⟩ en else { M.mid cs bg with now := none }
theorem redoP_snoc (l : List (List MvD)) (m : List MvD) (ms : MkL) : redoP (l ++ [m]) ms = folP m (redoP l ms) := by simp [redoP]
theorem redoW_snoc (l : List (List MvD)) (m : List MvD) (ms : List Int) : redoW (l ++ [m]) ms = folW m (redoW l ms) := by simp [redoW]
theorem Mo.mid_chg (M : Mo) (cs : List (List EdD)) (bg : Int) (es : List EdD) : (M.mid cs bg).chg ⟨cs, bg, M.marks, M.watched⟩ es = M.mid (cs ++ [es.map strip]) bg := by
 unfold Mo.chg Mo.mid
 simp only [List.map_append, List.map_singleton, redoP_snoc, redoW_snoc, strip_mv]
end Go.Sw.Hist

set_option linter.unusedVariables false
set_option linter.unusedSimpArgs false
set_option maxRecDepth 100000
namespace Go.Sw.Hist
open Go.Sw.Any Go.Sw.Codec Go.Sw.Piece
variable {P : Program} {S : Ids} {h : Heap} {Q : Nat → List Value → Heap → Prop} {n k : Nat} {rho : Nat → Nat} {X : Bk}
theorem v_Len {M : Mo} {N : Nat} (r : BookR S n h rho k X) (i : Inv X M N) : Gives P (F_Text_Len S (some X.T.p)) [.one (.int .i64)] h fun (y : Int × Unit) _ => y.1 = M.E.length :=
 (c_Len r.t).mono fun y h' e hy => by rw [hy, i.lk.E]
theorem putsOf_snoc (c : EdD) (l : List EdD) : (putsOf (l ++ [c])).length = (putsOf l).length + c.2.2.1.2.length := by simp [putsOf]
theorem c_group (Me : Meth0 P S) (C : ClH P S) {M : Mo} {N : Nat} {x : Eds} {at_ : Int} (r : BookR S n h rho k X) (i : Inv X M N) (hn : M.now = none) (hx : ∀ h', Chg (fun i => k < rho i ∧ rho i ≤ k + 10) h h' → (Sh.list EdSh).ok h' x)
  (hw : (blen X.T.enc M.E : Int) + 4 * (putsOf x.2).length ≤ X.T.limit) (hN : N + x.2.length + (putsOf x.2).length + 1 ≤ 68719476736) :
  wp P (F_law7_group S (some X.b) x.1 at_) h fun tg vs h' => tg = 0 ∧ vs = [.bool true] ∧ ∃ bg en, BPost S n k X h rho h' (M.grp (cutC M.C x.2) bg en) (N + x.2.length + (putsOf x.2).length + 1) := by
 unfold F_law7_group
 have hE := Mo.E_shut hn
 have hlen := i.ok.len
 have hok := hx h (Chg.refl _ _)
 have hxl := hok.len
 have hxm : x.2.length < 2 ^ 63 := by have := hok.2.1; have := hok.2.2.1; omega
 refine wp_call (c_BText r) fun ⟨(p : Option Addr), _⟩ h1 e1 hp => ?_
 have hp : p = some X.T.p := hp
 subst hp
 dsimp only
 have st1 := StepR.ofExt (k := k) (rho := rho) e1
 have r1 := r.zr e1
 refine wp_call (v_Len r1 i) fun ⟨(L : Int), _⟩ h2 e2 hL => ?_
 have hL : L = M.E.length := hL
 subst hL
 dsimp only
 have st2 := st1.trans (StepR.ofExt e2)
 have r2 := r1.zr e2
 refine wp_call (c_slot (i := at_) (n := M.E.length) (by omega) (by omega)) fun ⟨(bg : Int), _⟩ h3 e3 hbg => ?_
 have hbg : bg = slotF at_ M.E.length := hbg
 subst hbg
 dsimp only
 have st3 := st2.trans (StepR.ofExt e3)
 have r3 := r2.zr e3
 have hin := slot_in (i := at_) (n := M.E.length) (by omega)
 refine wp_callW (v_Begin (a := slotF at_ M.E.length) r3 i (by omega)) fun tg vs h4 hq => ?_
 obtain ⟨rfl, rfl, rho4, X4, st4, r4, i4, sm4⟩ := hq
 have hb : M.beginR (slotF at_ M.E.length) = (0, M.mid [] (slotF at_ M.E.length)) := by
  unfold Mo.beginR
  rw [hn, if_neg (by decide), if_pos (show M.ins (slotF at_ M.E.length) from hin)]
  rfl
 rw [hb] at i4 ⊢
 have st4 := st3.trans st4
 clear r1 r2 r3 st1 st2 st3
 refine ⟨rfl, (0, ()), rfl, ?_⟩
 refine wp_call (c_num7) fun ⟨(y : Int), _⟩ h5 e5 hy => ?_
 have hy : y = 0 := hy
 subst hy
 refine wp_ifB (fun hc => by cases hc) fun _ => ?_
 have st5 := st4.trans (StepR.ofExt e5)
 have r5 := r4.zr e5
 generalize hbg : slotF at_ M.E.length = bg at i4 ⊢
 have hnl : natI x.1.len = (x.2.length : Int) := by rw [natI_def, hxl]
 rw [hnl]
 refine wp_while (fun (s : Int × Unit) h' => ∃ j : Nat, s.1 = j ∧ j ≤ x.2.length ∧ ∃ rho' X', StepR k h rho h' rho' ∧ BookR S n h' rho' k X' ∧ Inv X' (M.mid (cutC M.C (x.2.take j)) bg) (N + j + (putsOf (x.2.take j)).length) ∧ Sm X X') (fun s _ => ((x.2.length : Int) - s.1).toNat)
  (fun t vs h' => t = 2 ∧ vs = [] ∧ ∃ rho' X', StepR k h rho h' rho' ∧ BookR S n h' rho' k X' ∧ Inv X' (M.mid (cutC M.C x.2) bg) (N + x.2.length + (putsOf x.2).length) ∧ Sm X X')
  ⟨0, rfl, Nat.zero_le _, _, X4, st5, r5, by simpa [putsOf, cutC] using i4, sm4⟩ ?_ ?_
 ·rintro ⟨(s : Int), u⟩ h6 ⟨j, hs, hj, rho6, X6, st6, r6, i6, sm6⟩
  dsimp only at hs ⊢
  subst hs
  refine wp_ifB (fun hc => ?_) fun hc => ?_
  ·rw [ltI_iff] at hc
   have hjl : j < x.2.length := by omega
   obtain ⟨c, hcj⟩ : ∃ c, x.2[j]? = some c := ⟨x.2[j], List.getElem?_eq_getElem hjl⟩
   have hok6 := hx h6 st6.c
   have htk : x.2.take (j + 1) = x.2.take j ++ [c] := by rw [List.take_add_one, hcj]; rfl
   have hple : (putsOf (x.2.take j)).length + c.2.2.1.2.length ≤ (putsOf x.2).length := by
    have h1 := putsOf_le x.2 (j + 1)
    rw [htk, putsOf_snoc] at h1; exact h1
   have hcut := cut_ok (enc := X.T.enc) (limit := X.T.limit) i.ok.en (l := x.2.take j) (E := M.C) (by rw [hE] at hw; omega)
   have hE6 : (M.mid (cutC M.C (x.2.take j)) bg).E = playC M.C (cutC M.C (x.2.take j)) := rfl
   generalize hEE : playC M.C (cutC M.C (x.2.take j)) = E at hE6 hcut
   have l6 := i6.ok.len
   rw [hE6] at l6
   refine s_atSh (e := EdSh) (x := x) (y := c) hok6 (by omega) (by simpa using hcj) rfl (z := (c.1, c.2.1, c.2.2.1.1, ())) rfl ?_
   dsimp only
   rw [← sm6.p]
   refine wp_call (v_Len r6 i6) fun ⟨(L : Int), _⟩ h7 e7 hL => ?_
   have hL : L = E.length := by rw [← hE6]; exact hL
   subst hL
   dsimp only
   refine s_ckSh (e := EdSh) (x := x) (y := c) (hok6.ext e7) (by omega) (by simpa using hcj) rfl rfl ?_
   have hcl : Lst .i64 h7 c.2.2.1.1 c.2.2.1.2 := Sh.lst (Sh.ok.ext e7 (hok6.el hcj).2.2.1)
   refine wp_call (c_edit7 (c1 := c.1) (c2 := c.2.1) (n := E.length) hcl (by omega) (by omega) (by omega)) fun ⟨⟨(f : Int), (t : Int), (w : Sl), _⟩, _⟩ h8 e8 hy => ?_
   obtain ⟨hf, ht, ow⟩ := hy
   have hf : f = slotF c.1 E.length := hf
   have ht : t = slotF c.1 E.length + slotF c.2.1 (min 3 (E.length - slotF c.1 E.length)) := ht
   have ow : OwnL h7.size .i64 h8 w (c.2.2.1.2.map lett) := ow
   dsimp only
   have e68 := e7.trans e8
   have r8 := r6.zr e68
   have hstrip : [((f, t, (w, c.2.2.1.2.map lett), ()) : EdD)].map strip = [cutE E c] := by rw [hf, ht]; rfl
   have hok8 : Okay X6.T.enc X6.T.limit (M.mid (cutC M.C (x.2.take j)) bg).E [((f, t, (w, c.2.2.1.2.map lett), ()) : EdD)] := by
    rw [← strip_okay, hstrip, sm6.enc, sm6.limit, hE6]
    refine (cut_okay i.ok.en ?_).1
    have h1 := hcut.2
    rw [hE] at hw
    omega
   rw [← sm6.b]
   refine s_change1 Me (q := ⟨cutC M.C (x.2.take j), bg, M.marks, M.watched⟩) r8 i6 rfl ow (fun a ha => ?_) hok8 (by rw [List.length_map]; omega) fun h9 rho9 X9 st9 r9 i9 sm9 => ?_
   ·have := (ow.own.lt ha).1
    rw [zr_new (by have := e7.1; omega)]; omega
   rw [Mo.mid_chg, hstrip, List.length_map] at i9
   dsimp only
   refine wp_call (c_num7) fun ⟨(y : Int), _⟩ h10 e10 hy => ?_
   have hy : y = 0 := hy
   subst hy
   refine wp_ifB (fun hc => by cases hc) fun _ => ?_
   rw [add_ok (by omega) (by omega)]
   refine s_ret ⟨fun _ => ⟨((j : Int) + 1, ()), rfl, ⟨j + 1, by push_cast; rfl, by omega, _, X9, (((st6.trans (StepR.ofExt e68)).trans st9).trans (StepR.ofExt e10)), r9.zr e10, ?_, sm6.trans sm9⟩, by dsimp only; omega⟩, fun hh => absurd rfl hh⟩
   rw [htk, cutC_snoc, hEE, putsOf_snoc]
   exact i9.mono (by omega)
  ·rw [ltI_not] at hc
   have hj : j = x.2.length := by omega
   subst hj
   rw [List.take_length] at i6
   exact s_ret ⟨fun hh => absurd hh (by decide), fun _ => ⟨rfl, rfl, rho6, X6, st6, r6, i6, sm6⟩⟩
 ·rintro tg vs h6 ⟨rfl, rfl, rho6, X6, st6, r6, i6, sm6⟩
  refine s_tag (s_cast0 ?_)
  have l6 := i6.ok.len
  generalize hME : (M.mid (cutC M.C x.2) bg).E.length = L at l6
  rw [← sm6.p]
  refine wp_call (v_Len r6 i6) fun ⟨(L' : Int), _⟩ h7 e7 hL => ?_
  have hL : L' = L := by rw [← hME]; exact hL
  subst hL
  dsimp only
  refine wp_call (c_slot (i := at_) (n := L) (by omega) (by omega)) fun ⟨(en : Int), _⟩ h8 e8 hen => ?_
  have hen : en = slotF at_ L := hen
  have hin := slot_in (i := at_) (n := L) (by omega)
  rw [← hen] at hin
  dsimp only
  have e68 := e7.trans e8
  rw [← sm6.b]
  refine wp_callW (v_End C (a := en) (r6.zr e68) i6 (by omega)) fun tg vs h9 hq => ?_
  have hend : (M.mid (cutC M.C x.2) bg).endR en = (0, M.grp (cutC M.C x.2) bg en) := by
   show (if (M.mid (cutC M.C x.2) bg).ins en then ((0 : Int), if effC (cutC M.C x.2) then (M.mid (cutC M.C x.2) bg).keep ⟨cutC M.C x.2, bg, M.marks, M.watched⟩ en else { M.mid (cutC M.C x.2) bg with now := none }) else (2, M.mid (cutC M.C x.2) bg)) = _
   rw [if_pos (by unfold Mo.ins; rw [hME]; exact hin)]
   rfl
  rw [hend] at hq
  obtain ⟨rfl, rfl, rho9, X9, st9, r9, i9, sm9⟩ := hq
  refine ⟨rfl, (0, ()), rfl, wp_call (c_num7) fun ⟨(y : Int), _⟩ h10 e10 hy => ?_⟩
  have hy : y = 0 := hy
  subst hy
  exact s_ret ⟨rfl, rfl, bg, en, _, X9, ((st6.trans (StepR.ofExt e68)).trans st9).trans (StepR.ofExt e10), r9.zr e10, i9, sm6.trans sm9⟩
end Go.Sw.Hist

set_option linter.unusedVariables false
set_option linter.unusedSimpArgs false
set_option maxRecDepth 100000
namespace Go.Sw.Hist
open Go.Sw.Any Go.Sw.Codec Go.Sw.Piece
variable {P : Program} {S : Ids} {h : Heap} {Q : Nat → List Value → Heap → Prop} {n k : Nat} {rho : Nat → Nat} {X : Bk}
def Mo.new (E : List El) (depth : Int) : Mo := { E0 := E, depth := depth, lost := [], done := [], next := [], now := none, marks := [], watched := [], saved := 0, last := 0 }
theorem new_inv {depth : Int} {T : TX} (t : TextR S n h T) (nb : NewB depth T X) (A : T.A = []) (hb : (bytesL T.cur.ps).length ≤ T.limit) (hd : 1 ≤ depth ∧ depth ≤ 200) : Inv X (Mo.new (els T.enc T.cur.ps) depth) 0 := by
 have hT := nb.T
 have h1 := blen_state t.cur t.enc
 have h2 := (toksL_els t.enc t.cur.bytes).2.2
 have oe : OkE T.enc T.limit (els T.enc T.cur.ps) := ⟨h2, by rw [h1]; omega⟩
 have hlim := t.lim
 refine ⟨?_, ?_⟩
 ·rw [hT]
  exact ⟨t.enc, hlim, hd, oe, trivial, trivial, Int.le_refl _, fun g hg => (by cases hg), List.Pairwise.nil, fun e he => (by cases he), List.Pairwise.nil, Nat.le_refl _, fun v hv => (by cases hv), Nat.le_refl _, fun q hq => (by cases hq), Nat.le_refl _⟩
 ·have hU := nb.U; have hR := nb.R
  refine ⟨by rw [hT]; rfl, ?_, ?_, ?_, ?_, nb.ws, nb.nums.1, nb.nums.2.1, nb.nums.2.2, nb.depth, by rw [hT, A]; exact Nat.zero_le _⟩
  ·rw [hU]; exact .nil _ _
  ·rw [hR]; exact .nil _ _
  ·rw [nb.now]; trivial
  ·rw [nb.ms]; exact List.Perm.refl _
theorem Book7.inv {h0 : Heap} {enc depth : Int} {l : List Int} (b : Book7 S h0 h enc depth l X) (r : BookR S n h rho k X) (hl : l.length ≤ 60000) (hd : 1 ≤ depth ∧ depth ≤ 200) : Inv X (Mo.new (elsF 0 0 (toks enc l)) depth) 0 := by
 have := new_inv r.t b.new b.A (by rw [b.bytes, b.li]; omega) hd
 have e : els X.T.enc X.T.cur.ps = elsF 0 0 (toks enc l) := by rw [b.en]; exact b.el
 rw [e] at this; exact this
abbrev Edss := Sl × List Eds
abbrev EdssSh : Sh := .list (.list EdSh)
theorem s_ldEs {x : Edss} {y : Eds} {i : Nat} {K : Sl → Prog} (ok : EdssSh.ok h x) (hy : x.2[i]? = some y) (hk : wp P (K y.1) h Q) :
  wp P (grd (andB (someB x.1.base) (inB (i : Int) x.1.len)) <| .load (.one .sl) (shiftTo x.1.base (mulN (toN (i : Int)) 1)) K) h Q := by
 obtain ⟨o1, o2, o3, o4⟩ := ok
 obtain ⟨a, ea, c, _⟩ := o4 i y hy
 have hlt := (List.getElem?_eq_some_iff.1 hy).1
 refine wp_grd (andB_iff.2 ⟨by rw [ea]; rfl, inB_is.2 ⟨by omega, by omega⟩⟩) ?_
 rw [mulN_def, toN_def, Int.toNat_natCast, ea]
 exact wp_load1 (a.add (i * 1)) y.1 rfl (by have := cells_iff.1 c 0 _ rfl; rw [add_zero'] at this; exact this) hk
def szG (gs : List Eds) : Nat := (gs.map fun g => g.2.length + (putsOf g.2).length).sum
theorem szG_take {gs : List Eds} {g : Eds} {i : Nat} (hi : gs[i]? = some g) : szG (gs.take (i + 1)) = szG (gs.take i) + (g.2.length + (putsOf g.2).length) := by
 rw [List.take_add_one, hi]; simp [szG]
theorem szG_le (gs : List Eds) (i : Nat) : szG (gs.take i) ≤ szG gs := sum_take_le (fun g : Eds => g.2.length + (putsOf g.2).length) gs i
theorem szG_mem {gs : List Eds} {g : Eds} (hg : g ∈ gs) : g.2.length + (putsOf g.2).length ≤ szG gs := sum_mem_le (fun g : Eds => g.2.length + (putsOf g.2).length) hg
theorem szG_wt (x : Edss) : szG x.2 ≤ 2 * EdssSh.wt x ∧ x.2.length ≤ EdssSh.wt x := by
 have e : EdssSh.wt x = (x.2.map (Sh.list EdSh).wt).sum + 1 := rfl
 have h1 := sum_le_sum (fun y : Eds => y.2.length) (Sh.list EdSh).wt x.2 fun y _ => (eds_wt y).1
 have h2 := sum_le_sum (fun y : Eds => (putsOf y.2).length) (Sh.list EdSh).wt x.2 fun y _ => (eds_wt y).2.1
 have h3 : szG x.2 = (x.2.map fun y : Eds => y.2.length).sum + (x.2.map fun y : Eds => (putsOf y.2).length).sum := by
  unfold szG
  generalize x.2 = l
  induction l with
  | nil => rfl
  | cons y l ih => simp only [List.map_cons, List.sum_cons, ih]; omega
 have h4 : x.2.length + 1 ≤ EdssSh.wt x := Sh.wt_len (e := Sh.list EdSh) x fun y => by show 1 ≤ (y.2.map EdSh.wt).sum + 1; omega
 exact ⟨by omega, by omega⟩
theorem c_short {b : Sl} {l : List Int} {x : Edss} (hb : b.len = l.length) (hl : l.length < 2 ^ 62) (ok : EdssSh.ok h x) (hx : szG x.2 ≤ 1073741824) (hxl : x.2.length ≤ 1073741824) :
  Gives P (F_law7_short S b x.1) [.one .bool] h fun (y : Bool × Unit) _ => y.1 = true ↔ l.length + szG x.2 ≤ 8000 ∧ x.2.length ≤ 190 := by
 unfold F_law7_short Gives
 have hlen := ok.len
 have hn : natI x.1.len = (x.2.length : Int) := by rw [natI_def, hlen]
 rw [hn, natI_def, hb]
 refine wp_while (fun (s : Int × Int × Unit) h' => Ext h h' ∧ ∃ i : Nat, s.2.1 = i ∧ i ≤ x.2.length ∧ s.1 = (l.length + szG (x.2.take i) : Nat)) (fun s _ => ((x.2.length : Int) - s.2.1).toNat)
  (fun t vs h' => t = 2 ∧ Ext h h' ∧ vs = [i64v ((l.length + szG x.2 : Nat) : Int)]) ⟨Ext.refl _, 0, rfl, Nat.zero_le _, by simp [szG]⟩ ?_ ?_
 ·rintro ⟨(m : Int), (i' : Int), u⟩ h1 ⟨e1, i, hi, hil, hm⟩
  dsimp only at hi hm ⊢
  subst hi; subst hm
  refine wp_ifB (fun hc => ?_) fun hc => ?_
  ·rw [ltI_iff] at hc
   have hlt : i < x.2.length := by omega
   obtain ⟨g, hg⟩ : ∃ g, x.2[i]? = some g := ⟨x.2[i], List.getElem?_eq_getElem hlt⟩
   have ok1 := ok.ext e1
   have okg := ok1.el hg
   have hgl := okg.len
   have hgs := szG_mem (List.mem_of_getElem? hg)
   have htl := szG_le x.2 i
   refine s_ldEs ok1 hg ?_
   rw [natI_def, hgl, add_ok (by omega) (by omega)]
   refine wp_while (fun (s : Int × Int × Unit) h' => Ext h h' ∧ ∃ j : Nat, s.2.1 = j ∧ j ≤ g.2.length ∧ s.1 = (l.length + szG (x.2.take i) + g.2.length + (putsOf (g.2.take j)).length : Nat)) (fun s _ => ((g.2.length : Int) - s.2.1).toNat)
    (fun t vs h' => t = 4 ∧ Ext h h' ∧ vs = [i64v ((l.length + szG (x.2.take (i + 1)) : Nat) : Int)]) ⟨e1, 0, rfl, Nat.zero_le _, by simp [putsOf]⟩ ?_ ?_
   ·rintro ⟨(m : Int), (j' : Int), u⟩ h2 ⟨e2, j, hj, hjl, hm⟩
    dsimp only at hj hm ⊢
    subst hj; subst hm
    have ok2 := ok.ext e2
    have okg2 := ok2.el hg
    refine s_ldEs ok2 hg (wp_ifB (fun hd => s_ldEs ok2 hg ?_) fun hd => ?_)
    ·rw [ltI_iff, natI_def, hgl] at hd
     have hjt : j < g.2.length := by omega
     obtain ⟨c, hc⟩ : ∃ c, g.2[j]? = some c := ⟨g.2[j], List.getElem?_eq_getElem hjt⟩
     have htk : g.2.take (j + 1) = g.2.take j ++ [c] := by rw [List.take_add_one, hc]; rfl
     have hple := putsOf_le g.2 (j + 1)
     rw [htk, putsOf_snoc] at hple
     have hcl := (okg2.el hc).2.2.1.len
     refine s_fieldSh (e := EdSh) (b := .sl) (y := c) (z := c.2.2.1.1) okg2 (by omega) (by simpa using hc) rfl rfl ?_
     have hcl : c.2.2.1.1.len = c.2.2.1.2.length := hcl
     rw [natI_def, hcl, add_ok (by omega) (by omega), add_ok (by omega) (by omega)]
     exact s_ret ⟨fun _ => ⟨(_, (j : Int) + 1, ()), rfl, ⟨e2, j + 1, by push_cast; rfl, by omega, by rw [htk, putsOf_snoc]; push_cast; omega⟩, by dsimp only; omega⟩, fun hh => absurd rfl hh⟩
    ·rw [ltI_not, natI_def, hgl] at hd
     have hj : j = g.2.length := by omega
     subst hj
     refine s_ret ⟨fun hh => absurd hh (by decide), fun _ => ⟨rfl, e2, ?_⟩⟩
     rw [szG_take hg, List.take_length]
     congr 2
     push_cast; omega
   ·rintro t vs h2 ⟨rfl, e2, rfl⟩
    refine s_tag (s_castI ?_)
    rw [add_ok (by omega) (by omega)]
    exact s_ret ⟨fun _ => ⟨(_, (i : Int) + 1, ()), rfl, ⟨e2, i + 1, by push_cast; rfl, by omega, rfl⟩, by dsimp only; omega⟩, fun hh => absurd rfl hh⟩
  ·rw [ltI_not] at hc
   have hi : i = x.2.length := by omega
   subst hi
   refine s_ret ⟨fun hh => absurd hh (by decide), fun _ => ⟨rfl, e1, ?_⟩⟩
   rw [List.take_length]
 ·rintro t vs h1 ⟨rfl, e1, rfl⟩
  refine s_tag (s_castI ?_)
  refine bind_bool (l.length + szG x.2 ≤ 8000 ∧ x.2.length ≤ 190) (wp_ifB (fun hc => s_ret ⟨rfl, Ext.refl _, _, rfl, ?_⟩) fun hc => s_ret ⟨rfl, Ext.refl _, false, rfl, ?_⟩) fun bb h2 e2 hbb => s_ret ⟨rfl, e1.trans e2, (bb, ()), rfl, hbb⟩
  ·rw [leI_iff] at hc
   rw [leI_iff]
   dsimp only at hc
   constructor
   ·intro h2; exact ⟨by omega, by omega⟩
   ·intro h2; omega
  ·rw [leI_not] at hc
   dsimp only at hc
   exact ⟨fun h2 => (by cases h2), fun h2 => by omega⟩
end Go.Sw.Hist

set_option linter.unusedVariables false
set_option linter.unusedSimpArgs false
set_option maxRecDepth 100000
namespace Go.Sw.Hist
open Go.Sw.Any Go.Sw.Codec Go.Sw.Piece
variable {P : Program} {S : Ids} {h : Heap} {Q : Nat → List Value → Heap → Prop} {n k : Nat} {rho : Nat → Nat} {X : Bk}
structure Wid where
 n : Nat
 h0 : Heap
 b : Addr
 p : Addr
 enc : Int
 limit : Int
def Wd (S : Ids) (w : Wid) (h : Heap) (M : Mo) (N : Nat) : Prop :=
 ∃ rho X, StepR 0 w.h0 (fun _ => 0) h rho ∧ BookR S w.n h rho 0 X ∧ Inv X M N ∧ X.b = w.b ∧ X.T.p = w.p ∧ X.T.enc = w.enc ∧ X.T.limit = w.limit
variable {w : Wid} {M : Mo} {N : Nat}
theorem step_ext {h0 : Heap} {rho : Nat → Nat} (st : StepR 0 h0 (fun _ => 0) h rho) : Ext h0 h := ⟨st.c.1, fun i hi => st.c.2.1 i hi fun ⟨a, _⟩ => absurd a (Nat.lt_irrefl 0), st.c.2.2⟩
theorem Wd.e (d : Wd S w h M N) : Ext w.h0 h := let ⟨_, _, st, _⟩ := d; step_ext st
theorem Wd.ok (d : Wd S w h M N) : MoOk w.enc w.limit M N := by
 obtain ⟨rho, X, st, r, i, e1, e2, e3, e4⟩ := d
 rw [← e3, ← e4]; exact i.ok
theorem Wd.ext {h' : Heap} (d : Wd S w h M N) (e : Ext h h') : Wd S w h' M N := by
 obtain ⟨rho, X, st, r, i, e1⟩ := d
 exact ⟨_, X, st.trans (StepR.ofExt e), r.zr e, i, e1⟩
theorem Wd.mono {N' : Nat} (d : Wd S w h M N) (hN : N ≤ N') : Wd S w h M N' := by
 obtain ⟨rho, X, st, r, i, e1⟩ := d
 exact ⟨rho, X, st, r, i.mono hN, e1⟩
theorem Wd.of {h' : Heap} {M' : Mo} {N' : Nat} {rho : Nat → Nat} {X : Bk} (st : StepR 0 w.h0 (fun _ => 0) h rho) (he : X.b = w.b ∧ X.T.p = w.p ∧ X.T.enc = w.enc ∧ X.T.limit = w.limit) (b : BPost S w.n 0 X h rho h' M' N') : Wd S w h' M' N' := by
 obtain ⟨rho', X', st', r', i', sm⟩ := b
 exact ⟨rho', X', st.trans st', r', i', sm.b.trans he.1, sm.p.trans he.2.1, sm.enc.trans he.2.2.1, sm.limit.trans he.2.2.2⟩
theorem w_Undo (d : Wd S w h M N) (hN : N ≤ 68719476736) : wp P (F_Book_Undo S (some w.b)) h fun tg vs h' => tg = 0 ∧ vs = [i64v M.undoR.1, i64v M.undoR.2.1] ∧ Wd S w h' M.undoR.2.2 N := by
 obtain ⟨rho, X, st, r, i, e1⟩ := d
 rw [← e1.1]
 exact wp_mono _ (fun tg vs h' ⟨h1, h2, h3⟩ => ⟨h1, h2, Wd.of st e1 h3⟩) (v_Undo r i hN)
theorem w_Redo (d : Wd S w h M N) (hN : N ≤ 68719476736) : wp P (F_Book_Redo S (some w.b)) h fun tg vs h' => tg = 0 ∧ vs = [i64v M.redoR.1, i64v M.redoR.2.1] ∧ Wd S w h' M.redoR.2.2 N := by
 obtain ⟨rho, X, st, r, i, e1⟩ := d
 rw [← e1.1]
 exact wp_mono _ (fun tg vs h' ⟨h1, h2, h3⟩ => ⟨h1, h2, Wd.of st e1 h3⟩) (v_Redo r i hN)
theorem w_Saved (d : Wd S w h M N) : wp P (F_Book_Saved S (some w.b)) h fun tg vs h' => tg = 0 ∧ vs = [] ∧ Wd S w h' M.save N := by
 obtain ⟨rho, X, st, r, i, e1⟩ := d
 rw [← e1.1]
 exact wp_mono _ (fun tg vs h' ⟨h1, h2, h3⟩ => ⟨h1, h2, Wd.of st e1 h3⟩) (v_Saved r i)
theorem w_Dirty (d : Wd S w h M N) : Gives P (F_Book_Dirty S (some w.b)) [.one .bool] h fun (y : Bool × Unit) h' => y.1 = M.dirty ∧ Wd S w h' M N := by
 have d0 := d
 obtain ⟨rho, X, st, r, i, e1⟩ := d
 rw [← e1.1]
 exact (v_Dirty r i).mono fun y h' e hy => ⟨hy, d0.ext e⟩
theorem w_Depth (d : Wd S w h M N) : Gives P (F_Book_Depth S (some w.b)) [.one (.int .i64), .one (.int .i64)] h fun (y : Int × Int × Unit) h' => (y.1 = M.done.length ∧ y.2.1 = M.next.length) ∧ Wd S w h' M N := by
 have d0 := d
 obtain ⟨rho, X, st, r, i, e1⟩ := d
 rw [← e1.1]
 exact (v_Depth r i).mono fun y h' e hy => ⟨hy, d0.ext e⟩
theorem w_group (Me : Meth0 P S) (C : ClH P S) {x : Eds} {at_ : Int} (d : Wd S w h M N) (hn : M.now = none) (hx : (Sh.list EdSh).ok w.h0 x) (hw : (blen w.enc M.E : Int) + 4 * (putsOf x.2).length ≤ w.limit) (hN : N + x.2.length + (putsOf x.2).length + 1 ≤ 68719476736) :
  wp P (F_law7_group S (some w.b) x.1 at_) h fun tg vs h' => tg = 0 ∧ vs = [.bool true] ∧ ∃ bg en, Wd S w h' (M.grp (cutC M.C x.2) bg en) (N + x.2.length + (putsOf x.2).length + 1) := by
 obtain ⟨rho, X, st, r, i, e1⟩ := d
 rw [← e1.1]
 refine wp_mono _ (fun tg vs h' ⟨h1, h2, bg, en, h3⟩ => ⟨h1, h2, bg, en, Wd.of st e1 h3⟩) (c_group Me C r i hn (fun h' c => hx.ext ?_) (by rw [e1.2.2.1, e1.2.2.2]; exact hw) hN)
 have hz : ∀ i, i < w.h0.size → rho i = 0 := fun i hi => st.old i hi (.inl (Nat.le_refl 0))
 have := st.c.trans c fun i hi hr => by rw [hz i hi] at hr; omega
 exact ⟨this.1, fun i hi => this.2.1 i hi fun ⟨a, _⟩ => absurd a (Nat.lt_irrefl 0), this.2.2⟩
theorem w_one (Me : Meth0 P S) (C : ClH P S) {a at_ : Int} (d : Wd S w h M N) (hn : M.now = none) (hf : fitsI .i64 a) (hw : (blen w.enc M.E : Int) + 4 ≤ w.limit) (hN : N + 3 ≤ 68719476736) {K : Bool × Unit → Prog}
  (hk : ∀ h' bg en s, Wd S w h' (M.grp (cutC M.C [((0, 0, (s, [a]), ()) : EdD)]) bg en) (N + 3) → wp P (K (true, ())) h' Q) :
  wp P (.alloc [i64v a] fun a1 => .alloc [i64v 0, i64v 0, .slice (some a1) 1 1] fun a2 => .call (F_law7_group S (some w.b) ⟨some a2, 1, 1⟩ at_) [.one .bool] K) h Q := by
 refine s_allocL (k := .i64) [a] (by intro x hx; rw [List.mem_singleton.1 hx]; exact hf) (by simp) fun h1 e1 o1 => fun el => ?_
 have e2 : Ext h1 (h1.push (.cells [i64v 0, i64v 0, .slice (some ⟨h.size, 0, none⟩) 1 1].toArray el)) := Ext.push ..
 have o2 : Own h1.size 1 (h1.push (.cells [i64v 0, i64v 0, .slice (some ⟨h.size, 0, none⟩) 1 1].toArray el)) ⟨some ⟨h1.size, 0, none⟩, 3, 3⟩ [i64v 0, i64v 0, .slice (some ⟨h.size, 0, none⟩) 1 1] := own_alloc rfl (by decide) (by decide)
 generalize h1.push (.cells [i64v 0, i64v 0, .slice (some ⟨h.size, 0, none⟩) 1 1].toArray el) = h2 at e2 o2 ⊢
 obtain ⟨rho, X, st, r, i, q1⟩ := d
 have e02 := e1.trans e2
 have r2 := r.zr e02
 have st2 := st.trans (StepR.ofExt e02)
 have o12 := (Chg.of_ext (F := fun _ => False) e2).ownL o1 fun _ _ x => x
 have hs1 := e1.1
 rw [← q1.1]
 refine wp_callW (c_group Me C (x := (⟨some ⟨h1.size, 0, none⟩, 1, 1⟩, [((0, 0, (⟨some ⟨h.size, 0, none⟩, 1, 1⟩, [a]), ()) : EdD)])) r2 i hn (fun h' c => ?_) (by rw [q1.2.2.1, q1.2.2.2]; simpa [putsOf] using hw) (by simp [putsOf]; omega)) fun tg vs h3 hq => ?_
 ·refine ok_edit (c.ownL o12 fun y hy hf => ?_).lst (c.own o2 fun y hy hf => ?_) (fits_zero _) (fits_zero _)
  ·cases hy
   have h0 : Hist.zr h rho h.size = 0 := zr_new (Nat.le_refl _)
   dsimp only at hf; omega
  ·cases hy
   have h0 : Hist.zr h rho h1.size = 0 := zr_new hs1
   dsimp only at hf; omega
 ·obtain ⟨rfl, rfl, bg, en, b⟩ := hq
  refine ⟨rfl, (true, ()), rfl, hk h3 bg en _ ((Wd.of st2 q1 b).mono (by simp [putsOf]))⟩
theorem Mo.grp_no {cs : List (List EdD)} {bg en : Int} (he : effC cs = false) : M.grp cs bg en = { M.mid cs bg with now := none } := by unfold Mo.grp; rw [he]; rfl
theorem Mo.grp_yes {cs : List (List EdD)} {bg en : Int} (he : effC cs = true) : M.grp cs bg en = (M.mid cs bg).keep ⟨cs, bg, M.marks, M.watched⟩ en := by unfold Mo.grp; rw [he]; rfl
theorem Mo.grp_now {cs : List (List EdD)} {bg en : Int} : (M.grp cs bg en).now = none := by unfold Mo.grp; split <;> rfl
theorem Mo.grp_saved {cs : List (List EdD)} {bg en : Int} : (M.grp cs bg en).saved = M.saved := by unfold Mo.grp; split <;> rfl
theorem Mo.grp_E0 {cs : List (List EdD)} {bg en : Int} : (M.grp cs bg en).E0 = M.E0 := by unfold Mo.grp; split <;> rfl
theorem Mo.grp_depth {cs : List (List EdD)} {bg en : Int} : (M.grp cs bg en).depth = M.depth := by unfold Mo.grp; split <;> rfl
def WtG (enc : Int) (W : Nat) : List El → List GM → Prop
 | E, [] => blen enc E ≤ W
 | E, g :: l => blen enc E ≤ W ∧ WtG enc W (playC E g.chs) l
theorem WtG.head {enc : Int} {W : Nat} : ∀ {l : List GM} {E : List El}, WtG enc W E l → blen enc E ≤ W
 | [], _, h => h
 | _ :: _, _, h => h.1
theorem WtG.pre {enc : Int} {W : Nat} {m : List GM} : ∀ {l : List GM} {E : List El}, WtG enc W E (l ++ m) → WtG enc W E l ∧ WtG enc W (playG E l) m
 | [], _, h => ⟨h.head, h⟩
 | g :: l, E, ⟨h1, h2⟩ => ⟨⟨h1, (WtG.pre h2).1⟩, (WtG.pre (l := l) h2).2⟩
theorem WtG.mono {enc : Int} {W W' : Nat} (hW : W ≤ W') : ∀ {l : List GM} {E : List El}, WtG enc W E l → WtG enc W' E l
 | [], _, h => Nat.le_trans h hW
 | _ :: _, _, h => ⟨Nat.le_trans h.1 hW, WtG.mono hW h.2⟩
theorem WtG.snoc {enc : Int} {W : Nat} {g : GM} : ∀ {l : List GM} {E : List El}, WtG enc W E l → blen enc (playC (playG E l) g.chs) ≤ W → WtG enc W E (l ++ [g])
 | [], _, h, h2 => ⟨h, h2⟩
 | _ :: _, _, h, h2 => ⟨h.1, WtG.snoc h.2 h2⟩
theorem grp_wt {enc limit : Int} {W : Nat} {cuts : List EdD} {bg en : Int} (he : known enc) (hW : WtG enc W M.E0 M.all) (hl : (W : Int) + 4 * (putsOf cuts).length ≤ limit) :
  WtG enc (W + 4 * (putsOf cuts).length) (M.grp (cutC M.C cuts) bg en).E0 (M.grp (cutC M.C cuts) bg en).all := by
 rw [Mo.grp_E0]
 have hC : blen enc M.C ≤ W := hW.pre.2.head
 have hc := cut_ok (enc := enc) (limit := limit) he (l := cuts) (E := M.C) (by omega)
 cases hef : effC (cutC M.C cuts) with
 | false => rw [Mo.grp_no hef]; exact hW.mono (Nat.le_add_right _ _)
 | true =>
  rw [Mo.grp_yes hef, Mo.keep_all]
  refine (hW.pre.1.mono (Nat.le_add_right _ _)).snoc ?_
  have h2 := hc.2
  show blen enc (playC M.C (cutC M.C cuts)) ≤ _
  omega
end Go.Sw.Hist

set_option linter.unusedVariables false
set_option linter.unusedSimpArgs false
set_option maxRecDepth 100000
namespace Go.Sw.Hist
open Go.Sw.Any Go.Sw.Codec Go.Sw.Piece
variable {P : Program} {S : Ids} {h : Heap} {Q : Nat → List Value → Heap → Prop} {w : Wid} {M : Mo} {N : Nat}
theorem stG_take {full : List GM} (hp : ∀ g ∈ full, 0 < g.st) (p : full.Pairwise fun a b => a.st < b.st) {i j : Nat} (hij : i < j) (hj : j ≤ full.length) : stG 0 (full.take i) < stG 0 (full.take j) := by
 have key : ∀ m, m < full.length → ∀ hm : m < full.length, stG 0 (full.take (m + 1)) = (full[m]).st := fun m _ hm => by
  rw [List.take_add_one, List.getElem?_eq_getElem hm, Option.toList_some, stG_snoc]
 obtain ⟨j', rfl⟩ : ∃ j', j = j' + 1 := ⟨j - 1, by omega⟩
 rw [key j' (by omega) (by omega)]
 cases i with
 | zero => exact hp _ (List.getElem_mem _)
 | succ i =>
  rw [key i (by omega) (by omega)]
  exact (List.pairwise_iff_getElem.1 p) i j' (by omega) (by omega) (by omega)
structure Und (full : List GM) (gone : Nat) (M : Mo) : Prop where
 now : M.now = none
 lost : M.lost = []
 done : M.done = full.take (full.length - gone)
 next : M.next = full.drop (full.length - gone)
 sv : M.saved = stG 0 (full.take (full.length - 1))
 le : gone ≤ full.length
theorem Und.all {full : List GM} {gone : Nat} (u : Und full gone M) : M.all = full := by unfold Mo.all; rw [u.lost, u.done, u.next, List.nil_append, List.take_append_drop]
theorem Und.dirty {enc limit : Int} {full : List GM} {gone : Nat} (u : Und full gone M) (o : MoOk enc limit M N) (h1 : 1 ≤ full.length) : M.dirty = decide (gone ≠ 1) := by
 have hst : M.st = stG 0 (full.take (full.length - gone)) := by unfold Mo.st; rw [u.lost, u.done]; rfl
 have hp : ∀ g ∈ full, 0 < g.st := fun g hg => (o.nums g (by rw [u.all]; exact hg)).1
 have hm := o.mono
 rw [u.all] at hm
 unfold Mo.dirty
 rw [u.now, hst, u.sv]
 have hle := u.le
 by_cases hg : gone = 1
 ·subst hg; simp
 ·have hne : stG 0 (full.take (full.length - gone)) ≠ stG 0 (full.take (full.length - 1)) := by
   by_cases h0 : gone = 0
   ·have := stG_take hp hm (i := full.length - 1) (j := full.length - gone) (by omega) (by omega); omega
   ·have := stG_take hp hm (i := full.length - gone) (j := full.length - 1) (by omega) (by omega); omega
  simp [hne, hg]
theorem Und.undo {full : List GM} {gone : Nat} (u : Und full gone M) (hg : gone < full.length) : ∃ x M', M.undoR = (x, 0, M') ∧ Und full (gone + 1) M' ∧ M'.all = M.all ∧ M'.E0 = M.E0 ∧ M'.depth = M.depth := by
 obtain ⟨m, hm⟩ : ∃ m, full.length - gone = m + 1 := ⟨full.length - gone - 1, by omega⟩
 have hml : m < full.length := by omega
 have hd : M.done = full.take m ++ [full[m]] := by rw [u.done, hm, List.take_add_one, List.getElem?_eq_getElem hml]; rfl
 refine ⟨(full[m]).bg, M.back (full.take m) full[m], ?_, ⟨u.now, u.lost, ?_, ?_, u.sv, by omega⟩, Mo.back_all hd, rfl, rfl⟩
 ·unfold Mo.undoR; rw [u.now, if_neg (by decide), hd, lastG_snoc]
 ·show full.take m = _; congr 1; omega
 ·show full[m] :: M.next = _
  rw [u.next, hm, show full.length - (gone + 1) = m by omega, ← List.drop_eq_getElem_cons hml]
theorem Und.undone {full : List GM} (u : Und full full.length M) : M.undoR = (0, 72, M) := by
 have hd : M.done = [] := by rw [u.done, Nat.sub_self]; rfl
 unfold Mo.undoR; rw [u.now, if_neg (by decide), hd]; rfl
theorem Und.redo {full : List GM} {gone : Nat} (u : Und full (gone + 1) M) : ∃ x M', M.redoR = (x, 0, M') ∧ Und full gone M' ∧ M'.all = M.all ∧ M'.E0 = M.E0 ∧ M'.depth = M.depth := by
 have hle := u.le
 obtain ⟨m, hm⟩ : ∃ m, full.length - (gone + 1) = m := ⟨_, rfl⟩
 have hml : m < full.length := by omega
 have hn : M.next = full[m] :: full.drop (m + 1) := by rw [u.next, hm, List.drop_eq_getElem_cons hml]
 refine ⟨(full[m]).en, M.forth full[m] (full.drop (m + 1)), ?_, ⟨u.now, u.lost, ?_, ?_, u.sv, by omega⟩, Mo.forth_all hn, rfl, rfl⟩
 ·unfold Mo.redoR; rw [u.now, if_neg (by decide), hn]
 ·show M.done ++ [full[m]] = _
  rw [u.done, hm, show full.length - gone = m + 1 by omega, List.take_add_one, List.getElem?_eq_getElem hml]; rfl
 ·show full.drop (m + 1) = _; congr 1; omega
theorem grp_eff {cs : List (List EdD)} {bg en : Int} (hd : (M.done.length : Int) + 1 ≤ M.depth) (he : effC cs = true) : ∃ g : GM, g.chs = cs ∧ g.st = M.last + 1 ∧ (M.grp cs bg en).lost = M.lost ∧ (M.grp cs bg en).done = M.done ++ [g] ∧ (M.grp cs bg en).next = [] ∧ (M.grp cs bg en).last = M.last + 1 := by
 rw [Mo.grp_yes he]
 unfold Mo.keep Mo.mid
 dsimp only
 rw [if_neg (by omega), if_neg (by omega)]
 exact ⟨_, rfl, rfl, rfl, rfl, rfl, rfl⟩
theorem dirty_shut (hn : M.now = none) : M.dirty = decide (M.st ≠ M.saved) := by unfold Mo.dirty; rw [hn]; simp
theorem dirt_ok {d : Bool} {a : Int} {g : Nat} (ha : a = g) (hd : d = decide (g ≠ 1)) : notB (eqB d (neI a 1)) = false := by
 subst ha; subst hd
 by_cases hg : g = 1
 ·subst hg; decide
 ·have h1 : decide (g ≠ 1) = true := decide_eq_true hg
  have h2 : neI (g : Int) 1 = true := neI_iff.2 (by omega)
  rw [h1, h2]; decide
structure Grow (w : Wid) (i W : Nat) (M : Mo) : Prop where
 now : M.now = none
 saved : M.saved = 0
 lost : M.lost = []
 next : M.next = []
 len : M.done.length ≤ i
 wt : WtG w.enc W M.E0 M.all
theorem one_put (a : Int) (s : Sl) : (putsOf [((0, 0, (s, [a]), ()) : EdD)]).length = 1 := by simp [putsOf]
theorem one_eff (E : List El) (a : Int) (s : Sl) : effC (cutC E [((0, 0, (s, [a]), ()) : EdD)]) = true := cut_eff ⟨_, List.mem_singleton.2 rfl, by simp⟩
theorem Grow.grp {enc limit : Int} {i W : Nat} {cuts : List EdD} {bg en : Int} (g : Grow w i W M) (o : MoOk w.enc limit M N) (hd : (i : Int) + 1 ≤ M.depth) (hl : (W : Int) + 4 * (putsOf cuts).length ≤ limit) : Grow w (i + 1) (W + 4 * (putsOf cuts).length) (M.grp (cutC M.C cuts) bg en) := by
 have hlen := g.len
 have hw := grp_wt (bg := bg) (en := en) o.en g.wt hl
 cases he : effC (cutC M.C cuts) with
 | false => exact ⟨Mo.grp_now, by rw [Mo.grp_saved, g.saved], by rw [Mo.grp_no he]; exact g.lost, by rw [Mo.grp_no he]; exact g.next, by rw [Mo.grp_no he]; show M.done.length ≤ _; omega, hw⟩
 | true =>
  obtain ⟨x, _, _, h1, h2, h3, _⟩ := grp_eff (bg := bg) (en := en) (M := M) (by omega) he
  exact ⟨Mo.grp_now, by rw [Mo.grp_saved, g.saved], by rw [h1]; exact g.lost, h3, by rw [h2, List.length_append, List.length_singleton]; omega, hw⟩
theorem c_HistorySaved (Me : Meth0 P S) (C : ClH P S) {enc steps : Int} {b : Sl} {l : List Int} {x : Edss} (hb : Lst .u8 h b l) (hl : l.length ≤ 1073741824) (hx : EdssSh.ok h x) (wx : EdssSh.wt x ≤ 1048576) :
  Gives P (F_law7_HistorySaved S enc b x.1 steps) [.one .bool] h fun (y : Bool × Unit) _ => y.1 = true := by
 unfold F_law7_HistorySaved Gives
 have hsz := szG_wt x
 have hxl := hx.len
 have hnl : natI x.1.len = (x.2.length : Int) := by rw [natI_def, hxl]
 refine bind_bool (¬ (l.length + szG x.2 ≤ 8000 ∧ x.2.length ≤ 190) ∨ 40 < x.2.length) ?_ fun bb h1 e1 hbb => wp_ifB (fun hc => s_ret ⟨rfl, e1, (true, ()), rfl, rfl⟩) fun hc => ?_
 ·refine wp_call (c_short hb.len (by omega) hx (by omega) (by omega)) fun ⟨(y : Bool), _⟩ h1 e1 hy => ?_
  have hy : y = true ↔ l.length + szG x.2 ≤ 8000 ∧ x.2.length ≤ 190 := hy
  dsimp only
  refine wp_ifB (fun hc => s_ret ⟨rfl, e1, true, rfl, ?_⟩) fun hc => s_ret ⟨rfl, e1, _, rfl, ?_⟩
  ·rw [notB_iff] at hc
   refine ⟨fun _ => .inl fun h2 => ?_, fun _ => rfl⟩
   rw [hy.2 h2] at hc; cases hc
  ·rw [notB_not] at hc
   rw [hnl, gtI_iff]
   have := hy.1 hc
   omega
 have hshort : l.length + szG x.2 ≤ 8000 ∧ x.2.length ≤ 40 := by
  have : ¬ (¬ (l.length + szG x.2 ≤ 8000 ∧ x.2.length ≤ 190) ∨ 40 < x.2.length) := fun hx => by rw [hbb.2 hx] at hc; cases hc
  omega
 clear hbb hc
 refine wp_call (c_book7 Me (enc := enc) (depth := Int.ofNat 60) (hb.ext e1) (by omega) ⟨by decide, by decide⟩) fun ⟨(p : Option Addr), _⟩ h2 e2 hp => ?_
 obtain ⟨X, rfl, B⟩ := hp
 obtain ⟨n, hn, hr⟩ := B.r
 obtain ⟨rho, st0, _, r0⟩ := hr 0 fun _ => 0
 have i0 := B.inv r0 (by omega) ⟨by decide, by decide⟩
 obtain ⟨w, hw⟩ : ∃ w : Wid, w = ⟨n, h1, X.b, X.T.p, X.T.enc, 60000⟩ := ⟨_, rfl⟩
 have d0 : Wd S w h2 (Mo.new (elsF 0 0 (toks (enc % 4 + 1) l)) (Int.ofNat 60)) 0 := by
  rw [hw]; exact ⟨rho, X, st0, r0, i0, rfl, rfl, rfl, B.li⟩
 have hwb : X.b = w.b := by rw [hw]
 have hwl : w.limit = 60000 := by rw [hw]
 have hx1 : EdssSh.ok w.h0 x := by rw [hw]; exact hx.ext e1
 have ew : ∀ {g : Heap} {M : Mo} {N : Nat}, Wd S w g M N → Ext h g := fun d => e1.trans (by have := d.e; rw [hw] at this; exact this)
 have b0 : blen w.enc (elsF 0 0 (toks (enc % 4 + 1) l)) ≤ l.length := by
  have h1 := blen_state r0.t.cur r0.t.enc
  rw [B.bytes] at h1
  have h2 : els X.T.enc X.T.cur.ps = elsF 0 0 (toks (enc % 4 + 1) l) := by rw [B.en]; exact B.el
  rw [h2] at h1
  rw [hw]; exact Nat.le_of_eq h1
 rw [hwb]
 clear hr st0 r0 i0 B hwb
 dsimp only
 refine bind_val (tys := [.one .bool]) (fun (y : Bool × Unit) h' => y.1 = false ∧ Wd S w h' (Mo.new (elsF 0 0 (toks (enc % 4 + 1) l)) (Int.ofNat 60)) 0) ?_ fun ⟨(y : Bool), _⟩ h3 e3 hy => ?_
 ·refine wp_ifB (fun hc => by cases hc) fun _ => wp_call (w_Dirty d0) fun ⟨(y : Bool), _⟩ h3 e3 hy => s_ret ⟨rfl, e3, (y, ()), rfl, ?_, hy.2⟩
  have := hy.1
  rw [this]; rfl
 obtain ⟨hy, d3⟩ := hy
 have hy : y = false := hy
 subst hy
 refine wp_ifB (fun hc => by cases hc) fun _ => ?_
 rw [hnl]
 refine wp_while (fun (s : Int × Unit) h' => ∃ i : Nat, s.1 = i ∧ i ≤ x.2.length ∧ ∃ M, Wd S w h' M (i + 2 * szG (x.2.take i)) ∧ Grow w i (l.length + 4 * szG (x.2.take i)) M ∧ M.depth = 60) (fun s _ => ((x.2.length : Int) - s.1).toNat)
  (fun t vs h' => t = 2 ∧ vs = [] ∧ ∃ M, Wd S w h' M (x.2.length + 2 * szG x.2) ∧ Grow w x.2.length (l.length + 4 * szG x.2) M ∧ M.depth = 60)
  ⟨0, rfl, Nat.zero_le _, _, d3, ⟨rfl, rfl, rfl, rfl, Nat.zero_le _, by exact b0⟩, rfl⟩ ?_ ?_
 ·rintro ⟨(s : Int), u⟩ h4 ⟨i, hs, hi, M, d4, g4, dp4⟩
  dsimp only at hs ⊢
  subst hs
  refine wp_ifB (fun hc => ?_) fun hc => ?_
  ·rw [ltI_iff] at hc
   have hlt : i < x.2.length := by omega
   obtain ⟨g, hg⟩ : ∃ g, x.2[i]? = some g := ⟨x.2[i], List.getElem?_eq_getElem hlt⟩
   have ht := szG_take hg
   have hle := szG_le x.2 (i + 1)
   refine s_ldEs (hx1.ext d4.e) hg ?_
   have hE := Mo.E_shut g4.now
   have hbl : blen w.enc M.E ≤ l.length + 4 * szG (x.2.take i) := by rw [hE]; exact g4.wt.pre.2.head
   refine wp_callW (w_group Me C (x := g) d4 g4.now (hx1.el hg) (by rw [hwl]; omega) (by omega)) fun tg vs h5 hq => ?_
   obtain ⟨rfl, rfl, bg, en, d5⟩ := hq
   refine ⟨rfl, (true, ()), rfl, wp_ifB (fun hc => by cases hc) fun _ => ?_⟩
   rw [add_ok (by omega) (by omega)]
   refine s_ret ⟨fun _ => ⟨((i : Int) + 1, ()), rfl, ⟨i + 1, by push_cast; rfl, by omega, _, d5.mono (by omega), ?_, by rw [Mo.grp_depth, dp4]⟩, by dsimp only; omega⟩, fun hh => absurd rfl hh⟩
   have := g4.grp (bg := bg) (en := en) (cuts := g.2) (limit := 60000) (enc := enc) (by have := d4.ok; rw [hwl] at this; exact this) (by rw [dp4]; omega) (by omega)
   exact { this with wt := this.wt.mono (by omega) }
  ·rw [ltI_not] at hc
   have hi : i = x.2.length := by omega
   subst hi
   rw [List.take_length] at d4 g4
   exact s_ret ⟨fun hh => absurd hh (by decide), fun _ => ⟨rfl, rfl, M, d4, g4, dp4⟩⟩
 rintro t vs h4 ⟨rfl, rfl, M, d4, g4, dp4⟩
 refine s_tag (s_cast0 ?_)
 generalize hN4 : x.2.length + 2 * szG x.2 = N4 at d4
 have hE := Mo.E_shut g4.now
 have hbl : blen w.enc M.E ≤ l.length + 4 * szG x.2 := by rw [hE]; exact g4.wt.pre.2.head
 have hl4 := g4.len
 refine wp_bind (fun tg vs h' => tg = 0 ∧ vs = [.bool false] ∧ ∃ bg en s, Wd S w h' (M.grp (cutC M.C [((0, 0, (s, [1]), ()) : EdD)]) bg en) (N4 + 3)) ?_ ?_
 ·refine w_one Me C d4 g4.now (fits_i64.2 (by omega)) (by rw [hwl]; omega) (by omega) fun h5 bg en s d5 => ?_
  refine wp_ifB (fun hc => by cases hc) fun _ => wp_call (w_Dirty d5) fun ⟨(y : Bool), _⟩ h6 e6 hy => s_ret ⟨rfl, ?_, bg, en, s, hy.2⟩
  obtain ⟨g, _, g1, q1, q2, q3, q4⟩ := grp_eff (M := M) (bg := bg) (en := en) (by omega) (one_eff M.C 1 s)
  have hd : y = true := by
   have h1 : y = _ := hy.1
   rw [h1, dirty_shut Mo.grp_now, Mo.grp_saved, g4.saved]
   have : (M.grp (cutC M.C [((0, 0, (s, [1]), ()) : EdD)]) bg en).st = M.last + 1 := by unfold Mo.st; rw [q1, q2, ← List.append_assoc, stG_snoc, g1]
   rw [this]
   have := d4.ok.la
   exact decide_eq_true (by omega)
  subst hd; rfl
 rintro tg vs h5 ⟨rfl, rfl, bg1, en1, s1, d5⟩
 refine s_tag (s_castB (wp_ifB (fun hc => by cases hc) fun _ => ?_))
 obtain ⟨ga, _, ga1, qa1, qa2, qa3, qa4⟩ := grp_eff (M := M) (bg := bg1) (en := en1) (by omega) (one_eff M.C 1 s1)
 have ok4 := d4.ok
 rw [hwl] at ok4
 have wa := grp_wt (bg := bg1) (en := en1) (cuts := [((0, 0, (s1, [1]), ()) : EdD)]) ok4.en g4.wt (limit := 60000) (by rw [one_put]; omega)
 rw [one_put] at wa
 have dpa := Mo.grp_depth (M := M) (cs := cutC M.C [((0, 0, (s1, [1]), ()) : EdD)]) (bg := bg1) (en := en1)
 have nowa := Mo.grp_now (M := M) (cs := cutC M.C [((0, 0, (s1, [1]), ()) : EdD)]) (bg := bg1) (en := en1)
 generalize M.grp (cutC M.C [((0, 0, (s1, [1]), ()) : EdD)]) bg1 en1 = Ma at d5 qa1 qa2 qa3 qa4 wa dpa nowa
 have sta : Ma.st = M.last + 1 := by unfold Mo.st; rw [qa1, qa2, ← List.append_assoc, stG_snoc, ga1]
 refine wp_callW (w_Saved d5) fun tg vs h6 hq => ?_
 obtain ⟨rfl, rfl, d6⟩ := hq
 refine ⟨rfl, (), rfl, ?_⟩
 have hsv : Ma.save = { Ma with saved := Ma.st } := by unfold Mo.save; rw [nowa]; rfl
 rw [hsv] at d6
 have dep4 : (M.done.length : Int) + 2 ≤ 60 := by omega
 generalize hMb : ({ Ma with saved := Ma.st } : Mo) = Mb at d6
 have nowb : Mb.now = none := by rw [← hMb]; exact nowa
 have wb : WtG w.enc (l.length + 4 * szG x.2 + 4 * 1) Mb.E0 Mb.all := by rw [← hMb]; exact wa
 have stb : Mb.st = M.last + 1 := by rw [← hMb]; exact sta
 have svb : Mb.saved = M.last + 1 := by rw [← hMb]; exact sta
 have dpb : Mb.depth = 60 := by rw [← hMb]; show Ma.depth = 60; rw [dpa, dp4]
 have lab : Mb.last = M.last + 1 := by rw [← hMb]; exact qa4
 have lob : Mb.lost = [] := by rw [← hMb]; show Ma.lost = []; rw [qa1, g4.lost]
 have dob : Mb.done = M.done ++ [ga] := by rw [← hMb]; exact qa2
 have dbl : Mb.done.length = M.done.length + 1 := by rw [dob]; simp
 have hEb := Mo.E_shut nowb
 have hblb : blen w.enc Mb.E ≤ l.length + 4 * szG x.2 + 4 := by rw [hEb]; exact wb.pre.2.head
 clear hMb
 refine wp_bind (fun tg vs h' => tg = 0 ∧ vs = [.bool false] ∧ ∃ bg en s, Wd S w h' (Mb.grp (cutC Mb.C [((0, 0, (s, [2]), ()) : EdD)]) bg en) (N4 + 3 + 3)) ?_ ?_
 ·refine wp_call (w_Dirty d6) fun ⟨(y : Bool), _⟩ h7 e7 hy => ?_
  have hy1 : y = false := by
   have h1 : y = _ := hy.1
   rw [h1, dirty_shut nowb, stb, svb]; simp
  subst hy1
  refine wp_ifB (fun hc => by cases hc) fun _ => ?_
  refine w_one Me C hy.2 nowb (fits_i64.2 (by omega)) (by rw [hwl]; omega) (by omega) fun h8 bg en s d8 => ?_
  refine wp_ifB (fun hc => by cases hc) fun _ => wp_call (w_Dirty d8) fun ⟨(y : Bool), _⟩ h9 e9 hy => s_ret ⟨rfl, ?_, bg, en, s, hy.2⟩
  obtain ⟨g, _, g1, q1, q2, q3, q4⟩ := grp_eff (M := Mb) (bg := bg) (en := en) (by omega) (one_eff Mb.C 2 s)
  have hd : y = true := by
   have h1 : y = _ := hy.1
   rw [h1, dirty_shut Mo.grp_now, Mo.grp_saved, svb]
   have : (Mb.grp (cutC Mb.C [((0, 0, (s, [2]), ()) : EdD)]) bg en).st = Mb.last + 1 := by unfold Mo.st; rw [q1, q2, ← List.append_assoc, stG_snoc, g1]
   rw [this, lab]
   exact decide_eq_true (by omega)
  subst hd; rfl
 rintro tg vs h7 ⟨rfl, rfl, bg2, en2, s2, d7⟩
 refine s_tag (s_castB (wp_ifB (fun hc => by cases hc) fun _ => ?_))
 obtain ⟨gb, _, gb1, qb1, qb2, qb3, qb4⟩ := grp_eff (M := Mb) (bg := bg2) (en := en2) (by omega) (one_eff Mb.C 2 s2)
 have okb := d6.ok
 rw [hwl] at okb
 have wc := grp_wt (bg := bg2) (en := en2) (cuts := [((0, 0, (s2, [2]), ()) : EdD)]) okb.en wb (limit := 60000) (by rw [one_put]; omega)
 rw [one_put] at wc
 have dpc := Mo.grp_depth (M := Mb) (cs := cutC Mb.C [((0, 0, (s2, [2]), ()) : EdD)]) (bg := bg2) (en := en2)
 have nowc := Mo.grp_now (M := Mb) (cs := cutC Mb.C [((0, 0, (s2, [2]), ()) : EdD)]) (bg := bg2) (en := en2)
 have svc := Mo.grp_saved (M := Mb) (cs := cutC Mb.C [((0, 0, (s2, [2]), ()) : EdD)]) (bg := bg2) (en := en2)
 generalize Mb.grp (cutC Mb.C [((0, 0, (s2, [2]), ()) : EdD)]) bg2 en2 = Mc at d7 qb1 qb2 qb3 qb4 wc dpc nowc svc
 have hful : ∃ full : List GM, full = M.done ++ [ga] ++ [gb] := ⟨_, rfl⟩
 obtain ⟨full, hfull⟩ := hful
 have hfl : full.length = M.done.length + 2 := by rw [hfull]; simp
 have u0 : Und full 0 Mc := by
  refine ⟨nowc, by rw [qb1, lob], by rw [qb2, dob, ← hfull, Nat.sub_zero, List.take_length], by rw [qb3, Nat.sub_zero, List.drop_length], ?_, Nat.zero_le _⟩
  rw [svc, svb, hfull]
  have : (M.done ++ [ga] ++ [gb]).take ((M.done ++ [ga] ++ [gb]).length - 1) = M.done ++ [ga] := by
   rw [List.length_append, List.length_singleton, Nat.add_sub_cancel, List.take_left']
   rfl
  rw [this, stG_snoc, ga1]
 generalize hWc : l.length + 4 * szG x.2 + 4 * 1 + 4 * 1 = Wc at wc
 refine wp_call (c_slot (i := steps) (n := x.2.length) (by omega) (by omega)) fun ⟨(sl : Int), _⟩ h8 e8 hsl => ?_
 have hsl : sl = slotF steps x.2.length := hsl
 have hin := slot_in (i := steps) (n := x.2.length) (by omega)
 rw [← hsl] at hin
 dsimp only
 rw [add_ok (by omega) (by omega)]
 obtain ⟨nn, hnn⟩ : ∃ nn : Nat, (2 : Int) + sl = nn := ⟨(2 + sl).toNat, by omega⟩
 rw [hnn]
 have key : ∀ (gone : Nat) (M' : Mo) (N' : Nat) (g' : Heap), Und full gone M' → Wd S w g' M' N' → Gives P (F_Book_Dirty S (some w.b)) [.one .bool] g' fun (y : Bool × Unit) h' => y.1 = decide (gone ≠ 1) ∧ Wd S w h' M' N' := fun gone M' N' g' u d =>
  (w_Dirty d).mono fun y h' e hy => ⟨by rw [hy.1]; exact u.dirty d.ok (by omega), hy.2⟩
 refine wp_while (fun (s : Int × Int × Unit) h' => ∃ (i gone : Nat), s.2.1 = i ∧ s.1 = gone ∧ i ≤ nn ∧ gone = min i full.length ∧ ∃ M', Wd S w h' M' (N4 + 6) ∧ Und full gone M' ∧ WtG w.enc Wc M'.E0 M'.all ∧ M'.depth = 60) (fun s _ => ((nn : Int) - s.2.1).toNat)
  (fun t vs h' => t = 4 ∧ ∃ gone : Nat, vs = [i64v gone] ∧ 2 ≤ gone ∧ ∃ M', Wd S w h' M' (N4 + 6) ∧ Und full gone M' ∧ WtG w.enc Wc M'.E0 M'.all ∧ M'.depth = 60)
  ⟨0, 0, rfl, rfl, Nat.zero_le _, (Nat.zero_min _).symm, Mc, d7.ext e8, u0, wc, by rw [dpc, dpb]⟩ ?_ ?_
 ·rintro ⟨(s : Int), (t : Int), u⟩ h9 ⟨i, gone, hi, hg, hil, hgm, M', d9, u9, w9, dp9⟩
  dsimp only at hi hg ⊢
  subst hi; subst hg
  refine wp_ifB (fun hc => ?_) fun hc => ?_
  ·rw [ltI_iff] at hc
   refine wp_callW (w_Undo d9 (by omega)) fun tg vs h10 hq => ?_
   obtain ⟨rfl, rfl, d10⟩ := hq
   by_cases hgl : gone < full.length
   ·obtain ⟨xx, M'', hund, u10, al, e0, dp⟩ := u9.undo hgl
    rw [hund] at d10 ⊢
    refine ⟨rfl, (xx, 0, ()), rfl, ?_⟩
    dsimp only at d10 ⊢
    refine bind_val (tys := [.one (.int .i64)]) (fun (y : Int × Unit) _ => y.1 = (gone : Int) + 1) (wp_call c_num7 fun ⟨(y : Int), _⟩ h11 e11 hy => ?_) fun ⟨(y : Int), _⟩ h11 e11 hy => ?_
    ·have hy : y = 0 := hy
     subst hy
     refine wp_ifB (fun _ => ?_) fun hc => by cases hc
     rw [add_ok (by omega) (by omega)]
     exact s_ret ⟨rfl, e11, (_, ()), rfl, rfl⟩
    have hy : y = (gone : Int) + 1 := hy
    subst hy
    dsimp only
    have d11 := d10.ext e11
    refine bind_val (tys := [.one .bool]) (fun (y : Bool × Unit) h' => y.1 = false ∧ Wd S w h' M'' (N4 + 6)) (wp_call c_num7 fun ⟨(y : Int), _⟩ h12 e12 hy => ?_) fun ⟨(y : Bool), _⟩ h12 e12 hy => ?_
    ·have hy : y = 0 := hy
     subst hy
     refine wp_ifB (fun _ => ?_) fun hc => by cases hc
     refine wp_call (key (gone + 1) M'' _ h12 u10 (d11.ext e12)) fun ⟨(y : Bool), _⟩ h13 e13 hy => s_ret ⟨rfl, e12.trans e13, (_, ()), rfl, ?_, hy.2⟩
     exact dirt_ok (g := gone + 1) (by push_cast; rfl) hy.1
    obtain ⟨hy, d12⟩ := hy
    have hy : y = false := hy
    subst hy
    refine wp_ifB (fun hc => by cases hc) fun _ => ?_
    rw [add_ok (by omega) (by omega)]
    exact s_ret ⟨fun _ => ⟨((gone : Int) + 1, (i : Int) + 1, ()), rfl, ⟨i + 1, gone + 1, by push_cast; rfl, by push_cast; rfl, by omega, by omega, M'', d12, u10, by rw [al, e0]; exact w9, by rw [dp, dp9]⟩, by dsimp only; omega⟩, fun hh => absurd rfl hh⟩
   ·have hge : gone = full.length := by omega
    subst hge
    have hund := u9.undone
    rw [hund] at d10 ⊢
    refine ⟨rfl, (0, 72, ()), rfl, ?_⟩
    dsimp only at d10 ⊢
    refine bind_val (tys := [.one (.int .i64)]) (fun (y : Int × Unit) _ => y.1 = (full.length : Int)) (wp_call c_num7 fun ⟨(y : Int), _⟩ h11 e11 hy => ?_) fun ⟨(y : Int), _⟩ h11 e11 hy => ?_
    ·have hy : y = 72 := hy
     subst hy
     exact wp_ifB (fun hc => by cases hc) fun _ => s_ret ⟨rfl, e11, (_, ()), rfl, rfl⟩
    have hy : y = (full.length : Int) := hy
    subst hy
    dsimp only
    refine bind_val (tys := [.one .bool]) (fun (y : Bool × Unit) _ => y.1 = false) (wp_call c_num7 fun ⟨(y : Int), _⟩ h12 e12 hy => ?_) fun ⟨(y : Bool), _⟩ h12 e12 hy => ?_
    ·have hy : y = 72 := hy
     subst hy
     exact wp_ifB (fun hc => by cases hc) fun _ => s_ret ⟨rfl, e12, (false, ()), rfl, rfl⟩
    have hy : y = false := hy
    subst hy
    refine wp_ifB (fun hc => by cases hc) fun _ => ?_
    rw [add_ok (by omega) (by omega)]
    exact s_ret ⟨fun _ => ⟨((full.length : Int), (i : Int) + 1, ()), rfl, ⟨i + 1, full.length, by push_cast; rfl, rfl, by omega, by omega, M', (d10.ext e11).ext e12, u9, w9, dp9⟩, by dsimp only; omega⟩, fun hh => absurd rfl hh⟩
  ·rw [ltI_not] at hc
   exact s_ret ⟨fun hh => absurd hh (by decide), fun _ => ⟨rfl, gone, rfl, by omega, M', d9, u9, w9, dp9⟩⟩
 rintro t vs h9 ⟨rfl, gone0, rfl, hg2, M3, d9, u9, w9, dp9⟩
 refine s_tag (s_castI ?_)
 dsimp only
 refine wp_while (fun (s : Int × Unit) h' => ∃ (gone : Nat), s.1 = gone ∧ 1 ≤ gone ∧ ∃ M', Wd S w h' M' (N4 + 6) ∧ Und full gone M' ∧ WtG w.enc Wc M'.E0 M'.all ∧ M'.depth = 60) (fun s _ => s.1.toNat)
  (fun t vs h' => t = 6 ∧ vs = [i64v 1] ∧ ∃ M', Wd S w h' M' (N4 + 6) ∧ Und full 1 M' ∧ WtG w.enc Wc M'.E0 M'.all ∧ M'.depth = 60)
  ⟨gone0, rfl, by omega, M3, d9, u9, w9, dp9⟩ ?_ ?_
 ·rintro ⟨(s : Int), u⟩ h10 ⟨gone, hs, hg1, M', d10, u10, w10, dp10⟩
  dsimp only at hs ⊢
  subst hs
  refine wp_ifB (fun hc => ?_) fun hc => ?_
  ·rw [gtI_iff] at hc
   obtain ⟨gg, rfl⟩ : ∃ gg, gone = gg + 1 := ⟨gone - 1, by omega⟩
   have hgl := u10.le
   obtain ⟨xx, M'', hred, u11, al, e0, dp⟩ := u10.redo
   refine wp_callW (w_Redo d10 (by omega)) fun tg vs h11 hq => ?_
   obtain ⟨rfl, rfl, d11⟩ := hq
   rw [hred] at d11 ⊢
   refine ⟨rfl, (xx, 0, ()), rfl, ?_⟩
   dsimp only at d11 ⊢
   have hsub : subI .i64 ((gg + 1 : Nat) : Int) 1 = gg := by rw [sub_ok (by omega) (by omega)]; omega
   rw [hsub]
   refine bind_val (tys := [.one .bool]) (fun (y : Bool × Unit) h' => y.1 = false ∧ Wd S w h' M'' (N4 + 6)) (wp_call c_num7 fun ⟨(y : Int), _⟩ h12 e12 hy => ?_) fun ⟨(y : Bool), _⟩ h12 e12 hy => ?_
   ·have hy : y = 0 := hy
    subst hy
    refine wp_ifB (fun hc => by cases hc) fun _ => ?_
    refine wp_call (key gg M'' _ h12 u11 (d11.ext e12)) fun ⟨(y : Bool), _⟩ h13 e13 hy => s_ret ⟨rfl, e12.trans e13, (_, ()), rfl, ?_, hy.2⟩
    exact dirt_ok (g := gg) rfl hy.1
   obtain ⟨hy, d12⟩ := hy
   have hy : y = false := hy
   subst hy
   refine wp_ifB (fun hc => by cases hc) fun _ => ?_
   exact s_ret ⟨fun _ => ⟨((gg : Int), ()), rfl, ⟨gg, rfl, by omega, M'', d12, u11, by rw [al, e0]; exact w10, by rw [dp, dp10]⟩, by dsimp only; omega⟩, fun hh => absurd rfl hh⟩
  ·rw [gtI_not] at hc
   have : gone = 1 := by omega
   subst this
   exact s_ret ⟨fun hh => absurd hh (by decide), fun _ => ⟨rfl, rfl, M', d10, u10, w10, dp10⟩⟩
 rintro t vs h10 ⟨rfl, rfl, M4, d10, u10, w10, dp10⟩
 refine s_tag (s_castI ?_)
 have hdl : M4.done.length = full.length - 1 := by rw [u10.done, List.length_take]; omega
 have hnx : M4.next.length = 1 := by rw [u10.next, List.length_drop]; omega
 have hE4 := Mo.E_shut u10.now
 have hb4 : blen w.enc M4.E ≤ Wc := by rw [hE4]; exact w10.pre.2.head
 refine wp_call (w_Depth d10) fun ⟨(y1 : Int), (y2 : Int), _⟩ h11 e11 hy => ?_
 obtain ⟨⟨hy1, hy2⟩, d11⟩ := hy
 have hy1 : y1 = M4.done.length := hy1
 have hy2 : y2 = M4.next.length := hy2
 subst hy1; subst hy2
 dsimp only
 refine wp_bind (fun tg vs h' => tg = 0 ∧ vs = [.bool false] ∧ ∃ bg en s, Wd S w h' (M4.grp (cutC M4.C [((0, 0, (s, [2]), ()) : EdD)]) bg en) (N4 + 6 + 3)) ?_ ?_
 ·refine wp_ifB (fun hc => by cases hc) fun _ => wp_ifB (fun hc => ?_) fun _ => wp_ifB (fun hc => ?_) fun _ => ?_
  ·rw [neI_iff] at hc; omega
  ·rw [ltI_iff] at hc; omega
  ·refine w_one Me C d11 u10.now (fits_i64.2 (by omega)) (by rw [hwl]; omega) (by omega) fun h12 bg en s d12 => ?_
   exact s_ret ⟨rfl, rfl, bg, en, s, d12⟩
 rintro tg vs h12 ⟨rfl, rfl, bg3, en3, s3, d12⟩
 refine s_tag (s_castB (wp_ifB (fun hc => by cases hc) fun _ => ?_))
 obtain ⟨gd, _, gd1, qd1, qd2, qd3, qd4⟩ := grp_eff (M := M4) (bg := bg3) (en := en3) (by omega) (one_eff M4.C 2 s3)
 refine wp_call (w_Depth d12) fun ⟨(y1 : Int), (y2 : Int), _⟩ h13 e13 hy => ?_
 obtain ⟨⟨hy1, hy2⟩, d13⟩ := hy
 have hy2 : y2 = _ := hy2
 rw [qd3] at hy2
 subst hy2
 dsimp only
 refine bind_val (tys := [.one .bool]) (fun (y : Bool × Unit) h' => y.1 = true ∧ Wd S w h' (M4.grp (cutC M4.C [((0, 0, (s3, [2]), ()) : EdD)]) bg3 en3) (N4 + 6 + 3)) (wp_call (w_Dirty d13) fun ⟨(y : Bool), _⟩ h14 e14 hy => ?_) fun ⟨(y : Bool), _⟩ h14 e14 hy => ?_
 ·have hyt : y = true := by
   have h1 : y = _ := hy.1
   rw [h1, dirty_shut Mo.grp_now, Mo.grp_saved]
   have h2 : (M4.grp (cutC M4.C [((0, 0, (s3, [2]), ()) : EdD)]) bg3 en3).st = M4.last + 1 := by unfold Mo.st; rw [qd1, qd2, ← List.append_assoc, stG_snoc, gd1]
   rw [h2]
   have hmem : ∀ g ∈ full, g.st ≤ M4.last := fun g hg => (d10.ok.nums g (by rw [u10.all]; exact hg)).2
   have h3 : M4.saved ≤ M4.last := by
    rw [u10.sv, hfull]
    have : (M.done ++ [ga] ++ [gb]).take ((M.done ++ [ga] ++ [gb]).length - 1) = M.done ++ [ga] := by
     rw [List.length_append, List.length_singleton, Nat.add_sub_cancel, List.take_left']
     rfl
    rw [this, stG_snoc]
    exact hmem ga (by rw [hfull]; simp)
   exact decide_eq_true (by omega)
  subst hyt
  refine wp_ifB (fun _ => s_ret ⟨rfl, e14, (_, ()), rfl, rfl, hy.2⟩) fun hc => by cases hc
 obtain ⟨hy, d14⟩ := hy
 have hy : y = true := hy
 subst hy
 exact s_ret ⟨rfl, ew d14, (true, ()), rfl, rfl⟩
end Go.Sw.Hist
