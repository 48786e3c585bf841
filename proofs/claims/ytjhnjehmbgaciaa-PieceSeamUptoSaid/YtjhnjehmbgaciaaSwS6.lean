import Derived.Test.YtjhnjehmbgaciaaSwS5
import Derived.Laws.BytesString
set_option linter.unusedSimpArgs false
set_option linter.unusedVariables false
namespace Go.Sw

/-- What a context says of calls is so. -/
def CtxOk (P : Program) (Γ : Ctx) : Prop := ∀ i args m tys, Γ i args = some (m, tys) →
  (∀ as (w : World), (callFunc i as).run P w = .ok (.enter i as) w) ∧ ∀ h Q, wp P m h (fun tag vs h' => tag = 0 ∧ Q vs h') → CallsV P i args h Q

structure St (w0 : World) (G : Act → Prop) (n : Nat) (f : Fr) (a : Act) (w : World) : Prop where
  fr : FrOk f a
  sz : a.tmps.size = n
  env : Env w0 w
  g : G a

/-- Writes to these slots leave it. -/
def Keeps (G : Act → Prop) (ws : List Nat) : Prop := ∀ a d v, d ∈ ws → G a → G (a.put (some d) v)

theorem FrOk.put {f : Fr} {a : Act} (h : FrOk f a) {d : Option Nat} (hd : ∀ k, d = some k → k < a.tmps.size) (v : Value) : FrOk (f.put d v) (a.put d v) := by
  cases d with
  | none => exact h
  | some d =>
    intro n u hu
    simp only [Fr.put, Fr.get_cons] at hu
    have hlt := hd d rfl
    by_cases e : d = n
    · subst e
      simp only [if_true, Option.some.injEq] at hu
      subst hu
      simp [Act.put, hlt]
    · simp only [e, if_false] at hu
      have := h n u hu
      simp [Act.put, Array.getElem?_setIfInBounds_ne e, this]

theorem St.put {w0 : World} {G : Act → Prop} {n : Nat} {f : Fr} {a : Act} {w w' : World} (h : St w0 G n f a w) {ws : List Nat} (hG : Keeps G ws) {d : Option Nat}
    (hd : ∀ k, d = some k → k < n ∧ k ∈ ws) (hw : Env w w') (v : Value) : St w0 G n (f.put d v) (a.put d v) w' where
  fr := h.fr.put (fun k e => by rw [h.sz]; exact (hd k e).1) v
  sz := by cases d <;> simp [Act.put, h.sz]
  env := h.env.trans hw
  g := by
    cases d with
    | none => exact h.g
    | some d => exact hG a d v (hd d rfl).2 h.g

/-- What comes of an operation, in a round's frame as in any other. -/
def uponI (P : Program) (o : Oper) (a : Act) (next : Act → World → Prop) (Q : Exit → Act → World → Prop) : Result Next → Prop
  | .ok (.value v) w' => next (a.put o.dst v) w'
  | .ok .skip w' => next (a.put o.dst undef) w'
  | .ok (.enter f args) w' => Calls P f args w' fun
      | .returned v, w'' => next (a.put o.dst v) w''
      | .panicked chain, w'' => Q (.panic chain) a w''
      | .outgrown, _ => LetsOut Q
  | .ok (.round l f tmps assign body) w' => RoundIn Fence.wide 0 P l f tmps assign body w' fun
      | .returned v, w'' => next (a.put o.dst v) w''
      | .panicked chain, w'' => Q (.panic chain) a w''
      | .outgrown, _ => LetsOut Q
  | .halt (.panic v) w' => Q (.panic [{ v, recovered := false }]) a w'
  | _ => False
end Go.Sw
namespace Go
open Go.Sw
def Oper.wpI (P : Program) (o : Oper) (a : Act) (w : World) (next : Act → World → Prop) (Q : Exit → Act → World → Prop) : Prop :=
  uponI P o a next Q ((execOp a.eval o).run P w)
end Go
namespace Go.Sw
end Go.Sw
namespace Go
open Go.Sw
theorem Oper.wpI_mono {P : Program} {o : Oper} {a : Act} {w : World} {K K' : Act → World → Prop} {Q Q' : Exit → Act → World → Prop} (hk : ∀ a w, K a w → K' a w) (hq : ∀ e a w, Q e a w → Q' e a w) (h : o.wpI P a w K Q) : o.wpI P a w K' Q' := by
  unfold Oper.wpI at *
  generalize (execOp a.eval o).run P w = r at *
  cases r with
  | ok n w' =>
    cases n <;> simp only [uponI] at h ⊢ <;>
      first
        | exact hk _ _ h
        | exact Calls.mono h (fun e w'' he => by
            cases e
            · exact hk _ _ he
            · exact hq _ _ _ he
            · obtain ⟨x, y, he⟩ := he; exact ⟨x, y, hq _ _ _ he⟩)
        | exact RoundIn.mono h (fun e w'' he => by
            cases e
            · exact hk _ _ he
            · exact hq _ _ _ he
            · obtain ⟨x, y, he⟩ := he; exact ⟨x, y, hq _ _ _ he⟩)
  | halt x w' => cases x <;> simp only [uponI] at h ⊢; exact hq _ _ _ h

end Go
namespace Go.Sw
/-- The fence that shuts nothing out; in a round, or not. -/
def Fen (ro : Option Nat) : Fence := { Fence.wide with round := ro }
theorem Fen_none : Fen none = Fence.wide := rfl
theorem Fen_in (l : Nat) : Fence.wide.inRound l = Fen (some l) := rfl

theorem no_defer {P : Program} {o : Oper} {a : Act} {w : World} {next : Act → World → Prop} (h : o.wpI P a w next fun _ _ _ => False) : ∀ c, o.op ≠ .defer c := by
  intro c hc
  unfold Oper.wpI at h
  have : execOp a.eval o = (do pure (Next.defer (← resolve a.eval c o.type)) : Sem Next) := by
    unfold execOp; rw [hc]
  rw [this, Sem.run_bind] at h
  generalize (resolve a.eval c o.type).run P w = r at h
  cases r with
  | ok d w' => simp [Result.andThen, uponI] at h
  | halt x w' => cases x <;> simp [Result.andThen, uponI] at h

theorem callsIn_fen {P : Program} {ro : Option Nat} {n : Nat} {f : FuncId} {args : Array Value} {w : World} {R : Ending → World → Prop} (h : Calls P f args w R) : CallsIn (Fen ro) n P f args w R := by
  have := (callsIn_wide (n := n)).2 h
  exact this
theorem roundIn_fen {P : Program} {ro : Option Nat} {l : Nat} {f : FuncId} {tmps : Array Value} {assign body : Code} {w : World} {R : Ending → World → Prop} (h : RoundIn Fence.wide 0 P l f tmps assign body w R) : RoundIn (Fen ro) 0 P l f tmps assign body w R := h

theorem wpI_in {P : Program} {ro : Option Nat} {o : Oper} {a : Act} {w : World} {next next' : Act → World → Prop} {Q : Exit → Act → World → Prop} (hn : ∀ a w, next a w → next' a w) (h : o.wpI P a w next fun _ _ _ => False) : o.wpIn (Fen ro) 0 P a w next' Q := by
  refine ⟨fun _ _ => trivial, ?_⟩
  rw [Oper.semAt_eq _ _ _ (no_defer h)]
  unfold Oper.wpI at h
  generalize (execOp a.eval o).run P w = r at *
  cases r with
  | ok n w' =>
    cases n with
    | value v => exact hn _ _ h
    | skip => exact hn _ _ h
    | enter f args =>
      refine ⟨fun x => (by cases x), callsIn_fen (Calls.mono h (fun e w'' he => ?_))⟩
      cases e with
      | returned v => exact hn _ _ he
      | panicked ch => exact he.elim
      | outgrown => obtain ⟨_, _, he⟩ := he; exact he.elim
    | round l f tmps assign body =>
      refine ⟨fun x => (by cases x), roundIn_fen (RoundIn.mono h (fun e w'' he => ?_))⟩
      cases e with
      | returned v => exact hn _ _ he
      | panicked ch => exact he.elim
      | outgrown => obtain ⟨_, _, he⟩ := he; exact he.elim
    | _ => exact h.elim
  | halt x w' => cases x <;> exact h.elim

/-- One operation of a region: as weak as it may be where the order is open (dr). -/
def stepR (P : Program) (dr : Bool) (o : Oper) (a : Act) (w : World) (next : Act → World → Prop) : Prop :=
  match dr, kindOf P o.op with
  | true, .pure => ∃ v, (∀ w', (execOp a.eval o).run P w' = .ok (.value v) w') ∧ next (a.put o.dst v) w
  | true, .load => ∃ v, (execOp a.eval o).run P w = .ok (.value v) w ∧ next (a.put o.dst v) w
  | _, _ => o.wpI P a w next fun _ _ _ => False

section
variable {P : Program} {dr : Bool} {o : Oper} {a : Act} {w : World} {next : Act → World → Prop}

theorem stepR_any {v : Value} (h : ∀ w', (execOp a.eval o).run P w' = .ok (.value v) w') (hn : next (a.put o.dst v) w) : stepR P dr o a w next := by
  unfold stepR
  split
  · exact ⟨v, h, hn⟩
  · exact ⟨v, h w, hn⟩
  · unfold Oper.wpI; rw [h w]; exact hn

theorem stepR_load {v : Value} (hk : ∀ x, kindOf P o.op = x → x ≠ .pure) (h : (execOp a.eval o).run P w = .ok (.value v) w) (hn : next (a.put o.dst v) w) : stepR P dr o a w next := by
  unfold stepR
  split
  · rename_i e; exact absurd rfl (hk _ e)
  · exact ⟨v, h, hn⟩
  · unfold Oper.wpI; rw [h]; exact hn

theorem stepR_wp (hk : dr = true → kindOf P o.op = .eff) (h : o.wpI P a w next fun _ _ _ => False) : stepR P dr o a w next := by
  unfold stepR
  split
  · rename_i e; rw [hk rfl] at e; cases e
  · rename_i e; rw [hk rfl] at e; cases e
  · exact h

theorem stepR_value (hk : dr = true → kindOf P o.op = .eff) {v : Value} {w' : World} (h : (execOp a.eval o).run P w = .ok (.value v) w') (hn : next (a.put o.dst v) w') : stepR P dr o a w next :=
  stepR_wp hk (by unfold Oper.wpI; rw [h]; exact hn)

theorem stepR_skip (hk : dr = true → kindOf P o.op = .eff) {w' : World} (h : (execOp a.eval o).run P w = .ok .skip w') (hn : next (a.put o.dst undef) w') : stepR P dr o a w next :=
  stepR_wp hk (by unfold Oper.wpI; rw [h]; exact hn)

theorem stepR_enter (hk : dr = true → kindOf P o.op = .eff) {f : FuncId} {args : Array Value} {w' : World} (h : (execOp a.eval o).run P w = .ok (.enter f args) w')
    (hn : Calls P f args w' fun e w'' => ∃ vs, e = .returned (resV vs) ∧ next (a.put o.dst (resV vs)) w'') : stepR P dr o a w next := by
  refine stepR_wp hk ?_
  unfold Oper.wpI
  rw [h]
  refine hn.mono fun e w'' hh => ?_
  obtain ⟨vs, rfl, hx⟩ := hh
  exact hx

theorem stepR_round (hk : dr = true → kindOf P o.op = .eff) {l : Nat} {f : FuncId} {tmps : Array Value} {assign body : Code} {w' : World} (h : (execOp a.eval o).run P w = .ok (.round l f tmps assign body) w')
    (hn : RoundIn Fence.wide 0 P l f tmps assign body w' fun e w'' => ∃ vs, e = .returned (resV vs) ∧ next (a.put o.dst (resV vs)) w'') : stepR P dr o a w next := by
  refine stepR_wp hk ?_
  unfold Oper.wpI
  rw [h]
  refine RoundIn.mono hn fun e w'' hh => ?_
  obtain ⟨vs, rfl, hx⟩ := hh
  exact hx

/-- What two pointers' equality is. -/
def PeqIs (h : Heap) (p q : Option Addr) (b : Bool) : Prop :=
  match p, q with
  | some x, some y => (x.block = y.block ∧ b = (x == y)) ∨ (x.block ≠ y.block ∧ plainAt h x ∧ plainAt h y ∧ b = false)
  | some _, none => b = false
  | none, q => b = q.isNone
theorem wp_peq {p q : Option Addr} {K : Bool → Prog} {h : Heap} {Q : Nat → List Value → Heap → Prop} (hw : wp P (.peq p q K) h Q) : ∃ b, PeqIs h p q b ∧ wp P (K b) h Q := by
  cases p with
  | none => exact ⟨_, rfl, hw⟩
  | some x => cases q with
    | none => exact ⟨_, rfl, hw⟩
    | some y =>
      rcases hw with ⟨h1, h2⟩ | ⟨h1, h2, h3, h4⟩
      · exact ⟨_, .inl ⟨h1, rfl⟩, h2⟩
      · exact ⟨_, .inr ⟨h1, h2, h3, rfl⟩, h4⟩
theorem run_peq {t e : TypeId} {i : TypeInfo} {p q : Option Addr} {b : Bool} (hu : P.underlying t = some (.pointer e)) (hi : P.info? e = some i) (hz : i.size ≠ 0) (hb : PeqIs w.heap p q b) :
    (Op.equal t (.pointer p) (.pointer q)).run P w = .ok b w := by
  have : ∀ d, (Op.equalIn (d + 1) t (.pointer p) (.pointer q)).run P w = .ok b w := by
    intro d
    cases p with
    | none => have hb : b = q.isNone := hb; subst hb; simp [Op.equalIn, run_und hu]
    | some x => cases q with
      | none => have hb : b = false := hb; subst hb; simp [Op.equalIn, run_und hu]
      | some y =>
        rcases hb with ⟨h1, rfl⟩ | ⟨h1, ⟨c1, e1, h2⟩, ⟨c2, e2, h3⟩, rfl⟩
        · simp [Op.equalIn, run_und hu, run_size hi, hz, sameAddr, h1]
        · have f1 : ∀ n, w.frozen? ⟨x.block, n, none⟩ = false := fun n => by simp [World.frozen?, h2]
          have f2 : ∀ n, w.frozen? ⟨y.block, n, none⟩ = false := fun n => by simp [World.frozen?, h3]
          have g1 : w.frozen? x = false := by simp [World.frozen?, h2]
          have g2 : w.frozen? y = false := by simp [World.frozen?, h3]
          have s1 : (Go.shape x.block).run P w = .ok (some (e1, c1.size)) w := by simp [Go.shape, Sem.run, World.shape?, h2]
          have s2 : (Go.shape y.block).run P w = .ok (some (e2, c2.size)) w := by simp [Go.shape, Sem.run, World.shape?, h3]
          have v1 : (noView x).run P w = .ok () w := by simp [noView, viewAt, s1]
          have v2 : (noView y).run P w = .ok () w := by simp [noView, viewAt, s2]
          have q1 : w.shape? x.block = some (e1, c1.size) := by simp [World.shape?, h2]
          have q2 : w.shape? y.block = some (e2, c2.size) := by simp [World.shape?, h3]
          have t1 : (stringish x).run P w = .ok false w := by simp [stringish, Go.frozen, Sem.run, g1, q1, f1]
          have t2 : (stringish y).run P w = .ok false w := by simp [stringish, Go.frozen, Sem.run, g2, q2, f2]
          have m : (mayBeOne x y).run P w = .ok false w := by simp [mayBeOne, s1, s2, t1, t2]
          simp [Op.equalIn, run_und hu, run_size hi, hz, sameAddr, h1, g1, v1, v2, m]
  exact this 9999

theorem pushAll (l : List UInt8) : ∀ s : ByteArray, (l.map fun b => (b.toNat : Int)).foldl (fun r n => r.push (UInt8.ofNat n.toNat)) s = ⟨s.data ++ l.toArray⟩ := by
  induction l with
  | nil => intro s; cases s; simp
  | cons b l ih =>
    intro s
    simp only [List.map_cons, List.foldl_cons]
    rw [ih]
    cases s
    simp [ByteArray.push]

theorem resolve_value {c : Call} {g : Operand} {fr : Fr} {args : List Value} {fv : Value} (hf : FrOk fr a) (hc : c.callee = .value g) (hg : ev fr g = some fv) (ha : evs fr c.args.toList = some args) (ty : TypeId) :
    resolve a.eval c ty = Deferred.ofValue fv args.toArray := by
  simp [resolve, hc, ev_sound hf hg, evs_array hf ha]

theorem callMethod_of {t : TypeId} {name : String} {i : FuncId} (h : methOf P t name = some i) (v : Value) (args : Array Value) (hc : ∀ as (w : World), (callFunc i as).run P w = .ok (.enter i as) w) :
    (callMethod (.iface t v) name args).run P w = .ok (.enter i (#[v] ++ args)) w := by
  unfold methOf at h
  split at h
  · rename_i ti hti
    split at h
    · rename_i m hfind
      have hm : ti.methods.find? (fun m => m.name == name) = some m := by simpa using hfind
      have key : ∀ (b : Bool), m.path.toList = [] → m.func = some (i, b) → ((b = true ∧ ∃ e, P.underlying t = some (.pointer e)) ∨ (b = false ∧ ∃ d, P.underlying t = some d ∧ ∀ e, d ≠ .pointer e)) →
          (callMethod (.iface t v) name args).run P w = .ok (.enter i (#[v] ++ args)) w := by
        intro b hp hf hb
        have hmeth : ∀ k, (method (k + 1) t v name).run P w = .ok (i, v) w := by
          intro k
          simp only [method, Sem.run_bind, run_info hti, Result.andThen_ok, hm, hp, follow, Sem.run_pure, hf]
          rcases hb with ⟨rfl, e, he⟩ | ⟨rfl, d, hd, hne⟩
          · simp [receiverAt, run_und he, Place.get]
          · simp only [receiverAt, Sem.run_bind, run_und hd, Result.andThen_ok]
            cases d <;> first | exact absurd rfl (hne _) | simp [Place.get]
        have hd : 0 < Made.depth := by decide
        have hk : ∃ k, P.types.size + Made.depth = k + 1 := ⟨P.types.size + Made.depth - 1, by omega⟩
        obtain ⟨k, hk⟩ := hk
        simp only [callMethod, Sem.run_bind, run_program, Result.andThen_ok, hk, hmeth k, hc]
      split at h
      · rename_i f e h1 h2 h3
        obtain rfl := Option.some.inj h
        exact key true h1 h2 (.inl ⟨rfl, e, h3⟩)
      · cases h
      · rename_i f d hne h1 h2 h3
        obtain rfl := Option.some.inj h
        exact key false h1 h2 (.inr ⟨rfl, d, h3, fun e he => hne e (by rw [he])⟩)
      · cases h
    · cases h
  · cases h

theorem run_convBytes {f : Fr} {a : Act} {w : World} (hf : FrOk f a) {dst : Option Tmp} {s d e : TypeId} {x : Operand} {type : TypeId} {pos : String} {after : _} {guard : _} {p : Option Addr} {m c : Nat}
    (hu1 : P.underlying s = some (.slice e)) (hu2 : P.underlying d = some .string) (hu3 : P.underlying e = some (.int .u8)) (hx : ev f x = some (.slice p m c)) {l : List UInt8}
    (hl : Firsts w.heap p m (l.map fun b => .int .u8 b.toNat)) :
    (execOp a.eval { dst, op := .convert s d x, type, pos, after, guard }).run P w = .ok (.value (.string ⟨l.toArray⟩)) w := by
  have hb : (Conv.bytesToString (.slice p m c)).run P w = .ok (.string ⟨l.toArray⟩) w := by
    cases p with
    | none =>
      simp only [Firsts] at hl
      have : l = [] := List.map_eq_nil_iff.1 hl
      subst this
      rfl
    | some ad =>
      obtain ⟨hlen, hcs⟩ := hl
      have hld := loadCells_ok (P := P) hcs
      rw [hlen] at hld
      have hld' : (loadCells ad m).run P w = .ok ((l.map fun b => (b.toNat : Int)).map (Value.int .u8)).toArray w := by
        rw [hld, List.map_map]; rfl
      rw [run_bytesToString w ad m c _ hld', pushAll]
      simp
  simp [execOp, ev_sound hf hx, convert, run_und hu1, run_und hu2, run_und hu3, hb]

theorem effOp_sound {Γ : Ctx} {anys : List Nat} (hΓ : CtxOk P Γ) {w0 : World} {G : Act → Prop} {n : Nat} {f : Fr} {K : Fr → Prog} {Qp : Nat → List Value → Heap → Prop} {ws : List Nat}
    (hw : wp P (effOp P Γ anys dr o f K) w.heap Qp) (hs : St w0 G n f a w) (hd : ∀ d, o.dst = some d → d < n ∧ d ∈ ws) (hG : Keeps G ws)
    (hK : ∀ v w', St w0 G n (f.put o.dst v) (a.put o.dst v) w' → wp P (K (f.put o.dst v)) w'.heap Qp → next (a.put o.dst v) w') : stepR P dr o a w next := by
  obtain ⟨dst, op, type, pos, after, guard⟩ := o
  cases op <;> simp only [effOp] at hw <;> try exact hw.elim
  case pick c x y =>
    split at hw
    · rename_i b hb
      cases b
      · simp only [ifB, cond_false] at hw
        split at hw
        · rename_i v hv
          refine stepR_any (v := v) (fun w' => ?_) (hK v w (hs.put hG hd (Env.refl w) v) hw)
          simp [execOp, ev_sound hs.fr hb, ev_sound hs.fr hv, asBool]
        · exact hw.elim
      · simp only [ifB, cond_true] at hw
        split at hw
        · rename_i v hv
          refine stepR_any (v := v) (fun w' => ?_) (hK v w (hs.put hG hd (Env.refl w) v) hw)
          simp [execOp, ev_sound hs.fr hb, ev_sound hs.fr hv, asBool]
        · exact hw.elim
    · exact hw.elim
  case load t x =>
    split at hw
    · rename_i p ty hx ht
      obtain ⟨ad, rfl, y, hc, hw⟩ := hw
      refine stepR_load (v := ty.inj y) (fun x e => by rw [← e]; simp [kindOf]) ?_ (hK _ w (hs.put hG hd (Env.refl w) _) hw)
      simp [execOp, ev_sound hs.fr hx, Instr.loadAt, sureAddr_some, loadVar_ok (P := P) ht hc]
    · exact hw.elim
  case store t x y =>
    split at hw
    · rename_i p v hx hv
      split at hw
      · rename_i c vs hcs
        cases hc : c
        · simp only [hc, grd, cond_false] at hw; exact hw.elim
        simp only [hc, grd, cond_true] at hw
        obtain ⟨ad, rfl, hwr, hw⟩ := hw
        refine stepR_skip (fun _ => rfl) (w' := wh w (puts w.heap ad vs)) ?_ (hK undef (wh w (puts w.heap ad vs)) (hs.put hG hd (wh_env _ _) undef) hw)
        simp [execOp, ev_sound hs.fr hx, ev_sound hs.fr hv, Instr.storeAt, sureAddr_some, storeVar_ok hcs hc hwr]
      · exact hw.elim
    · exact hw.elim
  case alloc t =>
    split at hw
    · rename_i z hz
      obtain ⟨zv, hzr, hzc⟩ := zeroOf_sound (w := w) hz
      refine stepR_value (fun _ => rfl) (v := .pointer (some ⟨w.heap.size, 0, none⟩)) (w' := wh w (w.heap.push (.cells z.toArray t))) ?_ (hK _ (wh w (w.heap.push (.cells z.toArray t))) (hs.put hG hd (wh_env _ _) _) (hw t))
      simp [execOp, Instr.alloc, hzr, newVar_ok hzc]
    · exact hw.elim
  case box t x =>
    split at hw
    · rename_i v hv
      split at hw
      · rename_i c vs hcs
        cases hc : c
        · simp only [hc, grd, cond_false] at hw; exact hw.elim
        simp only [hc, grd, cond_true] at hw
        obtain ⟨i, hi, hcells, hl⟩ := cellsOf_sound hcs hc
        refine stepR_value (fun _ => rfl) (v := .pointer (some ⟨w.heap.size, 0, none⟩)) (w' := wh w (w.heap.push (.cells vs.toArray t))) ?_ (hK _ (wh w (w.heap.push (.cells vs.toArray t))) (hs.put hG hd (wh_env _ _) _) (hw t))
        simp [execOp, ev_sound hs.fr hv, Instr.box, newVar_ok hcells]
      · exact hw.elim
    · exact hw.elim
  case buildSlice t m parts =>
    split at hw
    · rename_i e size bytes z vs he hvs
      cases hb : Nat.ble (m * size) 1000000
      · simp only [hb, cond_false] at hw; exact hw.elim
      simp only [hb, cond_true] at hw
      split at hw
      · rename_i c cells hfl
        cases hc : c
        · simp only [hc, grd, cond_false] at hw; exact hw.elim
        simp only [hc, grd, cond_true] at hw
        obtain ⟨i, hu, hi, hsz, hby, hzl, hzv⟩ := elemOf_sound he
        obtain ⟨zv, hzr, hzc⟩ := hzv w
        have hfill := (fillL_sound (P := P) (place' := fun i => some (i * size, size)) (fun i' off t' ti hpi hti => by
          simp only [Option.some.injEq, Prod.mk.injEq] at hpi
          obtain ⟨rfl, rfl⟩ := hpi
          rw [hi] at hti
          obtain rfl := Option.some.inj hti
          rw [hsz]) hfl hc).2
        have hparts : (parts.map fun p => (p.1, a.eval p.2)).toList = vs := by simpa using zipOps_sound hs.fr hvs
        have hle : m * size ≤ 1000000 := Nat.le_of_ble_eq_true hb
        have hbig : ¬ (16777216 < m * size) := by omega
        refine stepR_value (fun _ => rfl) (v := .slice (some ⟨w.heap.size, 0, none⟩) m m) (w' := wh w (w.heap.push (.cells cells.toArray e))) ?_ (hK _ (wh w (w.heap.push (.cells cells.toArray e))) (hs.put hG hd (wh_env _ _) _) (hw e))
        have hr := rangeZeros_eq z m
        rw [hzl] at hr
        have hr' : (Array.range (m * size)).map (fun i => z.toArray[i % z.toArray.size]!) = (zeros z m).toArray := by simpa [hzl] using hr
        by_cases hn : m * size = 0
        · have hz0 : zeros z m = [] := List.length_eq_zero_iff.1 (by rw [zeros_length, hzl, hn])
          have e0 : ∀ g : Nat → Value, (Array.range (m * size)).map g = (zeros z m).toArray := by
            intro g; rw [hz0, hn]; exact Array.toList_inj.1 (by simp)
          simp only [execOp, Instr.buildSlice, Sem.run_bind, run_und hu, Result.andThen_ok, run_size hi, hsz, hparts]
          have h16 : ¬ (m * size > 2 ^ 24) := by omega
          simp only [h16, if_false, hn, if_true, Sem.run_pure, Result.andThen_ok]
          have e0' : ∀ g : Nat → Value, (Array.range 0).map g = (zeros z m).toArray := by
            intro g; rw [hz0]; exact Array.toList_inj.1 (by simp)
          simp only [e0', hfill]
          simp [newRow, wh]
        · simp only [execOp, Instr.buildSlice, Sem.run_bind, run_und hu, Result.andThen_ok, run_size hi, hsz, hparts]
          have h16 : ¬ (m * size > 2 ^ 24) := by omega
          simp only [h16, if_false, hn, Sem.run_pure, Result.andThen_ok, Sem.run_bind, hzr, hzc, hr', hfill]
          simp [newRow, wh]
      · exact hw.elim
    · exact hw.elim
  case makeSlice t l c =>
    split at hw
    · rename_i e size bytes z l' c' he hl hc
      obtain ⟨hcond, hw⟩ := hw
      refine stepR_value (fun _ => rfl) (v := .slice (some ⟨w.heap.size, 0, none⟩) l'.toNat c'.toNat) (w' := wh w (w.heap.push (.cells (zeros z c'.toNat).toArray e))) ?_
        (hK _ (wh w (w.heap.push (.cells (zeros z c'.toNat).toArray e))) (hs.put hG hd (wh_env _ _) _) (hw e))
      simp [execOp, ev_sound hs.fr hl, ev_sound hs.fr hc, run_makeSlice he hcond]
    · exact hw.elim
  case binOp op t x y u =>
    split at hw
    · rename_i k b k' d hx hy
      cases hkk : fkindBeq k k'
      · simp only [hkk, cond_false] at hw; exact hw.elim
      simp only [hkk, cond_true] at hw
      obtain rfl := fkindBeq_iff.1 hkk
      have key : ∀ (r : Nat), binOp op t (.float k b) (.float k d) = Op.floatArith op k b d → (∀ w : World, (Op.floatArith op k b d).run P w = .ok (.float k r) w) → wp P (K (f.put dst (.float k r))) w.heap Qp →
          stepR P dr { dst, op := .binOp op t x y u, type, pos, after, guard } a w next := by
        intro r hb hr hw
        refine stepR_any (v := .float k r) (fun w => ?_) (hK _ w (hs.put hG hd (Env.refl w) _) hw)
        have hgd : (eqGuard op t x y (.float k b) (.float k d)).run P w = .ok () w := eqGuard_ok (fun e => by cases e) (fun _ _ e => by cases e)
        simp only [execOp, ev_sound hs.fr hx, ev_sound hs.fr hy, Sem.run_bind, hgd, Result.andThen_ok]
        rw [hb, hr]
        rfl
      cases op <;> first
        | exact hw.elim
        | (obtain ⟨r, hr, hw⟩ := hw; simp only [addF, subF, mulF, quoF] at hr; exact key r (by simp [binOp]) (fun w => by simp [Op.floatArith, hr]) hw)
    · rename_i p q hx hy
      cases dr
      case true => exact hw.elim
      simp only [cond_false] at hw
      split at hw
      · rename_i e hu
        split at hw
        · rename_i inf hi
          cases hz : Nat.beq inf.size 0
          case true => simp only [hz, cond_true] at hw; exact hw.elim
          simp only [hz, cond_false] at hw
          have hz : inf.size ≠ 0 := fun e => by rw [e] at hz; cases hz
          have hgd : (eqGuard op t x y (.pointer p) (.pointer q)).run P w = .ok () w := eqGuard_ok (fun e => by cases e) (fun _ _ e => by cases e)
          cases op <;> first
            | exact hw.elim
            | (obtain ⟨b, hb, hw⟩ := wp_peq hw
               have he : (Op.equal t (.pointer p) (.pointer q)).run P w = .ok b w := run_peq hu hi hz hb
               refine stepR_value (fun h => by cases h) (w' := w) (v := .bool b) ?_ (hK _ w (hs.put hG hd (Env.refl w) _) hw)
               simp only [execOp, ev_sound hs.fr hx, ev_sound hs.fr hy, Sem.run_bind, hgd, Result.andThen_ok]
               simp [binOp, he])
            | (obtain ⟨b, hb, hw⟩ := wp_peq hw
               have he : (Op.equal t (.pointer p) (.pointer q)).run P w = .ok b w := run_peq hu hi hz hb
               refine stepR_value (fun h => by cases h) (w' := w) (v := .bool (notB b)) ?_ (hK _ w (hs.put hG hd (Env.refl w) _) hw)
               simp only [execOp, ev_sound hs.fr hx, ev_sound hs.fr hy, Sem.run_bind, hgd, Result.andThen_ok]
               simp [binOp, he, notB])
        · exact hw.elim
      · exact hw.elim
    · exact hw.elim
  case convert s d x =>
    split at hw
    · rename_i e p m c hu1 hu2 hx
      split at hw
      · rename_i hu3
        · obtain ⟨l, hl, hw⟩ := hw
          refine stepR_load (fun x e => by rw [← e]; simp [kindOf, readsConv, hu1, hu2]) (v := .string ⟨l.toArray⟩) ?_ (hK _ w (hs.put hG hd (Env.refl w) _) hw)
          exact run_convBytes hs.fr hu1 hu2 hu3 hx hl
      · exact hw.elim
    · exact hw.elim
  case call c =>
    obtain ⟨callee, args, argTypes⟩ := c
    simp only at hw
    split at hw
    · split at hw
      · rename_i p m k p' m' k' t t' hargs hts
        split at hw
        · rename_i e size bytes z q he he'
          obtain ⟨r, w', hr, henv, hw⟩ := run_append he he' type hw
          have hat : argTypes = #[t, t'] := Array.toList_inj.1 (by simpa using hts)
          refine stepR_value (fun _ => rfl) (v := .slice r.base r.len r.cap) (w' := w') ?_ (hK _ w' (hs.put hG hd henv _) hw)
          simp [execOp, resolve, invoke, builtin, evs_array hs.fr hargs, hat, hr]
        · exact hw.elim
      · exact hw.elim
    · split at hw
      · rename_i p m k p' m' k' t ts hargs hts
        split at hw
        · rename_i e size bytes z he
          obtain ⟨r, w', hr, henv, hw⟩ := run_copy he ts type hw
          have hat : argTypes = (t :: ts).toArray := Array.toList_inj.1 (by simpa using hts)
          refine stepR_value (fun _ => rfl) (v := .int .i64 (r : Int)) (w' := w') ?_ (hK _ w' (hs.put hG hd henv _) hw)
          simp [execOp, resolve, invoke, builtin, evs_array hs.fr hargs, hat] at hr ⊢
          simp [hr]
        · exact hw.elim
      · exact hw.elim
    · exact hw.elim
    · rename_i g
      cases han : isAny anys g
      · simp only [han, cond_false] at hw
        split at hw
        · rename_i i first cap args' hg hargs
          split at hw
          · rename_i m tys hm
            obtain ⟨hcall, hcv⟩ := hΓ _ _ _ _ hm
            have := hcv w.heap (fun vs h' => ∃ x, vs = Ts.inj tys x ∧ wp P (K (f.put dst (resV (Ts.inj tys x)))) h' Qp) (wp_mono m (fun t vs h' hh => hh) hw) w rfl
            refine stepR_enter (fun _ => rfl) (f := i) (args := (first.toList ++ args' ++ cap.toList).toArray) (w' := w) ?_ (this.mono fun e w' hh => ?_)
            · have hres := resolve_value (a := a) hs.fr (c := { callee := .value g, args, argTypes }) rfl hg hargs type
              simp [execOp, hres, Deferred.ofValue, invoke, hcall]
            · obtain ⟨vs, rfl, henv, x, rfl, hw⟩ := hh
              exact ⟨_, rfl, hK _ w' (hs.put hG hd henv _) hw⟩
          · exact hw.elim
        · exact hw.elim
      · simp only [han, cond_true] at hw
        split at hw
        · rename_i v args' tys hg hargs ht
          obtain ⟨d, hr1, ⟨gf, as, hr2, hcl⟩ | ⟨l, rf, tmps, asg, bd, hr2, hcl⟩⟩ := hw w rfl
          · refine stepR_enter (fun _ => rfl) (f := gf) (args := as) (w' := w) ?_ (hcl.mono fun e w' hh => ?_)
            · have hres := resolve_value (a := a) hs.fr (c := { callee := .value g, args, argTypes }) rfl hg hargs type
              simp [execOp, hres, hr1, hr2]
            · obtain ⟨vs, rfl, henv, x, rfl, hw⟩ := hh
              exact ⟨_, rfl, hK _ w' (hs.put hG hd henv _) hw⟩
          · refine stepR_round (fun _ => rfl) (l := l) (f := rf) (tmps := tmps) (assign := asg) (body := bd) (w' := w) ?_ (hcl.mono fun e w' hh => ?_)
            · have hres := resolve_value (a := a) hs.fr (c := { callee := .value g, args, argTypes }) rfl hg hargs type
              simp [execOp, hres, hr1, hr2]
            · obtain ⟨vs, rfl, henv, x, rfl, hw⟩ := hh
              exact ⟨_, rfl, hK _ w' (hs.put hG hd henv _) hw⟩
        · exact hw.elim
    · rename_i r name
      cases han : isAny anys r
      · simp only [han, cond_false] at hw
        split at hw
        · rename_i t v args' hr hargs
          split at hw
          · rename_i i hmeth
            split at hw
            · rename_i m tys hm
              obtain ⟨hcall, hcv⟩ := hΓ _ _ _ _ hm
              have := hcv w.heap (fun vs h' => ∃ x, vs = Ts.inj tys x ∧ wp P (K (f.put dst (resV (Ts.inj tys x)))) h' Qp) (wp_mono m (fun t vs h' hh => hh) hw) w rfl
              refine stepR_enter (fun _ => rfl) (f := i) (args := (v :: args').toArray) (w' := w) ?_ (this.mono fun e w' hh => ?_)
              · have hc := callMethod_of (w := w) hmeth v args'.toArray hcall
                simp [execOp, resolve, ev_sound hs.fr hr, evs_array hs.fr hargs, invoke]
                simpa using hc
              · obtain ⟨vs, rfl, henv, x, rfl, hw⟩ := hh
                exact ⟨_, rfl, hK _ w' (hs.put hG hd henv _) hw⟩
            · exact hw.elim
          · exact hw.elim
        · exact hw.elim
      · simp only [han, cond_true] at hw
        split at hw
        · rename_i v args' tys hr hargs ht
          obtain ⟨gf, as, hr1, hcl⟩ := hw w rfl
          refine stepR_enter (fun _ => rfl) (f := gf) (args := as) (w' := w) ?_ (hcl.mono fun e w' hh => ?_)
          · simp [execOp, resolve, ev_sound hs.fr hr, evs_array hs.fr hargs, invoke]
            exact hr1
          · obtain ⟨vs, rfl, henv, x, rfl, hw⟩ := hh
            exact ⟨_, rfl, hK _ w' (hs.put hG hd henv _) hw⟩
        · exact hw.elim

end

end Go.Sw
