import Derived.Test.YtfgknhffpccamaaSwS8
namespace Go.Sw

theorem B.prj_inj {b : B} {v : Value} {x : b.den} (h : b.prj v = some x) : v = b.inj x := by
  cases b <;> cases v <;> simp only [B.prj, reduceCtorEq] at h
  case int.int k k' n =>
    cases hk : kindBeq k k'
    · simp [hk] at h
    · simp only [hk, cond_true] at h
      obtain rfl := kindBeq_iff.1 hk
      exact congrArg (Value.int k) (Option.some.inj h)
  case flt.float k k' n =>
    cases hk : fkindBeq k k'
    · simp [hk] at h
    · simp only [hk, cond_true] at h
      obtain rfl := fkindBeq_iff.1 hk
      exact congrArg (Value.float k) (Option.some.inj h)
  all_goals (obtain rfl := Option.some.inj h; rfl)

theorem Bs.prj_inj : ∀ {bs : List B} {vs : List Value} {x : Bs.den bs}, Bs.prj bs vs = some x → vs = Bs.inj bs x := by
  intro bs
  induction bs with
  | nil =>
    intro vs x h
    cases vs with
    | nil => rfl
    | cons v vs => simp [Bs.prj] at h
  | cons b bs ih =>
    intro vs x h
    cases vs with
    | nil => simp [Bs.prj] at h
    | cons v vs =>
      simp only [Bs.prj] at h
      split at h
      · rename_i y ys h1 h2
        obtain rfl := Option.some.inj h
        rw [B.prj_inj h1, ih h2]
        rfl
      · cases h

theorem Ty.prj_inj {t : Ty} {v : Value} {x : t.den} (h : t.prj v = some x) : v = t.inj x := by
  cases t with
  | one b => exact B.prj_inj h
  | agg bs =>
    have hv : ∃ cs, v = .agg cs := by
      cases v <;> first | exact ⟨_, rfl⟩ | cases h
    obtain ⟨cs, rfl⟩ := hv
    have e : cs.toList = Bs.inj bs x := Bs.prj_inj h
    show Value.agg cs = Value.agg (Bs.inj bs x).toArray
    exact congrArg Value.agg (Array.toList_inj.1 (by rw [e]))

theorem Ts.prj_inj : ∀ {ts : List Ty} {vs : List Value} {x : Ts.den ts}, Ts.prj ts vs = some x → vs = Ts.inj ts x := by
  intro ts
  induction ts with
  | nil =>
    intro vs x h
    cases vs with
    | nil => rfl
    | cons v vs => simp [Ts.prj] at h
  | cons t ts ih =>
    intro vs x h
    cases vs with
    | nil => simp [Ts.prj] at h
    | cons v vs =>
      simp only [Ts.prj] at h
      split at h
      · rename_i y ys h1 h2
        obtain rfl := Option.some.inj h
        rw [Ty.prj_inj h1, ih h2]
        rfl
      · cases h

def toExit : Ex → Exit
  | .nrm => .normal
  | .ex id => .exit id
  | .ret => .ret

def disj (ks ws : List Nat) : Bool := ks.all fun k => !mem k ws

def disjO (o : Option (Outs × List Nat)) (ws : List Nat) : Bool :=
  match o with
  | some (_, keep) => disj keep ws
  | none => true

/-- What the printer's notes on a function's code must meet. -/
def okC (P : Program) (An : Ann) (n : Nat) : Code → Bool
  | .region id ops draw => disjO (An.reg id) (dsts ops.toList) && ((dsts ops.toList).all (fun d => Nat.blt d n) && (bif draw then (match An.order id with
      | some (ls, loose) => orderOk P ops ls loose
      | none => false) else true))
  | .seq a b => disjO ((firstReg b).bind An.join) (writes a) && (okC P An n a && okC P An n b)
  | .cond _ a b => okC P An n a && okC P An n b
  | .block _ b => okC P An n b
  | .loop b => disjO ((firstReg b).bind An.loop) (writes b) && okC P An n b
  | _ => true

theorem wp_loopS {P : Program} {Q : Exit → Act → World → Prop} {a : Act} {w : World} {c : Code} {σ : Type} (I : σ → Act → World → Prop) (μ : σ → World → Nat) (s : σ) (h₀ : I s a w)
    (round : ∀ s a w, I s a w → c.wp P (Exit.then (fun a' w' => ∃ s', I s' a' w' ∧ μ s' w' < μ s w) Q) a w) : (Code.loop c).wp P Q a w := by
  intro b k cs
  have key : ∀ n s a w, μ s w = n → I s a w →
      ∃ e a' w', Q e a' w' ∧ Arrives P (lone (b.at a (.code c :: .inLoop c :: k)) cs w) b k cs e a' w' := by
    intro n
    induction n using Nat.strongRecOn with
    | _ n ih =>
      intro s a w hn hI
      obtain ⟨e, a₁, w₁, hq, harr⟩ := round s a w hI b (.inLoop c :: k) cs
      cases e with
      | normal =>
        obtain ⟨s₁, hI₁, hlt⟩ := hq
        obtain ⟨e₂, a₂, w₂, hq₂, harr₂⟩ := ih (μ s₁ w₁) (hn ▸ hlt) s₁ a₁ w₁ rfl hI₁
        exact ⟨e₂, a₂, w₂, hq₂, .of_steps (Steps.trans harr (.one step_inLoop)) harr₂⟩
      | exit id => exact ⟨_, a₁, w₁, hq, .pass (x := .inLoop c) rfl (fun _ _ => .inl (by simp)) harr⟩
      | goto l => exact ⟨_, a₁, w₁, hq, .pass (x := .inLoop c) rfl (fun _ _ => .inl (by simp)) harr⟩
      | ret => exact ⟨_, a₁, w₁, hq, .pass (x := .inLoop c) rfl (fun _ _ => .inl (by simp)) harr⟩
      | panic ch => exact ⟨_, a₁, w₁, hq, .pass (x := .inLoop c) rfl (fun _ _ => .inl (by simp)) harr⟩
      | outgrown => exact ⟨_, a₁, w₁, hq, .pass (x := .inLoop c) rfl (fun _ _ => .inl (by simp)) harr⟩
  obtain ⟨e, a', w', hq, harr⟩ := key _ s a w rfl h₀
  exact ⟨e, a', w', hq, .of_steps (.one step_loop) harr⟩

theorem mem_iff {n : Nat} {l : List Nat} : mem n l = true ↔ n ∈ l := by
  induction l with
  | nil => simp [mem]
  | cons k r ih =>
    simp only [mem, List.mem_cons]
    cases hb : Nat.beq k n
    · have : k ≠ n := fun e => by rw [nbeq_iff.2 e] at hb; cases hb
      simp only [cond_false, ih]
      exact ⟨fun h => .inr h, fun h => h.resolve_left (fun e => this e.symm)⟩
    · simp only [cond_true, true_iff]
      exact .inl (nbeq_iff.1 hb).symm

theorem only_get {f : Fr} : ∀ {ks : List Nat} {n : Nat} {v : Value}, (f.only ks).get n = some v → f.get n = some v ∧ n ∈ ks := by
  intro ks
  induction ks with
  | nil => intro n v h; simp [Fr.only, Fr.get] at h
  | cons k ks ih =>
    intro n v h
    simp only [Fr.only] at h
    split at h
    · rename_i u hu
      rw [Fr.get_cons] at h
      by_cases e : k = n
      · subst e
        simp only [if_true] at h
        rw [← h]
        exact ⟨hu, List.mem_cons_self ..⟩
      · simp only [e, if_false] at h
        exact ⟨(ih h).1, List.mem_cons_of_mem _ (ih h).2⟩
    · exact ⟨(ih h).1, List.mem_cons_of_mem _ (ih h).2⟩

theorem onlyK_eq {f : Fr} : ∀ {ks : List Nat} {K : Fr → Prog}, Fr.onlyK f ks K = K (f.only ks) := by
  intro ks
  induction ks with
  | nil => intro K; rfl
  | cons k ks ih =>
    intro K
    simp only [Fr.onlyK, Fr.only]
    split
    · exact ih
    · exact ih

theorem FrOk.only {f : Fr} {a : Act} (h : FrOk f a) (ks : List Nat) : FrOk (f.only ks) a := fun n v hv => h n v (only_get hv).1

/-- What is known of slots that are not written stays. -/
theorem keeps_only (f : Fr) {ks ws : List Nat} (hd : disj ks ws = true) : Keeps (FrOk (f.only ks)) ws := by
  intro a d v hdw h n u hu
  have hn := (only_get hu).2
  have hne : d ≠ n := fun e => by
    have := List.all_eq_true.1 hd n hn
    rw [mem_iff.2 (e ▸ hdw)] at this
    cases this
  simp [Act.put, Array.getElem?_setIfInBounds_ne hne, h n u hu]

theorem Keeps.and {G G' : Act → Prop} {ws : List Nat} (h : Keeps G ws) (h' : Keeps G' ws) : Keeps (fun a => G a ∧ G' a) ws :=
  fun a d v hd hg => ⟨h a d v hd hg.1, h' a d v hd hg.2⟩
theorem Keeps.sub {G : Act → Prop} {ws ws' : List Nat} (h : Keeps G ws) (hs : ∀ d, d ∈ ws' → d ∈ ws) : Keeps G ws' := fun a d v hd hg => h a d v (hs d hd) hg

theorem putL_ok {base f : Fr} {a : Act} (hb : FrOk base a) (hf : FrOk f a) : ∀ {outs : Outs} {x : Ts.den (tysL outs)}, getL f outs = some (Ts.inj (tysL outs) x) → FrOk (putL base outs x) a := by
  intro outs
  induction outs with
  | nil => intro x h; exact hb
  | cons p outs ih =>
    intro x h
    obtain ⟨k, t⟩ := p
    simp only [getL] at h
    split at h
    · rename_i v vs h1 h2
      have e := Option.some.inj h
      have e1 : v = t.inj x.1 := (List.cons.inj e).1
      have e2 : vs = Ts.inj (tysL outs) x.2 := (List.cons.inj e).2
      subst e1 e2
      have hr : FrOk (putL base outs x.2) a := ih h2
      intro n u hu
      have hu' : Fr.get ((k, t.inj x.1) :: putL base outs x.2) n = some u := hu
      rw [Fr.get_cons] at hu'
      by_cases e : k = n
      · subst e
        simp only [if_true, Option.some.injEq] at hu'
        rw [← hu']
        exact hf _ _ h1
      · simp only [e, if_false] at hu'
        exact hr n u hu'
    · cases h

def tagOf : Ex → Nat
  | .nrm => 0
  | .ret => 1
  | .ex id => id + 2

def outsOf (An : Ann) (nrm : Option Outs) : Ex → Option Outs
  | .nrm => nrm
  | .ret => some An.res
  | .ex id => some (An.blk id)

theorem tagOf_inj {e e' : Ex} (h : tagOf e = tagOf e') : e = e' := by
  cases e <;> cases e' <;> simp [tagOf] at h <;> first | rfl | (subst h; rfl) | omega

section
variable {P : Program} {An : Ann}

theorem encode_wp {outs : Outs} {e : Ex} {f : Fr} {h : Heap} {Qp : Nat → List Value → Heap → Prop} (hw : wp P (encode An outs e f) h Qp) :
    ∃ o vs, outsOf An (some outs) e = some o ∧ getL f o = some vs ∧ Qp (tagOf e) vs h := by
  cases e <;> simp only [encode] at hw <;> (split at hw <;> first | exact hw.elim | skip)
  all_goals
    rename_i vs hv
    exact ⟨_, vs, rfl, hv, hw⟩

theorem decode_wp {nrm : Option Outs} {base : Fr} {K : Ex → Fr → Prog} {h : Heap} {Qp : Nat → List Value → Heap → Prop} {vs : List Value} {e : Ex} : ∀ {es : List Nat},
    wp P (decode An nrm base K es (tagOf e) vs) h Qp → ∃ o x, outsOf An nrm e = some o ∧ vs = Ts.inj (tysL o) x ∧ wp P (K e (putL base o x)) h Qp := by
  intro es
  induction es with
  | nil =>
    intro hw
    simp only [decode] at hw
    split at hw
    · rename_i outs
      cases hb : Nat.beq (tagOf e) 0
      · simp only [ifB, eqN, hb, cond_false] at hw; exact hw.elim
      · simp only [ifB, eqN, hb, cond_true] at hw
        have : e = .nrm := tagOf_inj (nbeq_iff.1 hb)
        subst this
        obtain ⟨x, hx, hw⟩ := hw
        exact ⟨outs, x, rfl, hx, hw⟩
    · exact hw.elim
  | cons k es ih =>
    intro hw
    cases k with
    | zero =>
      simp only [decode] at hw
      cases hb : Nat.beq (tagOf e) 1
      · simp only [ifB, eqN, hb, cond_false] at hw; exact ih hw
      · simp only [ifB, eqN, hb, cond_true] at hw
        have : e = .ret := tagOf_inj (nbeq_iff.1 hb)
        subst this
        obtain ⟨x, hx, hw⟩ := hw
        exact ⟨An.res, x, rfl, hx, hw⟩
    | succ id =>
      simp only [decode] at hw
      cases hb : Nat.beq (tagOf e) (id + 2)
      · simp only [ifB, eqN, hb, cond_false] at hw; exact ih hw
      · simp only [ifB, eqN, hb, cond_true] at hw
        have : e = .ex id := tagOf_inj (nbeq_iff.1 hb)
        subst this
        obtain ⟨x, hx, hw⟩ := hw
        exact ⟨An.blk id, x, rfl, hx, hw⟩

theorem swAlts_mem {Γ : Ctx} {anys : List Nat} {ops : List Oper} {loose : List (Nat × Nat)} {f : Fr} {K : Fr → Prog} {h : Heap} {Qp : Nat → List Value → Heap → Prop} : ∀ {ls : List (List Nat)},
    wp P (swAlts P Γ anys ops loose f K ls) h Qp → ∀ L, L ∈ ls → wp P (swOps P Γ anys true ops loose L [] f K) h Qp := by
  intro ls
  induction ls with
  | nil => intro _ L hL; cases hL
  | cons l ls ih =>
    intro hw L hL
    cases ls with
    | nil => obtain rfl := List.mem_singleton.1 hL; exact hw
    | cons m ls =>
      obtain ⟨h1, h2⟩ := hw
      rcases List.mem_cons.1 hL with rfl | hL
      · exact h1
      · exact ih h2 L hL

theorem swRegion_sound {Γ : Ctx} (hΓ : CtxOk P Γ) (hm : P.follows .mixedOrders = true) {n : Nat} {id : Nat} {ops : Array Oper} {draw : Bool} (hok : okC P An n (.region id ops draw) = true) {w0 : World} {G : Act → Prop}
    {f : Fr} {K : Fr → Prog} {Qp : Nat → List Value → Heap → Prop} {Q : Exit → Act → World → Prop} {a : Act} {w : World} (hG : Keeps G (dsts ops.toList))
    (hs : St w0 G n f a w) (hw : wp P (swRegion P Γ An id ops.toList draw f K) w.heap Qp)
    (hK : ∀ f a w, St w0 G n f a w → wp P (K f) w.heap Qp → Q .normal a w) : (Code.region id ops draw).wp P Q a w := by
  simp only [okC, Bool.and_eq_true] at hok
  obtain ⟨-, hd, ho⟩ := hok
  have hdst : ∀ (i : Nat) o d, ops[i]? = some o → o.dst = some d → d < n ∧ d ∈ dsts ops.toList := by
    intro i o d hi hod
    have hmem : d ∈ dsts ops.toList := List.mem_filterMap.2 ⟨o, by
      have : ops.toList[i]? = some o := by simpa using hi
      exact List.mem_of_getElem? this, hod⟩
    exact ⟨Nat.le_of_ble_eq_true (List.all_eq_true.1 hd d hmem), hmem⟩
  cases draw
  · simp only [swRegion, cond_false] at hw
    refine wp_region (wpR_wpOps (dr := false) (loose := []) _ [] a w ?_)
    have := swOps_sound (P := P) (dr := false) hΓ (R := Q .normal) hdst hG hK (List.range ops.toList.length) [] [] f a w trivial hs hw
    simpa using this
  · simp only [swRegion, cond_true] at hw ho
    have hs' : St w0 G n f a w.drew := ⟨hs.fr, hs.sz, hs.env.trans (drew_env w), hs.nod, hs.g⟩
    split at hw
    · rename_i ls loose hord
      simp only [hord] at ho
      refine region_order hm ho fun L hL => ?_
      exact swOps_sound (P := P) (dr := true) hΓ (R := Q .normal) hdst hG hK L [] [] f a w.drew trivial hs' (swAlts_mem hw L hL)
    · exact hw.elim

theorem swC_sound {Γ : Ctx} (hΓ : CtxOk P Γ) (hm : P.follows .mixedOrders = true) {n : Nat} {w0 : World} : ∀ (c : Code), okC P An n c = true → ∀ {G : Act → Prop} {f : Fr} {K : Ex → Fr → Prog}
    {Qp : Nat → List Value → Heap → Prop} {Q : Exit → Act → World → Prop} {a : Act} {w : World}, Keeps G (writes c) → St w0 G n f a w → wp P (swC P Γ An c f K) w.heap Qp →
    (∀ e f a w, St w0 G n f a w → wp P (K e f) w.heap Qp → Q (toExit e) a w) → c.wp P Q a w := by
  intro c
  induction c with
  | skip => intro hok G f K Qp Q a w hG hs hw hK; exact wp_skip (hK _ _ _ _ hs hw)
  | region id ops draw =>
    intro hok G f K Qp Q a w hG hs hw hK
    simp only [swC] at hw
    split at hw
    · exact swRegion_sound hΓ hm hok hG hs hw fun f a w hs hw => hK .nrm f a w hs hw
    · rename_i outs keep ho
      rw [onlyK_eq] at hw
      have hdj : disj keep (dsts ops.toList) = true := by
        have h2 := hok
        simp only [okC, Bool.and_eq_true, ho, disjO] at h2
        exact h2.1
      have hG' := hG.and (keeps_only f hdj)
      refine swRegion_sound (G := fun a => G a ∧ FrOk (f.only keep) a) hΓ hm hok hG' ⟨hs.fr, hs.sz, hs.env, hs.nod, hs.g, hs.fr.only _⟩ hw fun f' a' w' hs' hw' => ?_
      obtain ⟨o, vs, h1, h2, h3⟩ := encode_wp hw'
      obtain ⟨o', x, h4, rfl, h5⟩ := decode_wp (e := .nrm) h3
      obtain rfl : o = o' := Option.some.inj (h1.symm.trans h4)
      exact hK .nrm _ _ _ ⟨putL_ok hs'.g.2 hs'.fr h2, hs'.sz, hs'.env, hs'.nod, hs'.g.1⟩ h5
  | seq c d ihc ihd =>
    intro hok G f K Qp Q a w hG hs hw hK
    simp only [okC, Bool.and_eq_true] at hok
    obtain ⟨hdj, hok⟩ := hok
    have hGc : Keeps G (writes c) := hG.sub fun d hd => List.mem_append_left _ hd
    have hGd : Keeps G (writes d) := hG.sub fun d hd => List.mem_append_right _ hd
    refine wp_seq ?_
    have hK' : ∀ e f a w, St w0 G n f a w → wp P ((fun e f' => match e with | .nrm => swC P Γ An d f' K | e => K e f' : Ex → Fr → Prog) e f) w.heap Qp → Exit.then (d.wp P Q) Q (toExit e) a w := by
      intro e f a w hs hw
      cases e with
      | nrm => exact ihd hok.2 hGd hs hw hK
      | ex id => exact hK (.ex id) f a w hs hw
      | ret => exact hK .ret f a w hs hw
    simp only [swC] at hw
    split at hw
    · exact ihc hok.1 hGc hs hw hK'
    · rename_i outs keep ho
      rw [onlyK_eq] at hw
      simp only [ho, disjO] at hdj
      have hG' := hGc.and (keeps_only f hdj)
      refine ihc hok.1 (G := fun a => G a ∧ FrOk (f.only keep) a) hG' ⟨hs.fr, hs.sz, hs.env, hs.nod, hs.g, hs.fr.only _⟩ hw fun e f' a' w' hs' hw' => ?_
      obtain ⟨o, vs, h1, h2, h3⟩ := encode_wp hw'
      obtain ⟨o', x, h4, rfl, h5⟩ := decode_wp h3
      obtain rfl : o = o' := Option.some.inj (h1.symm.trans h4)
      exact hK' e _ _ _ ⟨putL_ok hs'.g.2 hs'.fr h2, hs'.sz, hs'.env, hs'.nod, hs'.g.1⟩ h5
  | cond x c d ihc ihd =>
    intro hok G f K Qp Q a w hG hs hw hK
    simp only [okC, Bool.and_eq_true] at hok
    simp only [swC] at hw
    split at hw
    · rename_i t ht
      have he := ev_sound hs.fr ht
      cases t
      · simp only [ifB, cond_false] at hw
        exact wp_cond_false he (ihd hok.2 (hG.sub fun d hd => List.mem_append_right _ hd) hs hw hK)
      · simp only [ifB, cond_true] at hw
        exact wp_cond_true he (ihc hok.1 (hG.sub fun d hd => List.mem_append_left _ hd) hs hw hK)
    · exact hw.elim
  | block id c ih =>
    intro hok G f K Qp Q a w hG hs hw hK
    refine wp_block (ih hok hG hs hw fun e f a w hs hw => ?_)
    cases e with
    | nrm => exact hK .nrm f a w hs hw
    | ret => exact hK .ret f a w hs hw
    | ex j =>
      simp only at hw
      simp only [toExit, Exit.inBlock]
      by_cases e : j = id
      · subst e
        simp only [nbeq_iff.2 rfl, cond_true] at hw
        simp only [if_true]
        exact hK .nrm f a w hs hw
      · simp only [nbeq_ne e, cond_false] at hw
        simp only [e, if_false]
        exact hK (.ex j) f a w hs hw
  | loop c ih =>
    intro hok G f K Qp Q a w hG hs hw hK
    simp only [swC] at hw
    split at hw
    · exact hw.elim
    · rename_i outs keep ho
      split at hw
      · exact hw.elim
      · rename_i vs hvs
        split at hw
        · exact hw.elim
        rename_i s0 hs0
        obtain rfl := Ts.prj_inj hs0
        rw [onlyK_eq] at hw
        obtain ⟨I, μ, h0, hr⟩ := hw
        simp only [okC, Bool.and_eq_true, ho, disjO] at hok
        obtain ⟨hdj, hok⟩ := hok
        have hG' := hG.and (keeps_only f hdj)
        refine wp_loopS (I := fun s a w => I s w.heap ∧ St w0 (fun a => G a ∧ FrOk (f.only keep) a) n (putL (f.only keep) outs s) a w) (μ := fun s w => μ s w.heap) s0
          ⟨h0, putL_ok (hs.fr.only _) hs.fr hvs, hs.sz, hs.env, hs.nod, hs.g, hs.fr.only _⟩ fun s a w hi => ?_
        refine ih hok hG' hi.2 (hr s w.heap hi.1) fun e f' a' w' hs' hw' => ?_
        obtain ⟨o, vs, h1, h2, h3⟩ := encode_wp hw'
        cases e with
        | nrm =>
          obtain ⟨s', rfl, hI, hμ⟩ := h3.1 rfl
          obtain rfl := Option.some.inj h1
          exact ⟨s', ⟨hI, putL_ok hs'.g.2 hs'.fr h2, hs'.sz, hs'.env, hs'.nod, hs'.g⟩, hμ⟩
        | ret =>
          obtain ⟨o', x, h4, rfl, h5⟩ := decode_wp (e := .ret) (h3.2 (by simp [tagOf]))
          obtain rfl : o = o' := Option.some.inj (h1.symm.trans h4)
          exact hK .ret _ _ _ ⟨putL_ok hs'.g.2 hs'.fr h2, hs'.sz, hs'.env, hs'.nod, hs'.g.1⟩ h5
        | ex id =>
          obtain ⟨o', x, h4, rfl, h5⟩ := decode_wp (e := .ex id) (h3.2 (by simp [tagOf]))
          obtain rfl : o = o' := Option.some.inj (h1.symm.trans h4)
          exact hK (.ex id) _ _ _ ⟨putL_ok hs'.g.2 hs'.fr h2, hs'.sz, hs'.env, hs'.nod, hs'.g.1⟩ h5
  | exit id => intro hok G f K Qp Q a w hG hs hw hK; exact wp_exit (hK (.ex id) _ _ _ hs hw)
  | ret => intro hok G f K Qp Q a w hG hs hw hK; exact wp_ret (hK .ret _ _ _ hs hw)
  | rangeFunc => intro hok G f K Qp Q a w hG hs hw hK; exact hw.elim
  | scope => intro hok G f K Qp Q a w hG hs hw hK; exact hw.elim
  | label => intro hok G f K Qp Q a w hG hs hw hK; exact hw.elim
  | goto => intro hok G f K Qp Q a w hG hs hw hK; exact hw.elim
  | refuse => intro hok G f K Qp Q a w hG hs hw hK; exact hw.elim

theorem initFr_get : ∀ {vs : List Value} {k n : Nat} {v : Value}, (initFr k vs).get n = some v → k ≤ n ∧ vs[n - k]? = some v := by
  intro vs
  induction vs with
  | nil => intro k n v h; simp [initFr, Fr.get] at h
  | cons u vs ih =>
    intro k n v h
    simp only [initFr, Fr.get_cons] at h
    by_cases e : k = n
    · subst e
      simp only [if_true, Option.some.injEq] at h
      simp [h]
    · simp only [e, if_false] at h
      obtain ⟨h1, h2⟩ := ih h
      refine ⟨by omega, ?_⟩
      have : n - k = (n - (k + 1)) + 1 := by omega
      rw [this]
      simpa using h2

def resSem (tmps : Array Value) : ResultVar → Sem Value
  | .tmp t => pure (tmps.getD t undef)
  | .cell x t => do loadVar t (← asAddr (tmps.getD x undef))

theorem retVals_sound {f : Fr} {a : Act} {w : World} (hf : FrOk f a) : ∀ {rs : List ResultVar} {K : List Value → Prog} {Qp : Nat → List Value → Heap → Prop}, wp P (retVals P f rs K) w.heap Qp →
    ∃ vs, (rs.mapM (resSem a.tmps)).run P w = .ok vs w ∧ wp P (K vs) w.heap Qp ∧ vs.length = rs.length := by
  intro rs
  induction rs with
  | nil => intro K Qp h; exact ⟨[], by simp, h, rfl⟩
  | cons r rs ih =>
    intro K Qp h
    cases r with
    | tmp t =>
      simp only [retVals] at h
      split at h
      · rename_i v hv
        obtain ⟨vs, h1, h2, h3⟩ := ih h
        refine ⟨v :: vs, ?_, h2, by simp [h3]⟩
        have hv' : a.tmps.getD t undef = v := by simp [hf _ _ hv]
        simp only [List.mapM_cons, Sem.run_bind, resSem, Sem.run_pure, Result.andThen_ok, hv']
        simp only [h1, Result.andThen_ok]
      · exact h.elim
    | cell x t =>
      simp only [retVals] at h
      split at h
      · rename_i p ty hx ht
        obtain ⟨ad, rfl, y, hc, h⟩ := h
        obtain ⟨vs, h1, h2, h3⟩ := ih h
        refine ⟨ty.inj y :: vs, ?_, h2, by simp [h3]⟩
        have hx' : a.tmps.getD x undef = .pointer (some ad) := by simp [hf _ _ hx]
        simp only [List.mapM_cons, Sem.run_bind, resSem, hx', asAddr, Sem.run_pure, Result.andThen_ok, loadVar_ok (P := P) ht hc]
        simp only [h1, Result.andThen_ok]
      · exact h.elim

theorem results_ok {fn : Func} {a : Act} {w : World} {vs : List Value} (h : (fn.results.toList.mapM (resSem a.tmps)).run P w = .ok vs w) :
    (results fn a.tmps).run P w = .ok (resV vs) w := by
  change (do let vs ← fn.results.mapM (resSem a.tmps); pure (if h : vs.size = 1 then vs[0] else .tuple vs) : Sem Value).run P w = _
  rw [Array.mapM_eq_mapM_toList]
  simp only [Sem.run_bind, Sem.run_map, h, Result.andThen_ok]
  match vs with
  | [] => rfl
  | [v] => rfl
  | u :: v :: r => rfl

/-- ████ FROM A FUNCTION's SHALLOW PROGRAM TO ITS CALL. -/
theorem fn_sound {Γ : Ctx} (hΓ : CtxOk P Γ) (hm : P.follows .mixedOrders = true) {i : FuncId} {fn : Func} {c : Code} (hf : P.funcs[i]? = some fn) (hb : fn.body = some c) {n : Nat} (hn : fn.ntmps = n) (hok : okC P An n c = true)
    {args : List Value} (ha : Nat.ble args.length n = true) {h : Heap} {Q : List Value → Heap → Prop} (hw : wp P (swTop P Γ An fn args) h (fun tag vs h' => tag = 0 ∧ Q vs h')) : CallsV P i args h Q := by
  intro w hwh
  subst hwh
  refine calls_of_wp hf hb ?_
  simp only [swTop, hb] at hw
  have hle : args.length ≤ n := Nat.le_of_ble_eq_true ha
  have hsz : (args.toArray ++ Array.replicate (fn.ntmps - args.toArray.size) undef).size = n := by simp [hn]; omega
  refine swC_sound (w0 := w) (G := fun _ => True) hΓ hm c hok (fun _ _ _ _ h => h) ⟨?_, hsz, Env.refl w, rfl, trivial⟩ hw fun e f a w' hs hw' => ?_
  · intro k v hv
    obtain ⟨h0, h1⟩ := initFr_get hv
    have hlt : k < args.length := (List.getElem?_eq_some_iff.1 h1).1
    simp only [Nat.sub_zero] at h1
    have h2 : args[k] = v := by rw [List.getElem?_eq_getElem hlt] at h1; exact Option.some.inj h1
    simp [Array.getElem?_append, hlt, h2]
  · have key : wp P (retVals P f fn.results.toList fun vs => .ret 0 vs) w'.heap (fun tag vs h' => tag = 0 ∧ Q vs h') → a.defers = [] ∧ ∃ v, (results fn a.tmps).run P w' = .ok v w' ∧
        ∃ vs, Ending.returned v = .returned (resV vs) ∧ Env w w' ∧ Q vs w'.heap := by
      intro hx
      obtain ⟨vs, h1, h2, -⟩ := retVals_sound hs.fr hx
      exact ⟨hs.nod, resV vs, results_ok h1, vs, rfl, hs.env, h2.2⟩
    cases e with
    | nrm => exact key hw'
    | ret => exact key hw'
    | ex id => exact hw'.elim

end

end Go.Sw
