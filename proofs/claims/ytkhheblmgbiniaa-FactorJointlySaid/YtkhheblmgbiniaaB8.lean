/- What an operation's reckoning hangs on. -/
import Derived.Test.YtkhheblmgbiniaaB7
namespace Go.Sy
open Go Go.RowKit

variable {N : Nat} {w0 : World} {C0 : CMap} {E : EX} {s s' : St} {a : Act} {w : World} {C : CMap} {ρ : RMap} {τ : TMap} {P : Program} {o : Oper} {e : Eff} {ops : Array Oper}

def isSt (o : Oper) : Bool := match o.op with | .store .. => true | _ => false
def accB (o : Oper) : Bool := match o.op with | .store .. | .load .. | .makeFunc .. => true | _ => false
def isApp (o : Oper) : Bool := match o.op with | .call { callee := .builtin .append, .. } => true | _ => false

def tmpOf : Operand → Option Nat
  | .tmp x => some x
  | _ => none
/-- The slots that lead to what the operation reads or writes. -/
def addrs (o : Oper) : List Nat := match o.op with
  | .load _ x | .store _ x _ => (tmpOf x).toList
  | .makeFunc _ f cs => (f ++ cs).toList.filterMap tmpOf
  | _ => []
def recv (o : Oper) : Option Operand := match o.op with
  | .call { args, .. } => args.toList.head?
  | _ => none

/-- Two states that an operation cannot tell apart. -/
structure Alike (P : Program) (o : Oper) (s s' : St) : Prop where
  t : ∀ x ∈ o.op.operands, ∀ t, s.o P t x = s'.o P t x
  g : isSt o = false → s.g (o.dst.getD 0) = s'.g (o.dst.getD 0)
  b : ∀ y ∈ addrs o, ∀ k off, s.t y = .box k off → s.b k = s'.b k
  d : isApp o = true → ∀ y, recv o = some (.tmp y) → ∀ sz xs k, s.t y = .list sz xs (.own k) → s.d k = s'.d k

theorem o_box {x : Operand} {t : TypeId} {k : Key} {off : Nat} (h : s.o P t x = .box k off) : ∃ y, x = .tmp y ∧ s.t y = .box k off := by
  cases x with
  | tmp y => exact ⟨y, rfl, h⟩
  | const v =>
    simp only [St.o] at h
    unfold cst at h
    split at h
    · cases h
    · split at h <;> cases h
    · split at h <;> cases h
  | global g => cases h
  | func f => cases h
theorem o_own {x : Operand} {t : TypeId} {sz : Nat} {xs : List (List AV)} {k : Key} (h : s.o P t x = .list sz xs (.own k)) : ∃ y, x = .tmp y ∧ s.t y = .list sz xs (.own k) := by
  cases x with
  | tmp y => exact ⟨y, rfl, h⟩
  | const v =>
    simp only [St.o] at h
    unfold cst at h
    split at h
    · cases h
    · split at h <;> cases h
    · split at h <;> cases h
  | global g => cases h
  | func f => cases h

theorem argsAV_congr : ∀ (xs : List Operand) (ts : List TypeId), (∀ x ∈ xs, ∀ t, s.o P t x = s'.o P t x) → argsAV P s xs ts = argsAV P s' xs ts
  | [], _, _ => rfl
  | _ :: _, [], _ => rfl
  | x :: xs, t :: ts, h => by
    have h1 := h x (List.mem_cons_self ..) t
    have h2 := argsAV_congr xs ts (fun y hy => h y (List.mem_cons_of_mem _ hy))
    simp only [argsAV, List.zipWith_cons_cons] at h2 ⊢
    rw [h1, h2]

theorem capAV_congr : ∀ (xs : List AV), (∀ k off, AV.box k off ∈ xs → s.b k = s'.b k) → capAV s xs = capAV s' xs
  | [], _ => rfl
  | x :: xs, h => by
    have ih := capAV_congr xs (fun k off hk => h k off (List.mem_cons_of_mem _ hk))
    cases x with
    | box k off =>
      cases off with
      | zero =>
        have hb := h k 0 (List.mem_cons_self ..)
        simp only [capAV, hb, ih]
      | succ off => rfl
    | ptr l => simp only [capAV, ih]
    | _ => rfl

theorem parts_congr {ps : Array (Nat × Operand)} (f : Nat → TypeId) (h : ∀ x ∈ (ps.toList.map (·.2)).toArray, ∀ t, s.o P t x = s'.o P t x) :
    (ps.toList.map fun p => (p.1, s.o P (f p.1) p.2)) = (ps.toList.map fun p => (p.1, s'.o P (f p.1) p.2)) := by
  apply List.map_congr_left
  intro p hp
  rw [h p.2 (by simp; exact ⟨p.1, by simpa using hp⟩)]

theorem ev_congr (h : Alike P o s s') : ev P s o = ev P s' o := by
  obtain ⟨ht, hg, hb, hd⟩ := h
  obtain ⟨dst, op, ty, pos, after, guard⟩ := o
  simp only [isSt] at hg
  cases op with
  | move x => simp only [ev]; rw [ht x (by simp [Op.operands])]
  | assign x => simp only [ev]; rw [ht x (by simp [Op.operands])]
  | pick c x y => simp only [ev]; rw [ht c (by simp [Op.operands]), ht x (by simp [Op.operands]), ht y (by simp [Op.operands])]
  | alloc t => simp only [ev]; rw [hg rfl]
  | box t x => simp only [ev]; rw [ht x (by simp [Op.operands]), hg rfl]
  | build t ps => simp only [ev]; rw [parts_congr (ptype P t) (by simpa [Op.operands] using ht)]
  | buildSlice t n ps => simp only [ev]; rw [parts_congr (ptype P t) (by simpa [Op.operands] using ht), hg rfl]
  | load t x =>
    have h1 := ht x (by simp [Op.operands]) 0
    simp only [ev]
    rw [← h1]
    cases hx : s.o P 0 x with
    | box k off =>
      obtain ⟨y, rfl, hy⟩ := o_box hx
      simp only [hb y (by simp [addrs, tmpOf]) k off hy]
    | _ => rfl
  | store t x y =>
    have h1 := ht x (by simp [Op.operands]) 0
    have h3 := ht y (by simp [Op.operands]) t
    simp only [ev]
    rw [← h1, ← h3]
    cases hx : s.o P 0 x with
    | box k off =>
      obtain ⟨z, rfl, hz⟩ := o_box hx
      cases hc : cells? (s.o P t y) with
      | none => rfl
      | some c => simp only [hb z (by simp [addrs, tmpOf]) k off hz]
    | _ => rfl
  | nilCheck x => simp only [ev]; rw [ht x (by simp [Op.operands])]
  | binOp op t x y u => simp only [ev]; rw [ht x (by simp [Op.operands]), ht y (by simp [Op.operands])]
  | unOp op t x => simp only [ev]; rw [ht x (by simp [Op.operands])]
  | convert t u x => simp only [ev]; rw [ht x (by simp [Op.operands])]
  | fieldAddr t x f => simp only [ev]; rw [ht x (by simp [Op.operands])]
  | indexAddr t x i => simp only [ev]; rw [ht x (by simp [Op.operands]), ht i (by simp [Op.operands])]
  | extract x i => simp only [ev]; rw [ht x (by simp [Op.operands])]
  | makeSlice t x y => simp only [ev]; rw [ht x (by simp [Op.operands]), ht y (by simp [Op.operands]), hg rfl]
  | makeFunc fn first caps =>
    cases fn with
    | func f =>
      simp only [ev]
      have e1 : caps.toList.map (s.o P 0) = caps.toList.map (s'.o P 0) := by
        apply List.map_congr_left
        intro x hx
        exact ht x (by simp [Op.operands]; exact .inr (by simpa using hx)) 0
      rw [← e1, capAV_congr (s := s) (s' := s') _ (fun k off hk => ?_)]
      obtain ⟨x, hx, hxk⟩ := List.mem_map.1 hk
      obtain ⟨z, rfl, hz⟩ := o_box hxk
      exact hb z (by simp only [addrs, List.mem_filterMap]; exact ⟨.tmp z, by simp; exact .inr (by simpa using hx), rfl⟩) k off hz
    | _ => rfl
  | slice t x lo hi mx =>
    cases lo with
    | some _ => rfl
    | none =>
      cases hi with
      | none => rfl
      | some hi =>
        cases mx with
        | some _ => rfl
        | none => simp only [ev]; rw [ht x (by simp [Op.operands]), ht hi (by simp [Op.operands])]
  | call c =>
    obtain ⟨callee, args, ts⟩ := c
    cases callee with
    | value f => rfl
    | invoke r m => rfl
    | builtin b =>
      have hargs : ∀ x ∈ args.toList, ∀ t, s.o P t x = s'.o P t x := fun x hx => ht x (by simp [Op.operands, Call.operands]; simpa using hx)
      cases b with
      | len =>
        simp only [ev]
        split
        · rename_i x t hx _
          rw [hargs x (by rw [hx]; simp)]
        · rfl
      | append =>
        simp only [ev]
        split
        · rename_i x y t t' hx _
          have h1 := hargs x (by rw [hx]; simp) t
          have h2 := hargs y (by rw [hx]; simp) t'
          rw [← h1, ← h2, hg rfl]
          cases hlx : s.o P t x with
          | list sz xs tk =>
            have htok : tokOK s tk = tokOK s' tk := by
              cases tk with
              | own k =>
                obtain ⟨z, rfl, hz⟩ := o_own hlx
                have := hd rfl z (by simp [recv, hx]) sz xs k hz
                simp only [tokOK, this]
              | _ => rfl
            cases hly : s.o P t' y with
            | list sz' ys tk' => simp only [htok]
            | _ => rfl
          | _ => rfl
        · rfl
      | max =>
        simp only [ev]
        split
        · rename_i x y hx
          rw [hargs x (by rw [hx]; simp), hargs y (by rw [hx]; simp)]
        · rfl
      | min =>
        simp only [ev]
        split
        · rename_i x y hx
          rw [hargs x (by rw [hx]; simp), hargs y (by rw [hx]; simp)]
        · rfl
      | _ => rfl
  | _ => rfl

theorem Ev_congr (h : Alike P o s s') (he : Ev P s o e) : Ev P s' o e := by
  rcases he with he | he
  · exact .inl (by rw [← ev_congr h]; exact he)
  · refine .inr ?_
    unfold CallEv at he ⊢
    split at he
    · rename_i g args ts ho
      obtain ⟨f, caps, n, r, hg, hts, hcl, hcon, rfl⟩ := he
      have hargs : ∀ x ∈ args.toList, ∀ t, s.o P t x = s'.o P t x := fun x hx => h.t x (by rw [ho]; simp [Op.operands, Call.operands]; exact .inr (by simpa using hx))
      have hst : isSt o = false := by simp [isSt, ho]
      have hcg := h.t g (by rw [ho]; simp [Op.operands, Call.operands]) 0
      have e1 := argsAV_congr args.toList ts.toList hargs
      refine ⟨f, caps, n, r, by rw [← hcg]; exact hg, hts, by rw [← e1]; exact hcl, by rw [← e1]; exact hcon, by rw [h.g hst]⟩
    · exact he.elim

def pcall (P : Program) (o : Oper) : Bool := match o.op with
  | .call { callee := .value _, args, argTypes } => (match args.toList, argTypes.toList with
    | _ :: _, t0 :: _ => isPtrT P t0
    | _, _ => false)
  | _ => false
theorem EEvK_congr {k : Key} {v : AV} {c : List AV} {kl : Option Key} (ht : ∀ x ∈ o.op.operands, ∀ t, s.o P t x = s'.o P t x) (hb : s.b k = s'.b k) (hg : s.g k.1 = s'.g k.1) (hd : ∀ k', kl = some k' → s.d k' = s'.d k')
    (h : EEvK P s o k v c kl) : EEvK P s' o k v c kl := by
  unfold EEvK at h ⊢
  split at h
  · rename_i g args ts ho
    obtain ⟨f, x0, xs, t0, ts, pre, x, pre', x', h1, h2, h3, h4, h5, h6, h7, h8, h9, h10, h11, rfl, rfl⟩ := h
    have hargs : ∀ x ∈ args.toList, ∀ t, s.o P t x = s'.o P t x := fun x hx => ht x (by rw [ho]; simp [Op.operands, Call.operands]; exact .inr (by simpa using hx))
    have e1 := argsAV_congr xs ts (fun x hx => hargs x (by rw [h2]; exact List.mem_cons_of_mem _ hx))
    have hx : lastOK s' x = true := by
      cases x with
      | list sz xs tk =>
        cases tk with
        | own k' =>
          have := hd k' rfl
          simp only [lastOK, this] at h9 ⊢
          exact h9
        | _ => rfl
      | _ => exact h9
    refine ⟨f, x0, xs, t0, ts, pre, x, pre', x', ?_, h2, h3, h4, h5, ?_, ?_, h8, hx, ?_, ?_, ?_, rfl⟩
    · rw [← ht g (by rw [ho]; simp [Op.operands, Call.operands])]; exact h1
    · rw [← hargs x0 (by rw [h2]; exact List.mem_cons_self ..)]; exact h6
    · rw [← hb]; exact h7
    · rw [← e1]; exact h10
    · rw [← e1]; exact h11
    · rw [hg]
  · exact h.elim

theorem EEvK_facts {k : Key} {v : AV} {c : List AV} {kl : Option Key} (h : EEvK P s o k v c kl) : pcall P o = true ∧ (∃ x0 ∈ o.op.operands, recv o = some x0 ∧ ∃ t, s.o P t x0 = .box k 0) ∧
    (∀ k', kl = some k' → s.d k' = false ∧ ∃ pre sz xs, s.b k = some ⟨pre ++ [.list sz xs (.own k')], false⟩) := by
  unfold EEvK at h
  split at h
  · rename_i g args ts ho
    obtain ⟨f, x0, xs, t0, ts, pre, x, pre', x', h1, h2, h3, h4, h5, h6, h7, h8, h9, h10, h11, rfl, rfl⟩ := h
    refine ⟨by simp [pcall, ho, h2, h3, h5], ⟨x0, ?_, by simp [recv, ho, h2], t0, h6⟩, ?_⟩
    · have : x0 ∈ args.toList := by rw [h2]; simp
      rw [ho]; simp [Op.operands, Call.operands]; exact .inr (by simpa using this)
    · intro k' hk'
      cases x with
      | list sz xs tk =>
        cases tk with
        | own k2 =>
          simp [lastKey, tokKey] at hk'
          subst hk'
          exact ⟨by simpa [lastOK] using h9, pre, sz, xs, h7⟩
        | _ => simp [lastKey, tokKey] at hk'
      | _ => simp [lastKey] at hk'
  · exact h.elim

/-- A call that turns nothing points at no box. -/
theorem Ev_recv (he : Ev P s o e) (hp : pcall P o = true) {x0 : Operand} (hx : recv o = some x0) {k : Key} {off : Nat} (hb : ∀ t, s.o P t x0 = .box k off) : False := by
  unfold pcall at hp
  split at hp
  · rename_i g args ts ho
    split at hp
    · rename_i y ys t0 ts' h1 h2
      rcases he with he | he
      · simp [ev, ho] at he
      · unfold CallEv at he
        rw [ho] at he
        obtain ⟨f, caps, n, r, _, _, hcl, _⟩ := he
        simp [recv, ho, h1] at hx
        subst hx
        rw [h1, h2] at hcl
        simp [argsAV, hb, fgtV, fgt, cleanV, clean] at hcl
    · cases hp
  · cases hp

/-- What is stored to, what is killed: named by an operand. -/
theorem ev_st (he : Ev P s o e) {k : Key} (hk : k ∈ e.st.map Prod.fst) : isSt o = true ∧ ∃ y ∈ addrs o, ∃ off, s.t y = .box k off := by
  rcases he with he | he
  · obtain ⟨dst, op, ty, pos, after, guard⟩ := o
    cases op with
    | store t x y =>
      simp only [ev] at he
      split at he
      case h_2 => cases he
      rename_i k' off c hx hc
      split at he
      case h_2 => cases he
      split at he
      case isFalse => cases he
      cases he
      simp at hk
      subst hk
      obtain ⟨z, rfl, hz⟩ := o_box hx
      exact ⟨rfl, z, by simp [addrs, tmpOf], off, hz⟩
    | call c =>
      exfalso
      obtain ⟨callee, args, ts⟩ := c
      cases callee with
      | builtin b =>
        cases b <;> simp only [ev, reduceCtorEq] at he <;> (repeat' split at he) <;> first | (cases he; done) | (cases he; simp at hk)
      | _ => simp [ev] at he
    | makeFunc fn first caps => cases fn <;> simp only [ev, reduceCtorEq] at he <;> (split at he) <;> first | (cases he; done) | (obtain ⟨_, _, rfl⟩ := Option.map_eq_some_iff.1 he; simp at hk)
    | slice t x lo hi mx =>
      exfalso
      cases lo <;> cases hi <;> cases mx <;> simp only [ev, reduceCtorEq] at he
      (repeat' split at he) <;> first | (cases he; done) | (cases he; simp at hk)
    | _ =>
      exfalso
      first
        | (simp only [ev, reduceCtorEq] at he; done)
        | (simp only [ev] at he; obtain ⟨_, _, rfl⟩ := Option.map_eq_some_iff.1 he; simp at hk; done)
        | (simp only [ev] at he; cases he; simp at hk; done)
        | (simp only [ev] at he; (repeat' split at he) <;> first | (cases he; done) | (cases he; simp at hk; done) | (obtain ⟨_, _, rfl⟩ := Option.map_eq_some_iff.1 he; simp at hk; done))
  · unfold CallEv at he
    split at he
    · obtain ⟨f, caps, n, r, _, _, _, _, rfl⟩ := he
      simp at hk
    · exact he.elim

theorem ev_kl (he : Ev P s o e) {k : Key} (hk : e.kl = some k) : isApp o = true ∧ o.dst.isSome = true ∧ ∃ y, recv o = some (.tmp y) ∧ ∃ sz xs, s.t y = .list sz xs (.own k) ∧ s.d k = false := by
  rcases he with he | he
  · obtain ⟨dst, op, ty, pos, after, guard⟩ := o
    cases op with
    | call c =>
      obtain ⟨callee, args, ts⟩ := c
      cases callee with
      | builtin b =>
        cases b with
        | append =>
          simp only [ev] at he
          split at he
          case h_2 => cases he
          rename_i x y t t' hx ht
          split at he
          case h_2 => cases he
          rename_i sz xs tk sz' ys tk' hlx hly
          split at he
          case isFalse => cases he
          rename_i hcond
          cases he
          cases tk with
          | own k' =>
            simp only [tokKey, Option.some.injEq] at hk
            subst hk
            obtain ⟨z, rfl, hz⟩ := o_own hlx
            refine ⟨rfl, hcond.1, z, by simp [recv, hx], sz, xs, hz, ?_⟩
            have := hcond.2.2.2.2.2.1
            simpa [tokOK] using this
          | _ => simp [tokKey] at hk
        | _ => exfalso; simp only [ev, reduceCtorEq] at he <;> (repeat' split at he) <;> first | (cases he; done) | (cases he; simp at hk)
      | _ => simp [ev] at he
    | makeFunc fn first caps => cases fn <;> simp only [ev, reduceCtorEq] at he <;> (split at he) <;> first | (cases he; done) | (obtain ⟨_, _, rfl⟩ := Option.map_eq_some_iff.1 he; simp at hk)
    | slice t x lo hi mx =>
      exfalso
      cases lo <;> cases hi <;> cases mx <;> simp only [ev, reduceCtorEq] at he
      (repeat' split at he) <;> first | (cases he; done) | (cases he; simp at hk)
    | _ =>
      exfalso
      first
        | (simp only [ev, reduceCtorEq] at he; done)
        | (simp only [ev] at he; obtain ⟨_, _, rfl⟩ := Option.map_eq_some_iff.1 he; simp at hk; done)
        | (simp only [ev] at he; cases he; simp at hk; done)
        | (simp only [ev] at he; (repeat' split at he) <;> first | (cases he; done) | (cases he; simp at hk; done) | (obtain ⟨_, _, rfl⟩ := Option.map_eq_some_iff.1 he; simp at hk; done))
  · unfold CallEv at he
    split at he
    · obtain ⟨f, caps, n, r, _, _, _, _, rfl⟩ := he
      simp at hk
    · exact he.elim

/-- An append lets its owner's token die. -/
theorem ev_app (he : Ev P s o e) (ho : isApp o = true) {y : Nat} (hy : recv o = some (.tmp y)) {sz : Nat} {xs : List (List AV)} {k : Key} (hk : s.t y = .list sz xs (.own k)) : e.kl = some k := by
  unfold isApp at ho
  split at ho
  case h_2 => cases ho
  rename_i args ts hop
  rcases he with he | he
  · simp only [ev, hop] at he
    split at he
    case h_2 => cases he
    rename_i x z t t' hx ht
    simp [recv, hop, hx] at hy
    subst hy
    split at he
    case h_2 => cases he
    rename_i sz' xs' tk sz2 ys tk' hlx hly
    simp only [St.o, hk] at hlx
    cases hlx
    split at he
    case isFalse => cases he
    cases he
    rfl
  · unfold CallEv at he
    rw [hop] at he
    exact he.elim

end Go.Sy
