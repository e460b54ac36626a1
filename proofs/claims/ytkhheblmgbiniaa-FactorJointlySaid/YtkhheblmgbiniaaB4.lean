/- Regions, code, functions. -/
import Derived.Test.YtkhheblmgbiniaaE1
namespace Go.Sy
open Go Go.RowKit

variable {N : Nat} {w0 : World} {C0 : CMap} {E : EX} {s : St} {a : Act} {w : World} {C : CMap} {ρ : RMap} {τ : TMap} {P : Program} {o : Oper} {e : Eff}

/-- Is the operation wanted? -/
def wantA (ops : Array Oper) (s : St) (o : Oper) : Option Bool :=
  match o.guard with
  | none => some true
  | some (j, want) => match (ops[j]?).bind (·.dst) with
    | some d => match s.t d with
      | .v (.bool b) => some (b == want)
      | .tup [] => some false
      | _ => none
    | none => none

def St.skip (s : St) : Option Nat → St
  | none => s
  | some d => s.set d (.tup [])

/-- One operation, told what follows. -/
def stepF (P : Program) (s : St) (o : Oper) (K : Eff → Prop) : Prop := match o.op with
  | .call { callee := .value g, args, argTypes } => match s.o P 0 g with
    | .clo f caps => args.size ≤ argTypes.size ∧ (argsAV P s args.toList argTypes.toList).all cleanV = true ∧
        ∃ n r, Con P f (argsAV P s args.toList argTypes.toList ++ caps) n r ∧ K { v := ren (o.dst.getD 0) (s.g (o.dst.getD 0)) r, nt := n }
    | _ => False
  | _ => match ev P s o with
    | some e => K e
    | none => False

theorem stepF_elim {P : Program} {s : St} {o : Oper} {K : Eff → Prop} (h : stepF P s o K) : ∃ e, Ev P s o e ∧ K e := by
  unfold stepF at h
  split at h
  · rename_i g args ts ho
    split at h
    · rename_i f caps hg
      obtain ⟨h1, h2, n, r, h3, h4⟩ := h
      refine ⟨_, .inr ?_, h4⟩
      unfold CallEv
      rw [ho]
      exact ⟨f, caps, n, r, hg, h1, h2, h3, rfl⟩
    · exact h.elim
  · split at h
    · rename_i e he
      exact ⟨e, .inl he, h⟩
    · exact h.elim

/-- The box that a call turns. -/
def box0 : AV → Option Key
  | .box k 0 => some k
  | _ => none
def boxArg (P : Program) (s : St) (o : Oper) : Option Key := match o.op with
  | .call { callee := .value _, args, argTypes } => (match args.toList, argTypes.toList with
    | x0 :: _, t0 :: _ => if isPtrT P t0 = true then box0 (s.o P t0 x0) else none
    | _, _ => none)
  | _ => none
def estepF (P : Program) (s : St) (o : Oper) (k : Key) (K : St → Prop) : Prop := ∃ v c kl, EEvK P s o k v c kl ∧ K (s.ecall o.dst k v c kl)
def stepG (P : Program) (s : St) (o : Oper) (K : St → Prop) : Prop := match boxArg P s o with
  | none => stepF P s o fun e => K (s.app o.dst e)
  | some k => estepF P s o k K

inductive Stp where
  | ef (e : Eff)
  | ec (k : Key) (v : AV) (c : List AV) (kl : Option Key) (g : Nat)
def EvG (P : Program) (s : St) (o : Oper) : Stp → Prop
  | .ef e => Ev P s o e
  | .ec k v c kl g => EEvK P s o k v c kl ∧ g = s.g k.1
def St.stp (s : St) (d : Option Nat) : Stp → St
  | .ef e => s.app d e
  | .ec k v c kl _ => s.ecall d k v c kl

theorem stepG_elim {P : Program} {s : St} {o : Oper} {K : St → Prop} (h : stepG P s o K) : ∃ p, EvG P s o p ∧ K (s.stp o.dst p) := by
  unfold stepG at h
  split at h
  · obtain ⟨e, h1, h2⟩ := stepF_elim h
    exact ⟨.ef e, h1, h2⟩
  · obtain ⟨v, c, kl, h1, h2⟩ := h
    exact ⟨.ec _ v c kl _, ⟨h1, rfl⟩, h2⟩

theorem stp_sound {p : Stp} {Q : Exit → Act → World → Prop} {K : Act → World → Prop} (h : Rep N w0 C0 E s a w) (hN : ∀ d, o.dst = some d → d < N) (he : EvG P s o p)
    (hK : ∀ a' w', Rep N w0 C0 E (s.stp o.dst p) a' w' → K a' w') : o.wp P a w K Q := by
  cases p with
  | ef e => exact step_sound h hN he hK
  | ec k v c kl g => exact estep_sound h hN he.1 hK

def aops (P : Program) (ops : Array Oper) : List Oper → St → (St → Prop) → Prop
  | [], s, K => K s
  | o :: r, s, K => match wantA ops s o with
    | none => False
    | some c => (c = true → stepG P s o fun s' => aops P ops r s' K) ∧ (c = false → aops P ops r (s.skip o.dst) K)

theorem wantA_sound {ops : Array Oper} {c : Bool} (h : RepG N w0 C0 E s a w C ρ τ) (hc : wantA ops s o = some c) : Region.wanted o (yielded ops a.tmps) = c := by
  unfold wantA at hc
  unfold Region.wanted
  split at hc
  · rename_i hg
    rw [hg]
    simpa using hc
  · rename_i j want hg
    rw [hg]
    split at hc
    · rename_i d hd
      split at hc
      · rename_i b hb
        cases hc
        have := h.tm d
        rw [hb] at this
        have := (rv_v this).1
        have hx : a.tmps[d]? = some (.bool b) := by
          rw [Array.getD_eq_getD_getElem?] at this
          cases hq : a.tmps[d]? with
          | none => rw [hq] at this; simp [undef] at this
          | some v => rw [hq] at this; simp at this; rw [this]
        simp [yielded, hd, hx]
      · rename_i hb
        cases hc
        have := h.tm d
        rw [hb] at this
        obtain ⟨cs, hcs, h1, _⟩ := rv_tup this
        rw [Array.getD_eq_getD_getElem?] at hcs
        have : ∀ b, a.tmps[d]? ≠ some (.bool b) := by
          intro b hb2
          rw [hb2] at hcs
          exact Value.noConfusion hcs
        have hy : yielded ops a.tmps j = none := by
          have hbd : ((ops[j]?).bind (·.dst)).bind (a.tmps[·]?) = a.tmps[d]? := by rw [hd]; rfl
          unfold yielded
          rw [hbd]
          cases hq : a.tmps[d]? with
          | none => rfl
          | some q =>
            cases q with
            | bool b => exact absurd hq (this b)
            | _ => rfl
        simp only [hy]
        rfl
      · cases hc
    · cases hc

theorem skip_sound (h : Rep N w0 C0 E s a w) (hN : ∀ d, o.dst = some d → d < N) : Rep N w0 C0 E (s.skip o.dst) (a.put o.dst undef) w := by
  obtain ⟨C, ρ, τ, h⟩ := h
  cases hd : o.dst with
  | none => exact ⟨C, ρ, τ, h⟩
  | some d => exact ⟨C, ρ, τ, h.set d (hN d hd) (.tup #[] [] rfl (fun i v a h => by simp at h))⟩

theorem aops_sound {ops : Array Oper} {Q : Exit → Act → World → Prop} {K : St → Prop} (hQ : ∀ s' a' w', K s' → Rep N w0 C0 E s' a' w' → Q .normal a' w') :
    ∀ (l : List Oper) (s : St) (a : Act) (w : World), (∀ o ∈ l, ∀ d, o.dst = some d → d < N) → aops P ops l s K → Rep N w0 C0 E s a w → wpList P ops Q l a w
  | [], s, a, w, _, h, hr => hQ s a w h hr
  | o :: r, s, a, w, hN, h, hr => by
    unfold aops at h
    split at h
    · exact h.elim
    · rename_i c hc
      obtain ⟨C, ρ, τ, hr'⟩ := id hr
      have hw := wantA_sound hr' hc
      have hNo := hN o (List.mem_cons_self ..)
      unfold wpList
      cases c with
      | true =>
        rw [if_pos hw]
        obtain ⟨e, he, h2⟩ := stepG_elim (h.1 rfl)
        exact .inl (stp_sound hr hNo he fun a' w' hr' => aops_sound hQ r _ a' w' (fun o ho => hN o (List.mem_cons_of_mem _ ho)) h2 hr')
      | false =>
        rw [if_neg (by simp [hw])]
        exact aops_sound hQ r _ _ w (fun o ho => hN o (List.mem_cons_of_mem _ ho)) (h.2 rfl) (skip_sound hr hNo)

/-! ### Code -/
def dstOK (N : Nat) : Code → Bool
  | .region _ ops _ => ops.all fun o => match o.dst with | some d => decide (d < N) | none => true
  | .seq x y => dstOK N x && dstOK N y
  | .cond _ x y => dstOK N x && dstOK N y
  | .block _ c | .loop c | .scope c => dstOK N c
  | .skip | .exit _ | .ret => true
  | _ => false

/-- What must be told apart in a region that draws its order, for each call that turns a box: the pointers that are no pointers to it, the slots that did not make it. -/
abbrev Ap := Nat × List Nat × List Nat
def ap0 (k : Key) : AV → Bool
  | .box k' _ => decide (k' ≠ k)
  | _ => true
def ap2 (s : St) (ys ds : List Nat) : AV → Bool
  | .box k _ => (ys.all fun y => ap0 k (s.t y)) && ds.all (fun d => decide (k.1 ≠ d))
  | _ => false
def ap1 (s : St) : Ap → Bool
  | (x, ys, ds) => ap2 s ys ds (s.t x)
/-- The hints on regions: the slots whose boxes will not be written any more, and what to tell apart. -/
abbrev Hints := List (Nat × List Nat × List Ap)
def hFz : Hints → Nat → List Nat
  | [], _ => []
  | (i, f, _) :: r, id => if id = i then f else hFz r id
def hAp : Hints → Nat → List Ap
  | [], _ => []
  | (i, _, a) :: r, id => if id = i then a else hAp r id
def St.frz (s : St) (u : Nat) : St := match s.t u with
  | .box k _ => match s.b k with
    | some B => if B.c.all clean = true then { s with b := upd s.b k (some ⟨B.c, true⟩) } else s
    | none => s
  | _ => s

/-- The code's reckoning. -/
def acode (P : Program) (X : Hints) : Code → (Exit → St → Prop) → St → Prop
  | .skip, Q, s => Q .normal s
  | .region id ops _, Q, s => aops P ops ops.toList ((hFz X id).foldl St.frz s) (fun s' => (hAp X id).all (ap1 s') = true ∧ Q .normal s')
  | .seq x y, Q, s => acode P X x (fun e s' => match e with | .normal => acode P X y Q s' | e => Q e s') s
  | .cond c x y, Q, s => match s.o P 0 c with
    | .v (.bool b) => (b = true → acode P X x Q s) ∧ (b = false → acode P X y Q s)
    | _ => False
  | .block id c, Q, s => acode P X c (fun e s' => match e with | .exit id' => if id' = id then Q .normal s' else Q (.exit id') s' | e => Q e s') s
  | .loop c, Q, s => ∃ I : Nat → St → Prop, (∃ n, I n s) ∧ ∀ n s, I n s → acode P X c (fun e s' => match e with | .normal => ∃ m, m < n ∧ I m s' | e => Q e s') s
  | .scope c, Q, s => acode P X c (fun e s' => match e with | .goto _ => False | e => Q e s') s
  | .exit id, Q, s => Q (.exit id) s
  | .ret, Q, s => Q .ret s
  | _, _, _ => False

/-- What a test of regions must be worth. -/
def DOK (P : Program) (D : List Ap → Array Oper → Bool) : Prop := ∀ (N : Nat) (w0 : World) (C0 : CMap) (E : EX) (l : List Ap) (ops : Array Oper) (id : Nat) (s : St) (a : Act) (w : World) (K : St → Prop) (Q : Exit → Act → World → Prop),
  D l ops = true → (∀ o ∈ ops.toList, ∀ d, o.dst = some d → d < N) → aops P ops ops.toList s (fun s' => l.all (ap1 s') = true ∧ K s') → Rep N w0 C0 E s a w → (∀ s' a' w', K s' → Rep N w0 C0 E s' a' w' → Q .normal a' w') → (Code.region id ops true).wp P Q a w
/-- All the code's regions that draw their order pass the test. -/
def draws (D : List Ap → Array Oper → Bool) (X : Hints) : Code → Bool
  | .region id ops draw => !draw || D (hAp X id) ops
  | .seq x y => draws D X x && draws D X y
  | .cond _ x y => draws D X x && draws D X y
  | .block _ c | .loop c | .scope c => draws D X c
  | _ => true

theorem RepG.frz1 (h : RepG N w0 C0 E s a w C ρ τ) {k : Key} {B : Box} (hB : s.b k = some B) (hc : B.c.all clean = true) : ∃ C', RepG N w0 C0 E { s with b := upd s.b k (some ⟨B.c, true⟩) } a w C' ρ τ := by
  obtain ⟨b, hρ, ⟨⟨cs, ty, g1, g2, g3, g4, g5⟩, g6⟩, g7⟩ := h.bx k B hB
  by_cases hz : B.fz = true
  · refine ⟨C, ?_⟩
    have : (⟨B.c, true⟩ : Box) = B := by cases B; simp at hz; rw [hz]
    rw [this]
    have e : upd s.b k (some B) = s.b := by
      funext k'
      rw [upd_at]
      split
      · rename_i hk; rw [hk, hB]
      · rfl
    rw [e]
    exact h
  have hz' : B.fz = false := by simpa using hz
  let C' : CMap := fun b' o => if b' = b then cs[o]? else C b' o
  have Cnew : ∀ o, C' b o = cs[o]? := fun o => if_pos rfl
  have Cold : ∀ b' o, b' ≠ b → C' b' o = C b' o := fun b' o hne => if_neg hne
  have up : ∀ b' o v, C b' o = some v → C' b' o = some v := by
    intro b' o v hv
    by_cases hb : b' = b
    · subst hb; rw [g6 hz' o] at hv; cases hv
    · rw [Cold _ _ hb]; exact hv
  have mono : ∀ {v : Value} {x : AV}, RV C ρ τ v x → RV C' ρ τ v x := fun hv => hv.mono up (fun _ _ h => h) (fun _ _ h => h)
  refine ⟨C', { df := h.df, sz := h.sz, tm := fun t => mono (h.tm t), cw := ?_, c0 := fun b o v hv => up _ _ _ (h.c0 b o v hv), c1 := ?_, bx := ?_, bj := ?_, tk := ?_, tj := h.tj, fρ := h.fρ, fτ := h.fτ, fo := h.fo, fr := h.fr }⟩
  · intro b' o v hv
    by_cases hb : b' = b
    · subst hb
      rw [Cnew] at hv
      exact ⟨by simp only [World.cell?, g1]; exact hv, g3 o v hv⟩
    · rw [Cold _ _ hb] at hv; exact h.cw _ _ _ hv
  · intro b' o v hlt hv
    by_cases hb : b' = b
    · subst hb
      rcases g7 with g7 | g7
      · omega
      · exact .inr g7
    · rw [Cold _ _ hb] at hv; exact h.c1 _ _ _ hlt hv
  · intro k' B' hB'
    simp only [upd_at] at hB'
    split at hB'
    · rename_i hk
      subst hk
      cases hB'
      exact ⟨b, hρ, ⟨⟨cs, ty, g1, g2, g3, fun i v x hv hx => mono (g4 i v x hv hx), fun _ i v hv => by rw [Cnew]; exact hv⟩, fun hh => by cases hh⟩, g7⟩
    · rename_i hk
      obtain ⟨b', hρ', ⟨⟨cs', ty', q1, q2, q3, q4, q5⟩, q6⟩, q7⟩ := h.bx k' B' hB'
      have hbb : b' ≠ b := fun hh => hk (h.bj k' k B' B b' hB' hB hρ' (hh ▸ hρ))
      exact ⟨b', hρ', ⟨⟨cs', ty', q1, q2, q3, fun i v x hv hx => mono (q4 i v x hv hx), fun hz i v hv => up _ _ _ (q5 hz i v hv)⟩, fun hz o => by rw [Cold _ _ hbb]; exact q6 hz o⟩, q7⟩
  · intro k1 k2 B1 B2 b' h1 h2 e1 e2
    have old : ∀ k' B', (upd s.b k (some ⟨B.c, true⟩) : Key → Option Box) k' = some B' → ∃ B2, s.b k' = some B2 := by
      intro k' B' hh
      rw [upd_at] at hh
      split at hh
      · rename_i hk; exact ⟨B, by rw [hk, hB]⟩
      · exact ⟨B', hh⟩
    obtain ⟨B1', h1⟩ := old _ _ h1
    obtain ⟨B2', h2⟩ := old _ _ h2
    exact h.bj _ _ _ _ _ h1 h2 e1 e2
  · intro k' v n hk' hd
    obtain ⟨A, n', c, rfl, gg⟩ := h.tk k' v n hk' hd
    refine ⟨A, n', c, rfl, ?_⟩
    rcases gg with gg | ⟨b', cs', ty', hA, q1, q2, q3, q4, q5, q6, q7⟩
    · exact .inl gg
    · have hbb : b' ≠ b := fun hh => q7 k B hB (hh ▸ hρ)
      refine .inr ⟨b', cs', ty', hA, q1, q2, q3, q4, fun o ho => by rw [Cold _ _ hbb]; exact q5 o ho, q6, fun k2 B2 hB2 => ?_⟩
      simp only [upd_at] at hB2
      split at hB2
      · rename_i hk2; rw [hk2]; exact q7 k B hB
      · exact q7 k2 B2 hB2

theorem Rep.frz (h : Rep N w0 C0 E s a w) (u : Nat) : Rep N w0 C0 E (s.frz u) a w := by
  obtain ⟨C, ρ, τ, h⟩ := id h
  unfold St.frz
  split
  · split
    · rename_i hB
      split
      · rename_i hc
        obtain ⟨C', h'⟩ := h.frz1 hB hc
        exact ⟨C', ρ, τ, h'⟩
      · exact ⟨C, ρ, τ, h⟩
    · exact ⟨C, ρ, τ, h⟩
  · exact ⟨C, ρ, τ, h⟩

theorem Rep.frzs : ∀ (l : List Nat) (s : St), Rep N w0 C0 E s a w → Rep N w0 C0 E (l.foldl St.frz s) a w
  | [], _, h => h
  | u :: l, s, h => Rep.frzs l (s.frz u) (h.frz u)

theorem acode_sound {D : List Ap → Array Oper → Bool} {X : Hints} (hD : DOK P D) : ∀ (c : Code) (QA : Exit → St → Prop) (Q : Exit → Act → World → Prop) (s : St) (a : Act) (w : World), (dstOK N c && draws D X c) = true →
    (∀ e s' a' w', QA e s' → Rep N w0 C0 E s' a' w' → Q e a' w') → acode P X c QA s → Rep N w0 C0 E s a w → c.wp P Q a w := by
  intro c
  induction c with
  | skip => intro QA Q s a w _ hQ h hr; exact wp_skip (hQ _ _ _ _ h hr)
  | region id ops draw =>
    intro QA Q s a w hN hQ h hr
    simp only [acode] at h
    simp only [dstOK, draws, Bool.and_eq_true] at hN
    have hN' : ∀ o ∈ ops.toList, ∀ d, o.dst = some d → d < N := by
      intro o ho d hd
      have hN := hN.1
      simp only [Array.all_eq_true] at hN
      obtain ⟨i, hi, rfl⟩ := List.mem_iff_getElem.1 ho
      have := hN i (by simpa using hi)
      simp only [Array.getElem_toList] at hd
      rw [hd] at this
      simpa using this
    cases draw with
    | false => exact wp_region_list (aops_sound (fun s' a' w' hk hr => hQ _ _ _ _ hk.2 hr) _ _ a w hN' h (Rep.frzs _ _ hr))
    | true => exact hD N w0 C0 E _ ops id _ a w _ Q (by simpa using hN.2) hN' h (Rep.frzs _ _ hr) (fun s' a' w' hk hr => hQ _ _ _ _ hk hr)
  | seq x y ihx ihy =>
    intro QA Q s a w hN hQ h hr
    simp only [dstOK, draws, Bool.and_eq_true] at hN
    simp only [acode] at h
    refine wp_seq (ihx _ _ s a w (by simp [hN]) ?_ h hr)
    intro e s' a' w' hq hr'
    cases e with
    | normal => exact ihy _ _ _ _ _ (by simp [hN]) hQ hq hr'
    | _ => exact hQ _ _ _ _ hq hr'
  | cond c x y ihx ihy =>
    intro QA Q s a w hN hQ h hr
    simp only [dstOK, draws, Bool.and_eq_true] at hN
    simp only [acode] at h
    obtain ⟨C, ρ, τ, hr'⟩ := id hr
    have hc := opnd (P := P) hr' 0 c
    split at h
    · rename_i b hb
      rw [hb] at hc
      have hv := (rv_v hc).1
      cases b with
      | true => exact wp_cond_true hv (ihx _ _ _ _ _ (by simp [hN]) hQ (h.1 rfl) hr)
      | false => exact wp_cond_false hv (ihy _ _ _ _ _ (by simp [hN]) hQ (h.2 rfl) hr)
    · exact h.elim
  | block id c ih =>
    intro QA Q s a w hN hQ h hr
    simp only [acode] at h
    refine wp_block (ih _ _ s a w hN ?_ h hr)
    intro e s' a' w' hq hr'
    cases e with
    | exit id' =>
      simp only [Exit.inBlock]
      simp only at hq
      split
      · rename_i hid; rw [if_pos hid] at hq; exact hQ _ _ _ _ hq hr'
      · rename_i hid; rw [if_neg hid] at hq; exact hQ _ _ _ _ hq hr'
    | _ => exact hQ _ _ _ _ hq hr'
  | loop c ih =>
    intro QA Q s a w hN hQ h hr
    simp only [acode] at h
    obtain ⟨I, ⟨n0, h0⟩, hround⟩ := h
    let R : Nat → Act → World → Prop := fun n a w => ∃ s, I n s ∧ Rep N w0 C0 E s a w
    let μ : Act → World → Nat := fun a w => Classical.epsilon fun n => R n a w ∧ ∀ m, R m a w → n ≤ m
    have least : ∀ a w n, R n a w → R (μ a w) a w ∧ ∀ m, R m a w → μ a w ≤ m := by
      intro a w n hn
      have hex : ∃ n, R n a w ∧ ∀ m, R m a w → n ≤ m := by
        induction n using Nat.strongRecOn with
        | _ n ih2 =>
          by_cases hq : ∃ m, m < n ∧ R m a w
          · obtain ⟨m, hm, hR⟩ := hq
            exact ih2 m hm hR
          · refine ⟨n, hn, fun m hm => ?_⟩
            rcases Nat.lt_or_ge m n with hlt | hge
            · exact absurd ⟨m, hlt, hm⟩ hq
            · exact hge
      exact Classical.epsilon_spec hex
    refine wp_loop (fun a w => ∃ n, R n a w) μ ⟨n0, s, h0, hr⟩ ?_
    rintro a w ⟨n, hn⟩
    obtain ⟨⟨s', hI, hr'⟩, _⟩ := least a w n hn
    refine ih _ _ s' a w hN ?_ (hround _ _ hI) hr'
    intro e s2 a2 w2 hq hr2
    cases e with
    | normal =>
      obtain ⟨m, hm, hI2⟩ := hq
      have hRm : R m a2 w2 := ⟨s2, hI2, hr2⟩
      have := (least a2 w2 m hRm).2 m hRm
      exact ⟨⟨m, hRm⟩, by omega⟩
    | _ => exact hQ _ _ _ _ hq hr2
  | scope c ih =>
    intro QA Q s a w hN hQ h hr
    simp only [acode] at h
    refine wp_scope_straight (ih _ _ s a w hN ?_ h hr)
    intro e s' a' w' hq hr'
    cases e with
    | goto l => exact hq
    | _ => exact hQ _ _ _ _ hq hr'
  | exit id => intro QA Q s a w _ hQ h hr; exact wp_exit (hQ _ _ _ _ h hr)
  | ret => intro QA Q s a w _ hQ h hr; exact wp_ret (hQ _ _ _ _ h hr)
  | rangeFunc f ps x y _ _ => intro QA Q s a w hN; simp [dstOK] at hN
  | label l => intro QA Q s a w hN; simp [dstOK] at hN
  | goto l => intro QA Q s a w hN; simp [dstOK] at hN
  | refuse y => intro QA Q s a w hN; simp [dstOK] at hN

end Go.Sy
