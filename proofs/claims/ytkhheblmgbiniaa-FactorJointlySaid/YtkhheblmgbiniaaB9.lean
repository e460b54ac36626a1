/- A region that draws its order may be walked in the text's order. -/
import Derived.Test.YtkhheblmgbiniaaB8
namespace Go.Sy
open Go Go.RowKit

variable {N : Nat} {w0 : World} {C0 : CMap} {E : EX} {s s' : St} {a : Act} {w : World} {C : CMap} {ρ : RMap} {τ : TMap} {P : Program} {o o' : Oper} {e : Eff} {ops : Array Oper} {l : List Ap}

/-! ### Which operation must come before which -/
inductive AncR (ops : Array Oper) : Nat → Nat → Prop
  | one {i : Nat} {o : Oper} {e : Edge} (h : ops[i]? = some o) (he : e ∈ o.after) (hb : Region.binds .any e = true) : AncR ops i e.on
  | more {i j : Nat} {o : Oper} {e : Edge} (h : ops[i]? = some o) (he : e ∈ o.after) (hb : Region.binds .any e = true) (hr : AncR ops e.on j) : AncR ops i j
def OrdR (ops : Array Oper) (i j : Nat) : Prop := AncR ops i j ∨ AncR ops j i

def maskOf (acc : List Nat) (es : List Edge) (m : Nat) : Nat := es.foldl (fun m e => if Region.binds .any e then m ||| (2 ^ e.on) ||| acc.getD e.on 0 else m) m
def masks : List Oper → List Nat → List Nat
  | [], acc => acc
  | o :: r, acc => masks r (acc ++ [maskOf acc o.after.toList 0])
def ordB (M : List Nat) (i j : Nat) : Bool := (M.getD i 0).testBit j || (M.getD j 0).testBit i

theorem maskOf_sound {acc : List Nat} (hacc : ∀ k j, (acc.getD k 0).testBit j = true → AncR ops k j) {i : Nat} (hi : ops[i]? = some o) :
    ∀ (es : List Edge) (m : Nat), (∀ e ∈ es, e ∈ o.after) → (∀ j, m.testBit j = true → AncR ops i j) → ∀ j, (maskOf acc es m).testBit j = true → AncR ops i j
  | [], m, _, hm, j, h => hm j h
  | e :: es, m, hes, hm, j, h => by
    refine maskOf_sound hacc hi es _ (fun e he => hes e (List.mem_cons_of_mem _ he)) ?_ j h
    intro j' hj'
    simp only at hj'
    split at hj'
    · rename_i hb
      simp only [Nat.testBit_or, Bool.or_eq_true] at hj'
      rcases hj' with (hj' | hj') | hj'
      · exact hm _ hj'
      · rw [Nat.testBit_two_pow] at hj'
        have : e.on = j' := by simpa using hj'
        subst this
        exact .one hi (hes e (List.mem_cons_self ..)) hb
      · exact .more hi (hes e (List.mem_cons_self ..)) hb (hacc _ _ hj')
    · exact hm _ hj'

theorem masks_sound : ∀ (r : List Oper) (acc : List Nat) (pre : List Oper), ops.toList = pre ++ r → pre.length = acc.length → (∀ k j, (acc.getD k 0).testBit j = true → AncR ops k j) → ∀ k j, ((masks r acc).getD k 0).testBit j = true → AncR ops k j
  | [], acc, _, _, _, hacc => hacc
  | o :: r, acc, pre, hops, hlen, hacc => by
    refine masks_sound r (acc ++ [maskOf acc o.after.toList 0]) (pre ++ [o]) (by simp [hops]) (by simp [hlen]) ?_
    intro k j hk
    have hi : ops[pre.length]? = some o := by rw [← Array.getElem?_toList, hops]; simp
    rcases Nat.lt_or_ge k acc.length with h | h
    · rw [List.getD_eq_getElem?_getD, List.getElem?_append_left h, ← List.getD_eq_getElem?_getD] at hk
      exact hacc _ _ hk
    · rw [List.getD_eq_getElem?_getD, List.getElem?_append_right h] at hk
      by_cases hk0 : k = acc.length
      · subst hk0
        simp at hk
        rw [← hlen]
        exact maskOf_sound hacc hi _ 0 (fun e he => by simpa using he) (fun j hj => by simp at hj) j hk
      · have : k - acc.length ≠ 0 := by omega
        obtain ⟨q, hq⟩ := Nat.exists_eq_succ_of_ne_zero this
        rw [hq] at hk
        simp at hk

/-! ### The test -/
def dstsOf (ops : Array Oper) : List Nat := ops.toList.filterMap (·.dst)
def isTmp (x : Nat) : Option Operand → Bool
  | some (.tmp y) => x == y
  | _ => false
def one1 (P : Program) (l : List Ap) (ops : Array Oper) (M : List Nat) (o : Oper) (i : Nat) : Bool :=
  (o.after.toList.all fun e => !Region.binds .any e || decide (e.on < i)) && (o.dst.isSome || isSt o || pcall P o) &&
  (match o.dst with | some d => !(Oper.looksAt ops o).contains d | none => true) &&
  (!pcall P o || l.any fun q => isTmp q.1 (recv o) && (dstsOf ops).all q.2.2.contains && (ops.toList.zipIdx.all fun p => !accB p.1 || ordB M i p.2 || i == p.2 || (addrs p.1).all q.2.1.contains))
def two1 (P : Program) (l : List Ap) (ops : Array Oper) (M : List Nat) (o : Oper) (i : Nat) (o' : Oper) (j : Nat) : Bool :=
  i == j || ((match o'.dst with | some d => (!(Oper.looksAt ops o).contains d || (M.getD i 0).testBit j || (l.isEmpty && (M.getD j 0).testBit i)) && (match o.dst with | some d' => d != d' | none => true) | none => true) &&
    (!(isSt o' && accB o) || ordB M i j || (addrs o').all fun x => l.any fun q => q.1 == x && (addrs o).all q.2.1.contains) && (!(pcall P o && (pcall P o' || isApp o')) || ordB M i j))
def drawOK (P : Program) (l : List Ap) (ops : Array Oper) : Bool :=
  let M := masks ops.toList []
  ops.toList.zipIdx.all fun p => one1 P l ops M p.1 p.2 && ops.toList.zipIdx.all fun q => two1 P l ops M p.1 p.2 q.1 q.2

structure OKs (P : Program) (l : List Ap) (ops : Array Oper) : Prop where
  back : ∀ i o, ops[i]? = some o → ∀ e ∈ o.after, Region.binds .any e = true → e.on < i
  dst1 : ∀ (i : Nat) o, ops[i]? = some o → o.dst.isSome = true ∨ isSt o = true ∨ pcall P o = true
  self : ∀ (i : Nat) o d, ops[i]? = some o → o.dst = some d → d ∉ Oper.looksAt ops o
  cov : ∀ (i : Nat) o, ops[i]? = some o → pcall P o = true → ∃ x ys ds, (x, ys, ds) ∈ l ∧ recv o = some (.tmp x) ∧ (∀ (j : Nat) o' d, ops[j]? = some o' → o'.dst = some d → d ∈ ds) ∧
    (∀ (j : Nat) o', ops[j]? = some o' → accB o' = true → j ≠ i → OrdR ops i j ∨ ∀ y ∈ addrs o', y ∈ ys)
  dist : ∀ (i j : Nat) o o' d, ops[i]? = some o → ops[j]? = some o' → o.dst = some d → o'.dst = some d → i = j
  look : ∀ (i j : Nat) o o' d, ops[i]? = some o → ops[j]? = some o' → i ≠ j → o'.dst = some d → d ∈ Oper.looksAt ops o → OrdR ops i j
  last : l ≠ [] → ∀ (i j : Nat) o o' d, ops[i]? = some o → ops[j]? = some o' → i ≠ j → o'.dst = some d → d ∈ Oper.looksAt ops o → AncR ops i j
  st : ∀ (i j : Nat) o o', ops[i]? = some o → ops[j]? = some o' → i ≠ j → isSt o' = true → accB o = true → OrdR ops i j ∨ ∀ x ∈ addrs o', ∃ ys ds, (x, ys, ds) ∈ l ∧ ∀ y ∈ addrs o, y ∈ ys
  pp : ∀ (i j : Nat) o o', ops[i]? = some o → ops[j]? = some o' → i ≠ j → pcall P o = true → (pcall P o' = true ∨ isApp o' = true) → OrdR ops i j

theorem drawOK_sound (h : drawOK P l ops = true) : OKs P l ops := by
  unfold drawOK at h
  have hM : ∀ k j, ((masks ops.toList []).getD k 0).testBit j = true → AncR ops k j := masks_sound ops.toList [] [] (by simp) rfl (fun k j hk => by simp at hk)
  generalize masks ops.toList [] = M at h hM
  simp only [List.all_eq_true] at h
  have hz : ∀ {i : Nat} {o : Oper}, ops[i]? = some o → (o, i) ∈ ops.toList.zipIdx := by
    intro i o hi
    rw [List.mem_zipIdx_iff_getElem?]
    simpa using hi
  have hord : ∀ {i j : Nat}, ordB M i j = true → OrdR ops i j := by
    intro i j hij
    simp only [ordB, Bool.or_eq_true] at hij
    exact hij.imp (hM _ _) (hM _ _)
  have h1 : ∀ {i : Nat} {o : Oper}, ops[i]? = some o → one1 P l ops M o i = true := fun hi => (Bool.and_eq_true _ _ ▸ h _ (hz hi)).1
  have h2 : ∀ {i j : Nat} {o o' : Oper}, ops[i]? = some o → ops[j]? = some o' → two1 P l ops M o i o' j = true := by
    intro i j o o' hi hj
    have := (Bool.and_eq_true _ _ ▸ h _ (hz hi)).2
    exact List.all_eq_true.1 this _ (hz hj)
  constructor
  · intro i o hi e he hb
    have := h1 hi
    simp only [one1, Bool.and_eq_true, List.all_eq_true] at this
    have := this.1.1.1 e (by simpa using he)
    simpa [hb] using this
  · intro i o hi
    have := h1 hi
    simp only [one1, Bool.and_eq_true, Bool.or_eq_true] at this
    rcases this.1.1.2 with (h | h) | h
    · exact .inl h
    · exact .inr (.inl h)
    · exact .inr (.inr h)
  · intro i o d hi hd
    have := h1 hi
    simp only [one1, Bool.and_eq_true, hd] at this
    simpa using this.1.2
  · intro i o hi hp
    have := h1 hi
    simp only [one1, Bool.and_eq_true, hp, Bool.not_true, Bool.false_or, List.any_eq_true] at this
    obtain ⟨⟨x, ys, ds⟩, hq, ⟨hx, hds⟩, hacc⟩ := this.2
    refine ⟨x, ys, ds, hq, ?_, ?_, ?_⟩
    · revert hx
      simp only
      cases recv o with
      | none => intro hx; simp [isTmp] at hx
      | some y => cases y <;> simp [isTmp] <;> exact Eq.symm
    · intro j o' d hj hd
      have : d ∈ dstsOf ops := by
        simp only [dstsOf, List.mem_filterMap]
        exact ⟨o', by simpa using Array.mem_of_getElem? hj, hd⟩
      simpa using List.all_eq_true.1 hds d this
    · intro j o' hj ha hne
      have := List.all_eq_true.1 hacc (o', j) (hz hj)
      simp only [ha, Bool.not_true, Bool.false_or, Bool.or_eq_true, List.all_eq_true, beq_iff_eq] at this
      rcases this with (h | h) | h
      · exact .inl (hord h)
      · exact absurd h.symm hne
      · exact .inr fun y hy => by simpa using h y hy
  · intro i j o o' d hi hj hd hd'
    have := h2 hi hj
    simp only [two1, Bool.or_eq_true, Bool.and_eq_true, hd, hd', beq_iff_eq] at this
    rcases this with h | h
    · exact h
    · simp at h
  · intro i j o o' d hi hj hne hd hl
    have := h2 hi hj
    simp only [two1, Bool.or_eq_true, Bool.and_eq_true, hd, beq_iff_eq] at this
    rcases this with h | h
    · exact absurd h hne
    · rcases h.1.1.1 with (h | h) | h
      · simp at h; exact absurd hl h
      · exact .inl (hM _ _ h)
      · exact .inr (hM _ _ h.2)
  · intro hlne i j o o' d hi hj hne hd hl
    have := h2 hi hj
    simp only [two1, Bool.or_eq_true, Bool.and_eq_true, hd, beq_iff_eq] at this
    rcases this with h | h
    · exact absurd h hne
    · rcases h.1.1.1 with (h | h) | h
      · simp at h; exact absurd hl h
      · exact hM _ _ h
      · exact absurd (List.isEmpty_iff.1 h.1) hlne
  · intro i j o o' hi hj hne hs ha
    have := h2 hi hj
    simp only [two1, Bool.or_eq_true, Bool.and_eq_true, hs, ha, beq_iff_eq] at this
    rcases this with h | h
    · exact absurd h hne
    · rcases h.1.2 with (h | h) | h
      · simp at h
      · exact .inl (hord h)
      · refine .inr fun x hx => ?_
        obtain ⟨⟨x', ys, ds⟩, hq, hqq⟩ := List.any_eq_true.1 (List.all_eq_true.1 h x hx)
        simp only [Bool.and_eq_true, beq_iff_eq, List.all_eq_true] at hqq
        obtain ⟨rfl, hys⟩ := hqq
        exact ⟨ys, ds, hq, fun y hy => by simpa using hys y hy⟩
  · intro i j o o' hi hj hne hs ha
    have := h2 hi hj
    simp only [two1, Bool.or_eq_true, Bool.and_eq_true, hs, beq_iff_eq] at this
    rcases this with h | h
    · exact absurd h hne
    · exact hord (by rcases ha with ha | ha <;> simpa [ha] using h.2)

theorem AncR.lt (hO : OKs P l ops) {i j : Nat} (h : AncR ops i j) : j < i := by
  induction h with
  | one h he hb => exact hO.back _ _ h _ he hb
  | more h he hb _ ih => have := hO.back _ _ h _ he hb; omega

/-! ### Sets that hold what must come before -/
def Clos (ops : Array Oper) (X : Nat → Prop) : Prop := ∀ (i : Nat) o, X i → ops[i]? = some o → ∀ e ∈ o.after, Region.binds .any e = true → X e.on
theorem Clos.anc {X : Nat → Prop} (hX : Clos ops X) {i j : Nat} (h : AncR ops i j) (hi : X i) : X j := by
  induction h with
  | one h he hb => exact hX _ _ hi h _ he hb
  | more h he hb _ ih => exact ih (hX _ _ hi h _ he hb)

/-! ### One step, coordinate by coordinate -/
theorem nx_t {oe : Option Stp} {d : Option Nat} {u : Nat} (h : d ≠ some u) : (nx s d oe).t u = s.t u := by
  cases d with
  | none => cases oe with
    | none => rfl
    | some p => cases p <;> rfl
  | some d =>
    have hu : u ≠ d := fun hh => h (by rw [hh])
    cases oe with
    | none => simp [nx, St.skip, St.set, upd, hu]
    | some p => cases p <;> simp [nx, St.stp, St.app, St.ecall, upd, hu]
theorem nx_g {oe : Option Stp} {d : Option Nat} {u : Nat} (h : d ≠ some u) (h2 : ∀ k v c kl g, oe = some (.ec k v c kl g) → k.1 ≠ u) : (nx s d oe).g u = s.g u := by
  cases oe with
  | none => cases d <;> rfl
  | some p =>
    cases p with
    | ec k v c kl g =>
      have := h2 k v c kl g rfl
      simp [nx, St.stp, St.ecall, upd, Ne.symm this]
    | ef e =>
      cases d with
      | none => rfl
      | some d =>
        have hu : u ≠ d := fun hh => h (by rw [hh])
        simp only [nx, St.stp, St.app]
        split
        · simp [upd, hu]
        · rfl
theorem nx_mono {oe : Option Stp} {d : Option Nat} (u : Nat) : s.g u ≤ (nx s d oe).g u := by
  cases oe with
  | none => cases d <;> exact Nat.le_refl _
  | some p =>
    cases p with
    | ec k v c kl g =>
      simp only [nx, St.stp, St.ecall, upd_at]
      split
      · rename_i h; rw [h]; omega
      · exact Nat.le_refl _
    | ef e =>
      cases d with
      | none => exact Nat.le_refl _
      | some d =>
        simp only [nx, St.stp, St.app]
        split
        · simp only [upd_at]
          split
          · rename_i h; rw [h]; omega
          · exact Nat.le_refl _
        · exact Nat.le_refl _
theorem nx_dead {oe : Option Stp} {d : Option Nat} {k : Key} (hk : k.2.1 < s.g k.1) (hd : s.d k = true) (hg : ∀ k v c kl g, oe = some (.ec k v c kl g) → g = s.g k.1) : (nx s d oe).d k = true := by
  cases oe with
  | none => cases d <;> exact hd
  | some p =>
    cases p with
    | ec k' v c kl g =>
      simp only [nx, St.stp, St.ecall, upd_at]
      split
      · rename_i h; rw [h] at hk; simp at hk
      · cases kl with
        | none => exact hd
        | some k2 => simp only [killO, upd_at]; split <;> simp [hd]
    | ef e =>
      cases d with
      | none => exact hd
      | some d =>
        simp only [nx, St.stp, St.app, crt]
        split
        · rename_i h; rw [← h.1] at h; omega
        · cases e.kl with
          | none => exact hd
          | some k2 => simp only [upd_at]; split <;> simp [hd]
theorem nx_kill {e : Eff} {d : Nat} {k : Key} (hk : k.2.1 < s.g k.1) (hkl : e.kl = some k) : (nx s (some d) (some (.ef e))).d k = true := by
  simp only [nx, St.stp, St.app, crt, hkl]
  split
  · rename_i h; rw [← h.1] at h; omega
  · simp [upd]

/-! ### What is in a state is old -/
theorem rep_box (h : Rep N w0 C0 E s a w) {y : Nat} {k : Key} {off : Nat} (hy : s.t y = .box k off) : k.2.1 < s.g k.1 := by
  obtain ⟨C, ρ, τ, h⟩ := h
  have := h.tm y
  rw [hy] at this
  obtain ⟨b, _, hρ⟩ := rv_box this
  exact h.fρ _ _ hρ
theorem rep_tok (h : Rep N w0 C0 E s a w) {y : Nat} {k : Key} {sz : Nat} {xs : List (List AV)} (hy : s.t y = .list sz xs (.own k)) : k.2.1 < s.g k.1 := by
  obtain ⟨C, ρ, τ, h⟩ := h
  have := h.tm y
  rw [hy] at this
  obtain ⟨A, c, cv, _, _, _, _, _, ht⟩ := rv_list this
  exact h.fτ _ _ ht
theorem rep_btok (h : Rep N w0 C0 E s a w) {k k' : Key} {pre : List AV} {z : Bool} {sz : Nat} {xs : List (List AV)} (hb : s.b k = some ⟨pre ++ [.list sz xs (.own k')], z⟩) : k'.2.1 < s.g k'.1 := by
  obtain ⟨C, ρ, τ, h⟩ := h
  obtain ⟨b, _, ⟨⟨cs, ty, _, g2, _, g4, _⟩, _⟩, _⟩ := h.bx _ _ hb
  have hlt : pre.length < cs.size := by rw [g2]; simp
  have := g4 pre.length cs[pre.length] (.list sz xs (.own k')) (by simp [hlt]) (by simp)
  obtain ⟨A, c, cv, _, _, _, _, _, ht⟩ := rv_list this
  exact h.fτ _ _ ht

/-! ### The text's walk, written down -/
structure TR (P : Program) (ops : Array Oper) (s : St) (o : Oper) (T : Option Stp) : Prop where
  w : wantA ops s o = some T.isSome
  e : ∀ p, T = some p → EvG P s o p

theorem trace_of {K : St → Prop} : ∀ (r : List Oper) (s : St), aops P ops r s K → ∃ (T : Nat → Option Stp) (S : Nat → St), S 0 = s ∧ (∀ j o, r[j]? = some o → TR P ops (S j) o (T j) ∧ S (j + 1) = nx (S j) o.dst (T j)) ∧ K (S r.length)
  | [], s, h => ⟨fun _ => none, fun _ => s, rfl, fun j o hj => by simp at hj, h⟩
  | o :: r, s, h => by
    unfold aops at h
    split at h
    · exact h.elim
    · rename_i c hc
      have : ∃ t, TR P ops s o t ∧ aops P ops r (nx s o.dst t) K := by
        cases c with
        | true =>
          obtain ⟨p, hp, h2⟩ := stepG_elim (h.1 rfl)
          exact ⟨some p, ⟨hc, fun q hq => by cases hq; exact hp⟩, h2⟩
        | false => exact ⟨none, ⟨hc, fun q hq => by cases hq⟩, h.2 rfl⟩
      obtain ⟨t, ht, h2⟩ := this
      obtain ⟨T, S, hS0, hTS, hK⟩ := trace_of r _ h2
      refine ⟨fun j => match j with | 0 => t | j + 1 => T j, fun j => match j with | 0 => s | j + 1 => S j, rfl, ?_, hK⟩
      intro j o' hj
      cases j with
      | zero => simp at hj; subst hj; exact ⟨ht, hS0⟩
      | succ j => exact hTS j o' (by simpa using hj)

theorem wp_some {o : Oper} {G : Prop} (h : o.wp P a w (fun _ _ => G) (fun _ _ _ => G)) : G := by
  unfold Oper.wp at h
  generalize (execOp a.eval o).run P w = r at h
  cases r with
  | ok n w' =>
    cases n with
    | enter f args =>
      obtain ⟨e, w'', fr, he, _⟩ := h []
      cases e with
      | outgrown => obtain ⟨_, _, h⟩ := he; exact h
      | _ => exact he
    | row r args =>
      obtain ⟨v, w'', hv, _⟩ := h (Frame.enter P 0 #[] .normal) []
      exact hv
    | _ => first | exact h | exact h.elim
  | halt x w' => cases x <;> first | exact h | exact h.elim

theorem rep_nx (h : Rep N w0 C0 E s a w) (hN : ∀ d, o.dst = some d → d < N) {T : Option Stp} (hT : TR P ops s o T) : ∃ a' w', Rep N w0 C0 E (nx s o.dst T) a' w' := by
  cases T with
  | none => exact ⟨_, _, skip_sound h hN⟩
  | some p => exact wp_some (stp_sound (Q := fun _ _ _ => ∃ a' w', Rep N w0 C0 E (s.stp o.dst p) a' w') h hN (hT.e p rfl) (fun a' w' hr => ⟨a', w', hr⟩))

end Go.Sy
