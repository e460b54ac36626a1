/- Calls that turn what their first argument points at. -/
import Derived.Test.YtkhheblmgbiniaaB3
namespace Go.Sy
open Go Go.RowKit

variable {N : Nat} {w0 : World} {C0 : CMap} {E : EX} {s : St} {a : Act} {w : World} {C : CMap} {ρ : RMap} {τ : TMap} {P : Program} {o : Oper} {e : Eff}

/-- A list that is nil has an owner too: there is nothing to own. -/
def canonT : Tok → Tok
  | .no => .no
  | _ => .own (0, 0, 0)
/-- What the token of a box's last cell stands for. -/
def tkVal (τ : TMap) (v : Value) : AV → Option (Value × Nat)
  | .list sz _ .nil => some (v, sz)
  | .list _ _ (.own k) => τ k
  | _ => none
def canonX : AV → AV
  | .list sz xs tk => .list sz xs (canonT tk)
  | a => a
def lastKey : AV → Option Key
  | .list _ _ tk => tokKey tk
  | _ => none
def lastOK (s : St) : AV → Bool
  | .list _ _ (.own k) => !s.d k
  | .list _ _ _ => true
  | a => clean a

/-- A block of a token. -/
def tb (τ : TMap) (i : Nat) : Prop := ∃ v m, τ (0, 0, 0) = some (v, m) ∧ blk v = some i

structure Tok1 (C : CMap) (w : World) (τ : TMap) (G : Nat → Prop) : Prop where
  k : ∀ k x, τ k = some x → k = (0, 0, 0)
  w : ∀ k v m, τ k = some (v, m) → TokW C w v m G

/-- A box's cells: the last one may bear a token. -/
structure BoxC (C : CMap) (τ : TMap) (w : World) (b : Nat) (pre : List AV) (x : AV) : Prop where
  ex : ∃ (cs : Array Value) (ty : TypeId), w.heap[b]? = some (.cells cs ty (0, 0)) ∧ cs.size = pre.length + 1 ∧ (∀ (i : Nat) (v : Value), cs[i]? = some v → v.oneCell' = true) ∧
    (∀ (i : Nat) (v : Value) (y : AV), cs[i]? = some v → pre[i]? = some y → RV C noρ noτ v y) ∧ (∀ v, cs[pre.length]? = some v → RV C noρ τ v x)
  fr : ∀ o, C b o = none

/-- A function that turns the box that its first argument points at, and the list that the box's last cell may be the owner of. -/
structure ECon (P : Program) (f : FuncId) (args : List AV) (pre : List AV) (x : AV) (r : AV) (pre' : List AV) (x' : AV) : Prop where
  enters : Enters P f
  calls : ∀ (C : CMap) (w : World) (b : Nat) (τ : TMap) (vs : Array Value), CW C w → BoxC C τ w b pre x → Tok1 C w τ (fun b' => b' ≠ b) → vs.size = args.length →
    (∀ (i : Nat) (v : Value) (x : AV), vs[i]? = some v → args[i]? = some x → RV C noρ noτ v x) →
    Calls P f (#[.pointer (some ⟨b, 0, none⟩)] ++ vs) w fun e w' => ∃ v C' τ', e = .returned v ∧ Fr w (fun i => i = b ∨ tb τ i) w' ∧ (∀ b o v, C b o = some v → C' b o = some v) ∧
      (∀ b' o v, C' b' o = some v → C b' o = some v ∨ w.heap.size ≤ b' ∨ tb τ b') ∧ CW C' w' ∧ BoxC C' τ' w' b pre' x' ∧ Tok1 C' w' τ' (fun b' => b' ≠ b ∧ (w.heap.size ≤ b' ∨ tb τ b')) ∧ RV C' noρ noτ v r

/-- What such a call leaves. -/
def St.ecall (s : St) (d : Option Nat) (k : Key) (v : AV) (c : List AV) (kl : Option Key) : St :=
  { t := match d with | none => s.t | some d => upd s.t d v
    b := upd s.b k (some ⟨c, false⟩)
    d := upd (killO s.d kl) (k.1, s.g k.1, 0) false
    g := upd s.g k.1 (s.g k.1 + 1) }

theorem canon_rv {v : Value} {x : AV} (h : RV C ρ τ v x) (hx : lastOK s x = true) (τ0 : TMap) (h0 : τ0 (0, 0, 0) = tkVal τ v x) : RV C noρ τ0 v (canonX x) := by
  cases hh : x with
  | list sz xs tk =>
    rw [hh] at h h0
    obtain ⟨A, c, cv, rfl, h1, h2, h3, h4, h5⟩ := rv_list h
    refine .list sz xs _ A _ c cv rfl h1 h2 h3 h4 ?_
    cases tk with
    | no => trivial
    | nil => exact h0
    | own k => exact h0.trans h5
  | _ =>
    rw [hh] at h hx
    exact (clean_rv h (by simpa [lastOK] using hx)).mono (fun _ _ _ h => h) (fun _ _ h => h) (fun _ _ h => by cases h)

theorem tkVal_cases {τ : TMap} {v u : Value} {m : Nat} {x : AV} (h : RV C ρ τ v x) (he : tkVal τ v x = some (u, m)) : (∃ A, u = .slice A 0 0) ∨ ∃ k, lastKey x = some k ∧ τ k = some (u, m) := by
  cases x with
  | list sz xs tk =>
    cases tk with
    | no => cases he
    | nil =>
      simp only [tkVal, Option.some.injEq, Prod.mk.injEq] at he
      obtain ⟨A, c, cv, _, _, _, _, _, h5⟩ := rv_list h
      obtain ⟨A', h5⟩ := h5
      exact .inl ⟨A', he.1 ▸ h5⟩
    | own k => exact .inr ⟨k, rfl, he⟩
  | _ => cases he

/-- A box is laid aside. -/
theorem RepG.turn (h : RepG N w0 C0 E s a w C ρ τ) {k : Key} {B : Box} {b : Nat} (hB : s.b k = some B) (hρ : ρ k = some b) (kl : Option Key) (hkl : ∀ k', kl = some k' → s.d k' = false)
    {w1 : World} {C1 : CMap} (hC : ∀ b o v, C b o = some v → C1 b o = some v) {T : Nat → Prop} (hT : ∀ i, T i → ∃ k' v m, kl = some k' ∧ τ k' = some (v, m) ∧ blk v = some i)
    (hF : Fr w (fun i => i = b ∨ T i) w1) (hn : ∀ b' o v, C1 b' o = some v → C b' o = some v ∨ w.heap.size ≤ b' ∨ T b') (hcw : CW C1 w1) :
    RepG N w0 C0 E { s with d := Sy.killO s.d kl, b := upd s.b k none } a w1 C1 ρ τ := by
  have mono : ∀ {v : Value} {x : AV}, RV C ρ τ v x → RV C1 ρ τ v x := fun hv => hv.mono hC (fun _ _ h => h) (fun _ _ h => h)
  obtain ⟨b0, hρ0, hBW, hE⟩ := h.bx k B hB
  rw [hρ] at hρ0
  cases hρ0
  have tG : ∀ i, T i → (w0.heap.size ≤ i ∨ E i) ∧ (∀ k' B, s.b k' = some B → ρ k' ≠ some i) ∧ i < w.heap.size := by
    intro i hi
    obtain ⟨k', v, m, h1, h2, h3⟩ := hT i hi
    obtain ⟨A, n, c, rfl, g⟩ := h.tk k' v m h2 (hkl k' h1)
    obtain ⟨hc, ad, rfl, hb⟩ := blk_cap h3
    rcases g with g | ⟨b', cs, ty, hA, g1, _, _, _, _, g6⟩
    · exact absurd g hc
    · cases hA; subst hb; exact ⟨g6.1, g6.2, heap_lt g1⟩
  have bsz : b < w.heap.size := by
    obtain ⟨⟨cs, ty, g1, _⟩, _⟩ := hBW
    exact heap_lt g1
  have old : ∀ {i : Nat} {x : Obj}, i ≠ b → ¬ T i → w.heap[i]? = some x → w1.heap[i]? = some x := by
    intro i x h1 h2 hx
    rw [hF.block i (heap_lt hx) (fun hh => hh.elim h1 h2)]
    exact hx
  have ob : ∀ k' B', (upd s.b k none : Key → Option Box) k' = some B' → k' ≠ k ∧ s.b k' = some B' := by
    intro k' B' hh
    rw [upd_at] at hh
    split at hh
    · cases hh
    · exact ⟨by assumption, hh⟩
  have cold : ∀ {i o : Nat}, i < w.heap.size → ¬ T i → C i o = none → C1 i o = none := by
    intro i o h1 h2 h3
    cases hc : C1 i o with
    | none => rfl
    | some v =>
      rcases hn _ _ _ hc with hh | hh | hh
      · rw [h3] at hh; cases hh
      · omega
      · exact absurd hh h2
  refine
    { df := h.df, sz := h.sz, tm := fun t => mono (h.tm t), cw := hcw, c0 := fun _ _ _ hh => hC _ _ _ (h.c0 _ _ _ hh), c1 := ?_, bx := ?_, bj := ?_, tk := ?_, tj := ?_, fρ := h.fρ, fτ := h.fτ, fo := h.fo, fr := ?_ }
  · intro b' o v hb' hv
    rcases hn _ _ _ hv with hh | hh | hh
    · exact h.c1 _ _ _ hb' hh
    · have := h.fr.size; omega
    · rcases (tG _ hh).1 with g | g
      · omega
      · exact .inr g
  · intro k' B' hB'
    obtain ⟨hne, hB'⟩ := ob _ _ hB'
    obtain ⟨b', hρ', ⟨⟨cs, ty, g1, g2, g3, g4, g5⟩, g6⟩, g7⟩ := h.bx k' B' hB'
    have hbb : b' ≠ b := fun hh => hne (h.bj k' k B' B b' hB' hB hρ' (hh ▸ hρ))
    have hTb : ¬ T b' := fun hh => (tG _ hh).2.1 k' B' hB' hρ'
    exact ⟨b', hρ', ⟨⟨cs, ty, old hbb hTb g1, g2, g3, fun i v x hc hx => mono (g4 i v x hc hx), fun hz i v hc => hC _ _ _ (g5 hz i v hc)⟩, fun hz o => cold (heap_lt g1) hTb (g6 hz o)⟩, g7⟩
  · intro k1 k2 B1 B2 b' h1 h2
    exact h.bj k1 k2 B1 B2 b' (ob _ _ h1).2 (ob _ _ h2).2
  · intro k' v m hk' hd
    obtain ⟨hd, hne⟩ := killO_ne hd
    obtain ⟨A, n, c, rfl, g⟩ := h.tk k' v m hk' hd
    refine ⟨A, n, c, rfl, ?_⟩
    rcases g with g | ⟨b', cs, ty, hA, g1, g2, g3, g4, g5, g6, g7⟩
    · exact .inl g
    · by_cases hc0 : c = 0
      · exact .inl hc0
      subst hA
      have hbb : b' ≠ b := fun hh => g7 k B hB (hh ▸ hρ)
      have hTb : ¬ T b' := by
        intro hh
        obtain ⟨k2, v2, m2, e1, e2, e3⟩ := hT _ hh
        have := h.tj k' k2 _ _ _ _ b' hk' e2 hd (hkl _ e1) (by simp [blk, hc0]) e3
        subst this
        exact hne e1
      refine .inr ⟨b', cs, ty, rfl, old hbb hTb g1, g2, g3, g4, fun o ho => cold (heap_lt g1) hTb (g5 o ho), g6, fun k2 B2 hB2 => g7 k2 B2 (ob _ _ hB2).2⟩
  · intro k1 k2 v1 v2 n1 n2 b' e1 e2 d1 d2
    exact h.tj k1 k2 v1 v2 n1 n2 b' e1 e2 (killO_ne d1).1 (killO_ne d2).1
  · refine ⟨hF.os.trans h.fr.os, hF.tape.trans h.fr.tape, hF.output.trans h.fr.output, Nat.le_trans h.fr.size hF.size, fun i hi hEi => ?_⟩
    rw [hF.block i (Nat.lt_of_lt_of_le hi h.fr.size), h.fr.block i hi hEi]
    rintro (rfl | hh)
    · rcases hE with g | g
      · omega
      · exact hEi g
    · rcases (tG _ hh).1 with g | g
      · omega
      · exact hEi g

/-- A box is laid back. -/
theorem RepG.putbox (h : RepG N w0 C0 E s a w C ρ τ) {k : Key} {b : Nat} {l : List AV} (hρ : ρ k = some b) (hE : w0.heap.size ≤ b ∨ E b) {cs : Array Value} {ty : TypeId}
    (hblk : w.heap[b]? = some (.cells cs ty (0, 0))) (hl : cs.size = l.length) (h1 : ∀ (i : Nat) (v : Value), cs[i]? = some v → v.oneCell' = true)
    (hv : ∀ (i : Nat) (v : Value) (x : AV), cs[i]? = some v → l[i]? = some x → RV C ρ τ v x) (hC : ∀ o, C b o = none)
    (hnb : ∀ k' B, k' ≠ k → s.b k' = some B → ρ k' ≠ some b) (hnt : ∀ k v n, τ k = some (v, n) → s.d k = false → blk v ≠ some b) :
    RepG N w0 C0 E { s with b := upd s.b k (some ⟨l, false⟩) } a w C ρ τ :=
  { h with
    bx := by
      intro k' B hB
      simp only [upd_at] at hB
      split at hB
      · rename_i hk; subst hk; cases hB
        exact ⟨b, hρ, ⟨⟨cs, ty, hblk, hl, h1, hv, fun hz => by cases hz⟩, fun _ => hC⟩, hE⟩
      · exact h.bx k' B hB
    bj := by
      intro k1 k2 B1 B2 b' h1 h2 e1 e2
      simp only [upd_at] at h1 h2
      split at h1 <;> split at h2
      · rename_i a1 a2; rw [a1, a2]
      · rename_i a1 a2; subst a1; rw [hρ] at e1; cases e1; exact absurd e2 (hnb _ _ a2 h2)
      · rename_i a1 a2; subst a2; rw [hρ] at e2; cases e2; exact absurd e1 (hnb _ _ a1 h1)
      · exact h.bj _ _ _ _ _ h1 h2 e1 e2
    tk := by
      intro k' v n hk hd
      obtain ⟨A, n', c, rfl, g⟩ := h.tk k' v n hk hd
      refine ⟨A, n', c, rfl, ?_⟩
      rcases g with g | ⟨b', cs', ty', hA, g1, g2, g3, g4, g5, g6, g7⟩
      · exact .inl g
      · by_cases hc0 : c = 0
        · exact .inl hc0
        refine .inr ⟨b', cs', ty', hA, g1, g2, g3, g4, g5, g6, fun k2 B2 hB2 => ?_⟩
        simp only [upd_at] at hB2
        split at hB2
        · rename_i hk2; subst hk2; rw [hρ]
          intro hh; cases hh
          exact hnt _ _ _ hk hd (by subst hA; simp [blk, hc0])
        · exact g7 k2 B2 hB2 }

theorem RepG.bump (h : RepG N w0 C0 E s a w C ρ τ) (k : Key) (hk : s.g k.1 ≤ k.2.1) : RepG N w0 C0 E { s with d := upd s.d k false, g := upd s.g k.1 (k.2.1 + 1) } a w C ρ τ := by
  have hτk : τ k = none := by
    cases hh : τ k with
    | none => rfl
    | some y => have := h.fτ _ _ hh; omega
  have up : ∀ k' : Key, k'.2.1 < s.g k'.1 → k'.2.1 < upd s.g k.1 (k.2.1 + 1) k'.1 := by
    intro k' hlt
    rw [upd_at]
    split
    · rename_i e; rw [e] at hlt; omega
    · exact hlt
  have low : ∀ k' x, τ k' = some x → upd s.d k false k' = false → s.d k' = false := by
    intro k' x hx e
    rw [upd_at] at e
    split at e
    · rename_i ek; subst ek; rw [hτk] at hx; cases hx
    · exact e
  exact { h with
    tk := fun k' v n hk' hd => h.tk k' v n hk' (low _ _ hk' hd)
    tj := fun k1 k2 v1 v2 n1 n2 b e1 e2 d1 d2 => h.tj k1 k2 v1 v2 n1 n2 b e1 e2 (low _ _ e1 d1) (low _ _ e2 d2)
    fρ := fun k' b e => up _ (h.fρ _ _ e)
    fτ := fun k' b e => up _ (h.fτ _ _ e) }

def isPtrT (P : Program) (t : TypeId) : Bool := match P.underlying t with | some (.pointer _) => true | _ => false

/-- The call as an operation. -/
def EEvK (P : Program) (s : St) (o : Oper) (k : Key) (v : AV) (c : List AV) (kl : Option Key) : Prop := match o.op with
  | .call { callee := .value g, args, argTypes } => ∃ f x0 xs t0 ts pre x pre' x', s.o P 0 g = .clo f [] ∧ args.toList = x0 :: xs ∧ argTypes.toList = t0 :: ts ∧ xs.length ≤ ts.length ∧ isPtrT P t0 = true ∧
      s.o P t0 x0 = .box k 0 ∧ s.b k = some ⟨pre ++ [x], false⟩ ∧ pre.all clean = true ∧ lastOK s x = true ∧ (argsAV P s xs ts).all cleanV = true ∧ ECon P f (argsAV P s xs ts) pre (canonX x) v pre' x' ∧
      c = pre' ++ [ren0 k.1 (s.g k.1) x'] ∧ kl = lastKey x
  | _ => False

theorem ecall_set (s : St) (d : Nat) (k : Key) (v : AV) (c : List AV) (kl : Option Key) : s.ecall (some d) k v c kl = (s.ecall none k v c kl).set d v := rfl

theorem estep_sound {k : Key} {r : AV} {c : List AV} {kl : Option Key} {Q : Exit → Act → World → Prop} {K : Act → World → Prop} (h : Rep N w0 C0 E s a w) (hN : ∀ d, o.dst = some d → d < N) (he : EEvK P s o k r c kl)
    (hK : ∀ a' w', Rep N w0 C0 E (s.ecall o.dst k r c kl) a' w' → K a' w') : o.wp P a w K Q := by
  obtain ⟨C, ρ, τ, h⟩ := h
  unfold EEvK at he
  split at he
  case h_2 => exact he.elim
  rename_i g args tys ho
  obtain ⟨f, x0, xs, t0, ts, pre, x, pre', x', hg, hargs, htys, hlen, _, hbx, hB, hpre, hx, hcl, hcon, rfl, rfl⟩ := he
  have hgv := opnd (P := P) h 0 g
  rw [hg] at hgv
  have hfn : a.eval g = .func (.func f) #[] #[] := by
    generalize a.eval g = v at hgv
    cases hgv with
    | clo _ cs _ hl _ =>
      have : cs = #[] := by simpa using hl
      rw [this]
  have hrun : (execOp a.eval o).run P w = .ok (.enter f (args.map a.eval)) w := by
    simp [execOp, ho, resolve, hfn, Deferred.ofValue, invoke, hcon.enters _ _]
  unfold Oper.wp
  rw [hrun]
  simp only [Oper.upon]
  have hbv := opnd (P := P) h t0 x0
  rw [hbx] at hbv
  obtain ⟨b, hv0, hρ⟩ := rv_box hbv
  have hmap : args.map a.eval = #[.pointer (some ⟨b, 0, none⟩)] ++ (xs.map a.eval).toArray := by
    apply Array.ext'
    simp [hargs, hv0]
  obtain ⟨b', hρ', ⟨⟨cs, ty, g1, g2, g3, g4, _⟩, g6⟩, g7⟩ := h.bx k _ hB
  rw [hρ] at hρ'
  cases hρ'
  have hlt : pre.length < cs.size := by rw [g2]; simp
  have hvx : RV C ρ τ cs[pre.length] x := g4 pre.length _ x (by simp [hlt]) (by simp)
  let τ0 : TMap := fun k' => if k' = (0, 0, 0) then tkVal τ cs[pre.length] x else none
  have hτ0 : τ0 (0, 0, 0) = tkVal τ cs[pre.length] x := if_pos rfl
  have hlive : ∀ k', lastKey x = some k' → s.d k' = false := by
    intro k' hk'
    cases x with
    | list sz ys tk =>
      cases tk with
      | own k2 => simp [lastKey, tokKey] at hk'; subst hk'; simpa [lastOK] using hx
      | _ => simp [lastKey, tokKey] at hk'
    | _ => simp [lastKey] at hk'
  have htb : ∀ i, tb τ0 i → ∃ k' v m, lastKey x = some k' ∧ τ k' = some (v, m) ∧ blk v = some i := by
    rintro i ⟨v, m, h1, h2⟩
    rw [hτ0] at h1
    rcases tkVal_cases hvx h1 with ⟨A, rfl⟩ | ⟨k', h3, h4⟩
    · cases A <;> simp [blk] at h2
    · exact ⟨k', v, m, h3, h4, h2⟩
  rw [hmap]
  refine (hcon.calls C w b τ0 _ h.cw ⟨⟨cs, ty, g1, by simpa using g2, g3, ?_, ?_⟩, g6 rfl⟩ ⟨?_, ?_⟩ ?_ ?_).mono ?_
  · intro i v y hv hy
    have hi := (List.getElem?_eq_some_iff.1 hy).1
    exact clean_rv (g4 i v y hv (by rw [List.getElem?_append_left hi]; exact hy)) (List.all_eq_true.1 hpre y (List.mem_of_getElem? hy))
  · intro v hv
    have hv' : v = cs[pre.length] := by simp [hlt] at hv; exact hv.symm
    subst hv'
    exact canon_rv hvx hx τ0 hτ0
  · intro k' y hk'
    by_cases hh : k' = (0, 0, 0)
    · exact hh
    · simp only [τ0, if_neg hh] at hk'; cases hk'
  · intro k' v m hk'
    by_cases hh : k' = (0, 0, 0)
    · subst hh
      rw [hτ0] at hk'
      rcases tkVal_cases hvx hk' with ⟨A, rfl⟩ | ⟨k2, h3, h4⟩
      · exact ⟨A, 0, 0, rfl, .inl rfl⟩
      obtain ⟨A, n, c, rfl, g⟩ := h.tk k2 v m h4 (hlive _ h3)
      refine ⟨A, n, c, rfl, ?_⟩
      rcases g with g | ⟨b', cs, ty, hA, g1, g2, g3, g4, g5, g6, g7⟩
      · exact .inl g
      · exact .inr ⟨b', cs, ty, hA, g1, g2, g3, g4, g5, fun hh => g7 k _ hB (hh ▸ hρ)⟩
    · simp only [τ0, if_neg hh] at hk'; cases hk'
  · simp only [argsAV, List.length_zipWith, List.size_toArray, List.length_map]; omega
  · intro i v y hv hy
    have hmem := List.mem_of_getElem? hy
    have hcx := List.all_eq_true.1 hcl y hmem
    simp only [argsAV, List.getElem?_zipWith] at hy
    split at hy
    · rename_i y' t' hy' ht'
      cases hy
      simp only [List.getElem?_toArray, List.getElem?_map, hy', Option.map_some, Option.some.injEq] at hv
      subst hv
      exact cleanV_rv (fgtV_rv (opnd h t' y')) hcx
    · cases hy
  · rintro e' w' ⟨v, C', τ', rfl, hF, hC1, hC2, hcw, ⟨⟨cs', ty', q1, q2, q3, q4, q5⟩, q6⟩, ht, hr⟩
    have h1 := h.turn hB hρ (lastKey x) hlive hC1 htb hF hC2 hcw
    have bsz : b < w.heap.size := heap_lt g1
    have tB : ∀ i, tb τ0 i → (w0.heap.size ≤ i ∨ E i) ∧ (∀ k' B, s.b k' = some B → ρ k' ≠ some i) ∧ (∀ k' v' m' , τ k' = some (v', m') → killO s.d (lastKey x) k' = false → blk v' ≠ some i) := by
      intro i hi
      obtain ⟨k', v, m, e1, e2, e3⟩ := htb i hi
      obtain ⟨A, n, c, rfl, gg⟩ := h.tk k' v m e2 (hlive _ e1)
      obtain ⟨hc, ad, rfl, hb⟩ := blk_cap e3
      rcases gg with gg | ⟨b', cs, ty, hA, _, _, _, _, _, gg6⟩
      · exact absurd gg hc
      · cases hA
        subst hb
        refine ⟨gg6.1, gg6.2, ?_⟩
        intro k2 v2 m2 f1 f2 f3
        obtain ⟨f2, f4⟩ := killO_ne f2
        have := h.tj k' k2 _ _ _ _ _ e2 f1 (hlive _ e1) f2 e3 f3
        subst this
        exact f4 e1
    have boxlt : ∀ k' B i, s.b k' = some B → ρ k' = some i → i < w.heap.size := by
      intro k' B i e1 e2
      obtain ⟨b', hρ', ⟨⟨cs, ty, gg1, _⟩, _⟩, _⟩ := h.bx k' B e1
      rw [e2] at hρ'; cases hρ'
      exact heap_lt gg1
    have toklt : ∀ k' v' m' i, τ k' = some (v', m') → s.d k' = false → blk v' = some i → i < w.heap.size := by
      intro k' v' m' i e1 e2 e3
      obtain ⟨A, n', c, rfl, gg⟩ := h.tk k' v' m' e1 e2
      obtain ⟨hc, ad, rfl, hb2⟩ := blk_cap e3
      rcases gg with gg | ⟨b', cs, ty, hA, gg2, _⟩
      · exact absurd gg hc
      · cases hA; subst hb2; exact heap_lt gg2
    have obx : ∀ k' B', (upd s.b k none : Key → Option Box) k' = some B' → k' ≠ k ∧ s.b k' = some B' := by
      intro k' B' hh
      rw [upd_at] at hh
      split at hh
      · cases hh
      · exact ⟨by assumption, hh⟩
    -- the token
    have h2 : ∃ τ2, RepG N w0 C0 E { s with d := upd (killO s.d (lastKey x)) (k.1, s.g k.1, 0) false, b := upd s.b k none, g := upd s.g k.1 (s.g k.1 + 1) } a w' C' ρ τ2 ∧
        (∀ k' y, τ' k' = some y → τ2 (k.1, s.g k.1, k'.2.2) = some y) ∧ (∀ k' y, τ2 k' = some y → τ k' = some y ∨ τ' (0, 0, 0) = some y) ∧ (∀ k' y, τ2 k' = some y → killO s.d (lastKey x) k' = true → k' = (k.1, s.g k.1, 0) ∨ killO s.d (lastKey x) k' = true) := by
      cases hτ : τ' (0, 0, 0) with
      | none =>
        refine ⟨τ, h1.bump (k.1, s.g k.1, 0) (Nat.le_refl _), ?_, fun _ _ h => .inl h, fun _ _ _ h => .inr h⟩
        intro k' y hk'
        have := ht.k _ _ hk'
        subst this
        rw [hτ] at hk'; cases hk'
      | some y =>
        obtain ⟨u, m⟩ := y
        obtain ⟨A, n, c, rfl, gg⟩ := ht.w _ _ _ hτ
        refine ⟨upd τ (k.1, s.g k.1, 0) (some (.slice A n c, m)), h1.addtok (k.1, s.g k.1, 0) (Nat.le_refl _) ⟨A, n, c, rfl, ?_⟩ ?_, ?_, ?_, fun _ _ _ h => .inr h⟩
        · rcases gg with gg | ⟨b', cs, ty, hA, gg1, gg2, gg3, gg4, gg5, gg6, gg7⟩
          · exact .inl gg
          · refine .inr ⟨b', cs, ty, hA, gg1, gg2, gg3, gg4, gg5, ?_⟩
            rcases gg7 with gg7 | gg7
            · have := h.fr.size
              refine ⟨.inl (by omega), fun k2 B2 e1 e2 => ?_⟩
              have := boxlt _ _ _ (obx _ _ e1).2 e2
              omega
            · exact ⟨(tB _ gg7).1, fun k2 B2 e1 => (tB _ gg7).2.1 _ _ (obx _ _ e1).2⟩
        · intro k2 v2 m2 i e1 e2 e3
          obtain ⟨hc, ad, rfl, hb2⟩ := blk_cap e3
          rcases gg with gg | ⟨b', cs, ty, hA, _, _, _, _, _, gg6, gg7⟩
          · exact absurd gg hc
          · cases hA
            subst hb2
            rcases gg7 with gg7 | gg7
            · intro e4
              have := toklt _ _ _ _ e1 (killO_ne e2).1 e4
              simp at this
              omega
            · exact (tB _ gg7).2.2 _ _ _ e1 e2
        · intro k' y hk'
          have := ht.k _ _ hk'
          subst this
          rw [hτ] at hk'; cases hk'
          simp [upd]
        · intro k' y hk'
          rw [upd_at] at hk'
          split at hk'
          · exact .inr hk'
          · exact .inl hk'
    obtain ⟨τ2, h2, h3, h4, _⟩ := h2
    have hrx : ∀ u, cs'[pre'.length]? = some u → RV C' ρ τ2 u (ren0 k.1 (s.g k.1) x') := fun u hu => ren0_rv h3 (q5 u hu)
    have h5 := h2.putbox (k := k) (b := b) (l := pre' ++ [ren0 k.1 (s.g k.1) x']) hρ g7 q1 (by simpa using q2) q3 (by
        intro i u y hu hy
        rcases Nat.lt_or_ge i pre'.length with hi | hi
        · rw [List.getElem?_append_left hi] at hy
          exact (q4 i u y hu hy).lift _ _
        · rw [List.getElem?_append_right hi] at hy
          have : i = pre'.length := by
            have := (List.getElem?_eq_some_iff.1 hy).1
            simp at this; omega
          subst this
          simp at hy
          subst hy
          exact hrx u hu) q6 (by
        intro k' B hne e1 e2
        exact hne (h.bj k' k B _ b (obx _ _ e1).2 hB e2 hρ)) (by
        intro k' u m e1 e2 e3
        by_cases hkk : k' = (k.1, s.g k.1, 0)
        · subst hkk
          rcases h4 _ _ e1 with e4 | e4
          · have := h.fτ _ _ e4
            simp at this
          · obtain ⟨A, n, c, rfl, gg⟩ := ht.w _ _ _ e4
            obtain ⟨hc, ad, rfl, hb2⟩ := blk_cap e3
            rcases gg with gg | ⟨b', cs, ty, hA, _, _, _, _, _, gg6, gg7⟩
            · exact hc gg
            · cases hA
              exact gg6 hb2
        · have h6 := h2.tk k' u m e1 e2
          obtain ⟨A, n, c, rfl, gg⟩ := h6
          obtain ⟨hc, ad, rfl, hb2⟩ := blk_cap e3
          have e2' : killO s.d (lastKey x) k' = false := by simpa [upd, hkk] using e2
          rcases h4 _ _ e1 with e4 | e4
          · obtain ⟨A2, n2, c2, e5, gg⟩ := h.tk _ _ _ e4 (killO_ne e2').1
            cases e5
            rcases gg with gg | ⟨b', cs, ty, hA, _, _, _, _, _, gg6, gg7⟩
            · exact hc gg
            · cases hA
              exact gg7 k _ hB (by rw [hρ, ← hb2])
          · obtain ⟨A2, n2, c2, e5, gg⟩ := ht.w _ _ _ e4
            cases e5
            rcases gg with gg | ⟨b', cs, ty, hA, _, _, _, _, _, gg6, gg7⟩
            · exact hc gg
            · cases hA
              exact gg6 hb2)
    have h7 : upd (upd s.b k none) k (some ⟨pre' ++ [ren0 k.1 (s.g k.1) x'], false⟩) = upd s.b k (some ⟨pre' ++ [ren0 k.1 (s.g k.1) x'], false⟩) := by
      funext k'
      simp only [upd_at]
      split <;> rfl
    have h8 : RepG N w0 C0 E (s.ecall none k r (pre' ++ [ren0 k.1 (s.g k.1) x']) (lastKey x)) a w' C' ρ τ2 := by
      simp only [h7] at h5
      exact h5
    apply hK
    cases hd : o.dst with
    | none => exact ⟨_, _, _, h8⟩
    | some d =>
      rw [ecall_set]
      exact ⟨_, _, _, h8.set d (hN d hd) (hr.lift _ _)⟩

end Go.Sy
