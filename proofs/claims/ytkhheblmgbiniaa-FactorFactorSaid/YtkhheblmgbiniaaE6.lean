/- Walks through code that turns two lists of numbers which a box refers to: calls that only read such lists; calls that turn them. -/
import Derived.Test.YtkhheblmgbiniaaF3
import Derived.Test.YtkhheblmgbiniaaW8
namespace Go.Sy
open Go Go.RowKit

variable {N : Nat} {w0 : World} {C0 : CMap} {E : EX} {s : St} {a : Act} {w : World} {C : CMap} {ρ : RMap} {τ : TMap} {P : Program} {o : Oper} {e : Eff}

/-- What a call reads of a list that may still be written. -/
def thB (x : AV) (n sz : Nat) : Option Box → AV
  | some B => if n = B.c.length ∧ sz = 1 ∧ B.c.all clean = true then .list 1 (B.c.map fun y => [y]) .no else x
  | none => x
def thw (s : St) : AV → AV
  | .sl k n sz => thB (.sl k n sz) n sz (s.b k)
  | x => x

theorem endC_cw (h : RepG N w0 C0 E s a w C ρ τ) : CW (endC C ρ s w) w := by
  intro b o v hv
  rcases endC_cases hv with h1 | ⟨⟨k, B, hB, hρ⟩, hc⟩
  · exact h.cw _ _ _ h1
  · refine ⟨hc, ?_⟩
    obtain ⟨cs, ty, g1, g2, g3, g4⟩ := box_cells h hB hρ
    simp only [World.cell?, g1] at hc
    exact g3 o v hc

theorem thw_rv (h : RepG N w0 C0 E s a w C ρ τ) {v : Value} {x : AV} (hv : RV C ρ τ v x) (hc : cleanV (thw s x) = true) : RV (endC C ρ s w) noρ noτ v (thw s x) := by
  have base : cleanV x = true → RV (endC C ρ s w) noρ noτ v x := fun hx => (cleanV_rv hv hx).mono endC_ge (fun _ _ h => h) (fun _ _ h => h)
  cases x with
  | sl k n sz =>
    simp only [thw] at hc ⊢
    unfold thB at hc ⊢
    split at hc
    · rename_i B hB
      split at hc
      · rename_i hcnd
        rw [if_pos hcnd]
        obtain ⟨h1, rfl, h3⟩ := hcnd
        refine fin0_rv h hv (.inr ⟨k, n, 1, _, B, rfl, rfl, hB, ?_, by simp [h1], ?_, fun y hy => List.all_eq_true.1 h3 y hy⟩)
        · generalize B.c = l
          induction l with
          | nil => rfl
          | cons y l ih => simp only [List.map_cons, List.flatten_cons, List.singleton_append]; rw [← ih]
        · intro y hy
          obtain ⟨z, _, rfl⟩ := List.mem_map.1 hy
          rfl
      · cases hc
    · cases hc
  | _ => exact base hc

/-- A call that only reads, lists that may still be written among what it reads. -/
def stepT (P : Program) (s : St) (o : Oper) (K : St → Prop) : Prop := match o.op with
  | .call { callee := .value g, args, argTypes } => match s.o P 0 g with
    | .clo f caps => args.size ≤ argTypes.size ∧ ((argsAV P s args.toList argTypes.toList).map (thw s)).all cleanV = true ∧ ∃ d v, o.dst = some d ∧ Con P f ((argsAV P s args.toList argTypes.toList).map (thw s) ++ caps) 0 (.v v) ∧ K (s.set d (.v v))
    | _ => False
  | _ => False

theorem stepT_sound {Q : Exit → Act → World → Prop} {K : St → Prop} {KA : Act → World → Prop} (h : Rep N w0 C0 E s a w) (hN : ∀ d, o.dst = some d → d < N) (he : stepT P s o K)
    (hK : ∀ s' a' w', K s' → Rep N w0 C0 E s' a' w' → KA a' w') : o.wp P a w KA Q := by
  obtain ⟨C, ρ, τ, h⟩ := h
  unfold stepT at he
  split at he
  case h_2 => exact he.elim
  rename_i g args ts ho
  split at he
  case h_2 => exact he.elim
  rename_i f caps hg
  obtain ⟨hts, hcl, d, v, hd, hcon, hk⟩ := he
  have hgv := opnd (P := P) h 0 g
  rw [hg] at hgv
  have hfn : ∃ cs, a.eval g = .func (.func f) #[] cs ∧ cs.size = caps.length ∧ (∀ (i : Nat) (v : Value) (x : AV), cs[i]? = some v → caps[i]? = some x → RV C noρ noτ v x) := by
    generalize a.eval g = v at hgv
    cases hgv
    exact ⟨_, rfl, by assumption, by assumption⟩
  obtain ⟨cs, hfv, hcs1, hcs2⟩ := hfn
  have hrun : (execOp a.eval o).run P w = .ok (.enter f (args.map a.eval ++ cs)) w := by
    simp [execOp, ho, resolve, hfv, Deferred.ofValue, invoke, hcon.enters _ _]
  unfold Oper.wp
  rw [hrun]
  simp only [Oper.upon]
  have hlen : (argsAV P s args.toList ts.toList).length = args.size := by
    simp only [argsAV, List.length_zipWith, Array.length_toList]; omega
  refine (hcon.calls (endC C ρ s w) w (args.map a.eval ++ cs) (endC_cw h) (by simp [hlen, hcs1]) ?_).mono ?_
  · intro i v x hv hx
    by_cases hi : i < args.size
    · rw [Array.getElem?_append_left (by simpa using hi)] at hv
      rw [List.getElem?_append_left (by simp; omega)] at hx
      simp only [Array.getElem?_map] at hv
      obtain ⟨y, hy, rfl⟩ := Option.map_eq_some_iff.1 hv
      have hmem := List.mem_of_getElem? hx
      have hcx := List.all_eq_true.1 hcl x hmem
      simp only [List.getElem?_map] at hx
      obtain ⟨z, hz, rfl⟩ := Option.map_eq_some_iff.1 hx
      simp only [argsAV, List.getElem?_zipWith] at hz
      split at hz
      · rename_i y' t' hy' ht'
        cases hz
        simp only [Array.getElem?_toList] at hy'
        rw [hy] at hy'
        cases hy'
        exact thw_rv h (fgtV_rv (opnd h t' y)) hcx
      · cases hz
    · rw [Array.getElem?_append_right (by simp; omega)] at hv
      rw [List.getElem?_append_right (by simp; omega)] at hx
      simp only [Array.size_map, List.length_map, hlen] at hv hx
      exact (hcs2 _ _ _ hv hx).mono endC_ge (fun _ _ h => h) (fun _ _ h => h)
  · rintro e' w' ⟨u, C', τ', rfl, hb, _, _, _, hr, _⟩
    obtain ⟨rfl, h1⟩ := rv_v hr
    have h2 := h.same hb
    refine hK _ _ _ hk ⟨C, ρ, τ, ?_⟩
    rw [hd]
    exact h2.set d (hN d hd) (.v _ h1)

/-! ### Calls that turn two lists -/
def ints (l : List Int) : Array Value := (l.map fun n => Value.int .i64 n).toArray
theorem ints_size (l : List Int) : (ints l).size = l.length := by simp [ints]
theorem ints_at {l : List Int} {i : Nat} {v : Value} (h : (ints l)[i]? = some v) : ∃ n, l[i]? = some n ∧ v = .int .i64 n := by
  simp only [ints, List.getElem?_toArray, List.getElem?_map] at h
  obtain ⟨n, h1, rfl⟩ := Option.map_eq_some_iff.1 h
  exact ⟨n, h1, rfl⟩
theorem ints_rv {l : List Int} {i : Nat} {v : Value} {x : AV} (h : (ints l)[i]? = some v) (hx : (bi l)[i]? = some x) : RV C ρ τ v x := by
  obtain ⟨n, h1, rfl⟩ := ints_at h
  simp only [bi, List.getElem?_map, h1, Option.map_some, Option.some.injEq] at hx
  subst hx
  exact .v _ rfl
theorem rv_ints {l : List Int} {cs : Array Value} (hl : cs.size = l.length) (h : ∀ (i : Nat) (v : Value) (x : AV), cs[i]? = some v → (bi l)[i]? = some x → RV C ρ τ v x) : cs = ints l := by
  refine Array.ext (by rw [hl, ints_size]) fun i h1 h2 => ?_
  have hi : i < l.length := by omega
  have := h i cs[i] (.v (.int .i64 l[i])) (by simp [h1]) (by simp [bi, hi])
  rw [(rv_v this).1]
  simp [ints]

/-- A box, and the two lists that it refers to. -/
structure XB (C : CMap) (w : World) (x y z : Nat) (p : List AV) (q : AV) (l m : List Int) : Prop where
  ex : ∃ (cs : Array Value) (ty : TypeId) (c d : Nat), w.heap[x]? = some (.cells cs ty (0, 0)) ∧ cs.size = p.length + 3 ∧ (∀ (i : Nat) (v : Value), cs[i]? = some v → v.oneCell' = true) ∧
    (∀ (i : Nat) (v : Value) (a : AV), cs[i]? = some v → p[i]? = some a → RV C noρ noτ v a) ∧ cs[p.length]? = some (.slice (some ⟨y, 0, none⟩) l.length c) ∧ l.length ≤ c ∧ c ≤ maxLen ∧
    cs[p.length + 1]? = some (.slice (some ⟨z, 0, none⟩) m.length d) ∧ m.length ≤ d ∧ d ≤ maxLen ∧ (∀ v, cs[p.length + 2]? = some v → RV C noρ noτ v q)
  b1 : ∃ ty, w.heap[y]? = some (.cells (ints l) ty (0, 0))
  b2 : ∃ ty, w.heap[z]? = some (.cells (ints m) ty (0, 0))
  f : ∀ o, C x o = none ∧ C y o = none ∧ C z o = none
  ne : x ≠ y ∧ x ≠ z ∧ y ≠ z

structure XCon (P : Program) (f : FuncId) (args : List AV) (p : List AV) (q : AV) (l m : List Int) (r : Bool) : Prop where
  enters : Enters P f
  calls : ∀ (C : CMap) (w : World) (x y z : Nat) (vs : Array Value), CW C w → XB C w x y z p q l m → vs.size = args.length →
    (∀ (i : Nat) (v : Value) (x : AV), vs[i]? = some v → args[i]? = some x → RV C noρ noτ v x) →
    Calls P f (#[.pointer (some ⟨x, 0, none⟩)] ++ vs) w fun e w' => ∃ (C' : CMap) (l' m' : List Int), e = .returned (.bool r) ∧ Fr w (fun i => i = x ∨ i = y ∨ i = z) w' ∧ (∀ b o v, C b o = some v → C' b o = some v) ∧
      (∀ b o v, C' b o = some v → C b o = some v ∨ w.heap.size ≤ b) ∧ CW C' w' ∧ XB C' w' x y z p q l' m' ∧ l'.length = l.length ∧ m'.length = m.length ∧ (r = false → l' = l ∧ m' = m)

/-- Three blocks more that never turn. -/
noncomputable def plus3 (C : CMap) (w : World) (x y z : Nat) : CMap := fun b o => open Classical in if b = x ∨ b = y ∨ b = z then w.cell? ⟨b, o, none⟩ else C b o
theorem plus3_in {x y z b o : Nat} (h : b = x ∨ b = y ∨ b = z) : plus3 C w x y z b o = w.cell? ⟨b, o, none⟩ := if_pos h
theorem plus3_out {x y z b o : Nat} (h : ¬ (b = x ∨ b = y ∨ b = z)) : plus3 C w x y z b o = C b o := if_neg h
set_option maxHeartbeats 1000000 in
/-- A call that turns nothing is such a call. -/
theorem xcon_con {f : FuncId} {args p : List AV} {q : AV} {l m : List Int} {r : Bool} (h : Con P f (.ptr (p ++ [lvT l .no, lvT m .no, q]) :: args) 0 (bv r)) : XCon P f args p q l m r := by
  refine ⟨h.enters, fun C w x y z vs hC hX hl hv => ?_⟩
  obtain ⟨cs, ty, c, d, g1, g2, g3, g4, g5, g6, g7, g8, g9, g10, g11⟩ := hX.ex
  obtain ⟨ty1, y1⟩ := hX.b1
  obtain ⟨ty2, z1⟩ := hX.b2
  obtain ⟨C1, eC1⟩ : ∃ C1, C1 = plus3 C w x y z := ⟨_, rfl⟩
  have hC1 : ∀ b o v, C b o = some v → C1 b o = some v := by
    intro b o v hb
    have : ¬ (b = x ∨ b = y ∨ b = z) := by
      rintro (rfl | rfl | rfl)
      · rw [(hX.f o).1] at hb; cases hb
      · rw [(hX.f o).2.1] at hb; cases hb
      · rw [(hX.f o).2.2] at hb; cases hb
    rw [eC1, plus3_out this]
    exact hb
  have cx : ∀ o, C1 x o = cs[o]? := fun o => by
    rw [eC1, plus3_in (.inl rfl)]
    simp only [World.cell?, g1]
    rfl
  have cy : ∀ o, C1 y o = (ints l)[o]? := fun o => by
    rw [eC1, plus3_in (.inr (.inl rfl))]
    simp only [World.cell?, y1]
    rfl
  have cz : ∀ o, C1 z o = (ints m)[o]? := fun o => by
    rw [eC1, plus3_in (.inr (.inr rfl))]
    simp only [World.cell?, z1]
    rfl
  have hcw : CW C1 w := by
    intro b o v hb
    by_cases hh : b = x ∨ b = y ∨ b = z
    · have hb' := hb
      rw [eC1, plus3_in hh] at hb'
      refine ⟨hb', ?_⟩
      rcases hh with rfl | rfl | rfl
      · rw [cx] at hb; exact g3 o v hb
      · rw [cy] at hb; obtain ⟨n, _, rfl⟩ := ints_at hb; rfl
      · rw [cz] at hb; obtain ⟨n, _, rfl⟩ := ints_at hb; rfl
    · have hb' := hb
      rw [eC1, plus3_out hh] at hb'
      exact hC b o v hb'
  have lst : ∀ (b c : Nat) (l : List Int), l.length ≤ c → c ≤ maxLen → (∀ o, C1 b o = (ints l)[o]?) → RV C1 noρ noτ (.slice (some ⟨b, 0, none⟩) l.length c) (lvT l .no) := by
    intro b c l h1 h2 h3
    refine .list 1 _ .no _ _ c (fun i _ => (ints l).getD i undef) (by simp) h1 h2 (fun i x hx => ?_) (fun i x j u hx hu => ?_) trivial
    · rw [List.getElem?_map] at hx
      obtain ⟨n, hn, rfl⟩ := Option.map_eq_some_iff.1 hx
      have hi := (List.getElem?_eq_some_iff.1 hn).1
      refine ⟨rfl, b, 0, rfl, fun j hj => ?_⟩
      have e : 0 + i * 1 + j = i := by omega
      rw [e, h3]
      have : i < (ints l).size := by rw [ints_size]; exact hi
      simp [this]
    · rw [List.getElem?_map] at hx
      obtain ⟨n, hn, rfl⟩ := Option.map_eq_some_iff.1 hx
      have hi := (List.getElem?_eq_some_iff.1 hn).1
      cases j with
      | zero =>
        cases hu
        have e : (ints l).getD i undef = .int .i64 n := by
          have : i < (ints l).size := by rw [ints_size]; exact hi
          rw [Array.getD_eq_getD_getElem?]
          simp [ints, hn]
        rw [e]
        exact .v _ rfl
      | succ j => simp at hu
  have hpv : RV C1 noρ noτ (.pointer (some ⟨x, 0, none⟩)) (.ptr (p ++ [lvT l .no, lvT m .no, q])) := by
    refine .ptr x 0 _ (fun j => cs.getD j undef) (fun j hj => ?_) (fun j u hu => ?_)
    · rw [Nat.zero_add, cx]
      have : j < cs.size := by simp at hj; omega
      simp [this]
    · have hj := (List.getElem?_eq_some_iff.1 hu).1
      simp at hj
      have hlt : j < cs.size := by omega
      have hjv : cs[j]? = some (cs.getD j undef) := by simp [hlt]
      rcases Nat.lt_or_ge j p.length with h1 | h1
      · rw [List.getElem?_append_left h1] at hu
        exact (g4 j _ u hjv hu).mono hC1 (fun _ _ h => h) (fun _ _ h => h)
      · rw [List.getElem?_append_right h1] at hu
        have hcase : j = p.length ∨ j = p.length + 1 ∨ j = p.length + 2 := by omega
        rcases hcase with rfl | rfl | rfl
        · simp at hu; subst hu
          rw [g5] at hjv; rw [← Option.some.inj hjv]
          exact lst y c l g6 g7 cy
        · rw [show p.length + 1 - p.length = 1 by omega] at hu
          simp at hu; subst hu
          rw [g8] at hjv; rw [← Option.some.inj hjv]
          exact lst z d m g9 g10 cz
        · rw [show p.length + 2 - p.length = 2 by omega] at hu
          simp at hu; subst hu
          exact (g11 _ hjv).mono hC1 (fun _ _ h => h) (fun _ _ h => h)
  have hs1 : (#[Value.pointer (some ⟨x, 0, none⟩)] ++ vs).size = (AV.ptr (p ++ [lvT l .no, lvT m .no, q]) :: args).length := by
    rw [Array.size_append, hl, List.length_cons, Nat.add_comm]
    rfl
  have hs2 : ∀ (i : Nat) (v : Value) (u : AV), (#[Value.pointer (some ⟨x, 0, none⟩)] ++ vs)[i]? = some v → (AV.ptr (p ++ [lvT l .no, lvT m .no, q]) :: args)[i]? = some u → RV C1 noρ noτ v u := by
    intro i v u hv' hu
    cases i with
    | zero =>
      rw [Array.getElem?_append_left (Nat.zero_lt_one)] at hv'
      cases hv'
      cases hu
      exact hpv
    | succ i =>
      rw [Array.getElem?_append_right (by exact Nat.le_add_left 1 i)] at hv'
      have e : i + 1 - #[Value.pointer (some ⟨x, 0, none⟩)].size = i := rfl
      rw [e] at hv'
      exact (hv i v u hv' hu).mono hC1 (fun _ _ h => h) (fun _ _ h => h)
  refine (h.calls C1 w _ hcw hs1 hs2).mono ?_
  · rintro e w' ⟨v, C', τ', rfl, hb, _, _, _, hr, _⟩
    obtain ⟨rfl, _⟩ := rv_v hr
    have blkx : ∀ {i : Nat} {x : Obj}, w.heap[i]? = some x → w'.heap[i]? = some x := fun hx => (hb.block _ (heap_lt hx)).trans hx
    refine ⟨C, l, m, rfl, ⟨hb.os, hb.tape, hb.output, hb.size, fun i hi _ => hb.block i hi⟩, fun _ _ _ h => h, fun _ _ _ h => .inl h, ?_, ⟨⟨cs, ty, c, d, blkx g1, g2, g3, g4, g5, g6, g7, g8, g9, g10, g11⟩, ⟨ty1, blkx y1⟩, ⟨ty2, blkx z1⟩, hX.f, hX.ne⟩, rfl, rfl, fun _ => ⟨rfl, rfl⟩⟩
    intro b o v hv
    obtain ⟨h1, h2⟩ := hC b o v hv
    exact ⟨(World.cell?_of_block (w := w) (a := ⟨b, o, none⟩) (hb.block b (cell_lt h1))).trans h1, h2⟩

theorem RepG.unbox (h : RepG N w0 C0 E s a w C ρ τ) (k : Key) : RepG N w0 C0 E { s with b := upd s.b k none } a w C ρ τ := by
  have ob : ∀ k' B', (upd s.b k none : Key → Option Box) k' = some B' → s.b k' = some B' := by
    intro k' B' hh
    rw [upd_at] at hh
    split at hh
    · cases hh
    · exact hh
  exact { h with
    bx := fun k' B hB => h.bx k' B (ob _ _ hB)
    bj := fun k1 k2 B1 B2 b h1 h2 => h.bj k1 k2 B1 B2 b (ob _ _ h1) (ob _ _ h2)
    tk := by
      intro k' v n hk hd
      obtain ⟨A, n', c, rfl, g⟩ := h.tk k' v n hk hd
      refine ⟨A, n', c, rfl, ?_⟩
      rcases g with g | ⟨b', cs, ty, hA, g1, g2, g3, g4, g5, g6, g7⟩
      · exact .inl g
      · exact .inr ⟨b', cs, ty, hA, g1, g2, g3, g4, g5, g6, fun k2 B2 hB2 => g7 k2 B2 (ob _ _ hB2)⟩ }

/-- Blocks that neither a box nor a token holds may turn. -/
theorem RepG.turnS (h : RepG N w0 C0 E s a w C ρ τ) (G : Nat → Prop) (hG1 : ∀ i, G i → w0.heap.size ≤ i ∨ E i) (hG2 : ∀ k B i, s.b k = some B → ρ k = some i → ¬ G i)
    (hG3 : ∀ k v m i, τ k = some (v, m) → s.d k = false → blk v = some i → ¬ G i) {w1 : World} {C1 : CMap} (hC : ∀ b o v, C b o = some v → C1 b o = some v)
    (hF : Fr w G w1) (hn : ∀ b' o v, C1 b' o = some v → C b' o = some v ∨ w.heap.size ≤ b') (hcw : CW C1 w1) : RepG N w0 C0 E s a w1 C1 ρ τ := by
  have mono : ∀ {v : Value} {x : AV}, RV C ρ τ v x → RV C1 ρ τ v x := fun hv => hv.mono hC (fun _ _ h => h) (fun _ _ h => h)
  have old : ∀ {i : Nat} {x : Obj}, ¬ G i → w.heap[i]? = some x → w1.heap[i]? = some x := fun h1 hx => (hF.block _ (heap_lt hx) h1).trans hx
  have cold : ∀ {i o : Nat}, i < w.heap.size → C i o = none → C1 i o = none := by
    intro i o h1 h3
    cases hc : C1 i o with
    | none => rfl
    | some v =>
      rcases hn _ _ _ hc with hh | hh
      · rw [h3] at hh; cases hh
      · omega
  refine
    { df := h.df, sz := h.sz, tm := fun t => mono (h.tm t), cw := hcw, c0 := fun _ _ _ hh => hC _ _ _ (h.c0 _ _ _ hh), c1 := ?_, bx := ?_, bj := h.bj, tk := ?_, tj := h.tj, fρ := h.fρ, fτ := h.fτ, fo := h.fo, fr := ?_ }
  · intro b' o v hb' hv
    rcases hn _ _ _ hv with hh | hh
    · exact h.c1 _ _ _ hb' hh
    · have := h.fr.size; omega
  · intro k' B' hB'
    obtain ⟨b', hρ', ⟨⟨cs, ty, g1, g2, g3, g4, g5⟩, g6⟩, g7⟩ := h.bx k' B' hB'
    exact ⟨b', hρ', ⟨⟨cs, ty, old (hG2 _ _ _ hB' hρ') g1, g2, g3, fun i v x hc hx => mono (g4 i v x hc hx), fun hz i v hc => hC _ _ _ (g5 hz i v hc)⟩, fun hz o => cold (heap_lt g1) (g6 hz o)⟩, g7⟩
  · intro k' v m hk' hd
    obtain ⟨A, n, c, rfl, g⟩ := h.tk k' v m hk' hd
    refine ⟨A, n, c, rfl, ?_⟩
    rcases g with g | ⟨b', cs, ty, hA, g1, g2, g3, g4, g5, g6, g7⟩
    · exact .inl g
    · by_cases hc0 : c = 0
      · exact .inl hc0
      subst hA
      exact .inr ⟨b', cs, ty, rfl, old (hG3 _ _ _ b' hk' hd (by simp [blk, hc0])) g1, g2, g3, g4, fun o ho => cold (heap_lt g1) (g5 o ho), g6, g7⟩
  · refine ⟨hF.os.trans h.fr.os, hF.tape.trans h.fr.tape, hF.output.trans h.fr.output, Nat.le_trans h.fr.size hF.size, fun i hi hEi => ?_⟩
    rw [hF.block i (Nat.lt_of_lt_of_le hi h.fr.size), h.fr.block i hi hEi]
    intro hh
    rcases hG1 i hh with g | g
    · omega
    · exact hEi g

def xcell (p : List AV) (k1 k2 : Key) (n1 n2 : Nat) (q : AV) : List AV := p ++ [.sl k1 n1 1, .sl k2 n2 1, q]
/-- What such a call leaves. -/
def St.xcall (s : St) (d : Option Nat) (r : Bool) (k k1 k2 : Key) (c : List AV) (l m : List Int) : St :=
  { s with t := match d with | none => s.t | some d => upd s.t d (.v (.bool r)), b := upd (upd (upd s.b k (some ⟨c, false⟩)) k1 (some ⟨bi l, false⟩)) k2 (some ⟨bi m, false⟩) }
def stepM (P : Program) (s : St) (o : Oper) (K : St → Prop) : Prop := match o.op with
  | .call { callee := .value g, args, argTypes } => ∃ f x0 xs t0 ts k k1 k2 p q l m r, s.o P 0 g = .clo f [] ∧ args.toList = x0 :: xs ∧ argTypes.toList = t0 :: ts ∧ xs.length ≤ ts.length ∧ s.o P t0 x0 = .box k 0 ∧
      s.b k = some ⟨xcell p k1 k2 l.length m.length q, false⟩ ∧ (p.all clean = true ∧ clean q = true) ∧ s.b k1 = some ⟨bi l, false⟩ ∧ s.b k2 = some ⟨bi m, false⟩ ∧ (k ≠ k1 ∧ k ≠ k2 ∧ k1 ≠ k2) ∧ (argsAV P s xs ts).all cleanV = true ∧ XCon P f (argsAV P s xs ts) p q l m r ∧
      ∀ l' m' : List Int, l'.length = l.length → m'.length = m.length → (r = false → l' = l ∧ m' = m) → K (s.xcall o.dst r k k1 k2 (xcell p k1 k2 l.length m.length q) l' m')
  | _ => False

set_option maxHeartbeats 1000000 in
theorem stepM_sound {Q : Exit → Act → World → Prop} {K : St → Prop} {KA : Act → World → Prop} (h : Rep N w0 C0 E s a w) (hN : ∀ d, o.dst = some d → d < N) (he : stepM P s o K)
    (hK : ∀ s' a' w', K s' → Rep N w0 C0 E s' a' w' → KA a' w') : o.wp P a w KA Q := by
  obtain ⟨C, ρ, τ, h⟩ := h
  unfold stepM at he
  split at he
  case h_2 => exact he.elim
  rename_i g args tys ho
  obtain ⟨f, x0, xs, t0, ts, k, k1, k2, p, q, l, m, r, hg, hargs, htys, hlen, hbx, hB, ⟨hp, hq⟩, hB1, hB2, ⟨n1, n2, n3⟩, hcl, hcon, hk⟩ := he
  have hgv := opnd (P := P) h 0 g
  rw [hg] at hgv
  have hfn : a.eval g = .func (.func f) #[] #[] := by
    generalize a.eval g = v at hgv
    cases hgv with
    | clo _ cs _ hl _ =>
      have : cs = #[] := by simpa using hl
      rw [this]
  have hrun : (execOp a.eval o).run P w = .ok (.enter f (args.map a.eval)) w := by
    simp [execOp, ho, resolve, hfn, Deferred.ofValue, invoke, hcon.enters _ _]
  unfold Oper.wp
  rw [hrun]
  simp only [Oper.upon]
  have hbv := opnd (P := P) h t0 x0
  rw [hbx] at hbv
  obtain ⟨x, hv0, hρ⟩ := rv_box hbv
  have hmap : args.map a.eval = #[.pointer (some ⟨x, 0, none⟩)] ++ (xs.map a.eval).toArray := by
    apply Array.ext'
    simp [hargs, hv0]
  obtain ⟨x', hρ', ⟨⟨cs, ty, g1, g2, g3, g4, _⟩, g6⟩, g7⟩ := h.bx k _ hB
  rw [hρ] at hρ'; cases hρ'
  obtain ⟨y, hρ1, ⟨⟨cs1, ty1, y1, y2, y3, y4, _⟩, y6⟩, y7⟩ := h.bx k1 _ hB1
  obtain ⟨z, hρ2, ⟨⟨cs2, ty2, z1, z2, z3, z4, _⟩, z6⟩, z7⟩ := h.bx k2 _ hB2
  have e1 : cs1 = ints l := rv_ints (by simpa [bi] using y2) y4
  have e2 : cs2 = ints m := rv_ints (by simpa [bi] using z2) z4
  subst e1 e2
  have hsz : cs.size = p.length + 3 := by simpa [xcell] using g2
  have sl1 : ∃ c, cs[p.length]? = some (.slice (some ⟨y, 0, none⟩) l.length c) ∧ l.length ≤ c ∧ c ≤ maxLen := by
    have hlt : p.length < cs.size := by omega
    have := g4 p.length cs[p.length] (.sl k1 l.length 1) (by simp [hlt]) (by simp [xcell])
    obtain ⟨b, c, e, hb, h1, h2⟩ := rv_sl this
    rw [hρ1] at hb; cases hb
    exact ⟨c, by simp [hlt, e], h1, h2⟩
  have sl2 : ∃ c, cs[p.length + 1]? = some (.slice (some ⟨z, 0, none⟩) m.length c) ∧ m.length ≤ c ∧ c ≤ maxLen := by
    have hlt : p.length + 1 < cs.size := by omega
    have := g4 (p.length + 1) cs[p.length + 1] (.sl k2 m.length 1) (by simp [hlt]) (by simp [xcell])
    obtain ⟨b, c, e, hb, h1, h2⟩ := rv_sl this
    rw [hρ2] at hb; cases hb
    exact ⟨c, by simp [hlt, e], h1, h2⟩
  obtain ⟨c, s1, s2, s3⟩ := sl1
  obtain ⟨d, t1, t2, t3⟩ := sl2
  have ne1 : x ≠ y := fun e => n1 (h.bj _ _ _ _ x hB hB1 hρ (e ▸ hρ1))
  have ne2 : x ≠ z := fun e => n2 (h.bj _ _ _ _ x hB hB2 hρ (e ▸ hρ2))
  have ne3 : y ≠ z := fun e => n3 (h.bj _ _ _ _ y hB1 hB2 hρ1 (e ▸ hρ2))
  have hX : XB C w x y z p q l m := by
    refine ⟨⟨cs, ty, c, d, g1, hsz, g3, fun i v u hv hu => ?_, s1, s2, s3, t1, t2, t3, fun v hv => ?_⟩, ⟨ty1, y1⟩, ⟨ty2, z1⟩, fun o => ⟨g6 rfl o, y6 rfl o, z6 rfl o⟩, ne1, ne2, ne3⟩
    · have hi := (List.getElem?_eq_some_iff.1 hu).1
      exact clean_rv (g4 i v u hv (by rw [xcell, List.getElem?_append_left hi]; exact hu)) (List.all_eq_true.1 hp u (List.mem_of_getElem? hu))
    · exact clean_rv (g4 (p.length + 2) v q hv (by simp [xcell])) hq
  rw [hmap]
  refine (hcon.calls C w x y z _ h.cw hX ?_ ?_).mono ?_
  · simp only [argsAV, List.length_zipWith, List.size_toArray, List.length_map]; omega
  · intro i v u hv hu
    have hmem := List.mem_of_getElem? hu
    have hcx := List.all_eq_true.1 hcl u hmem
    simp only [argsAV, List.getElem?_zipWith] at hu
    split at hu
    · rename_i y' t' hy' ht'
      cases hu
      simp only [List.getElem?_toArray, List.getElem?_map, hy', Option.map_some, Option.some.injEq] at hv
      subst hv
      exact cleanV_rv (fgtV_rv (opnd h t' y')) hcx
    · cases hu
  · rintro e' w' ⟨C', l', m', rfl, hF, hC1, hC2, hcw, hX', hl, hm, hrr⟩
    refine hK _ _ _ (hk l' m' hl hm hrr) ?_
    have h1 := ((h.unbox k).unbox k1).unbox k2
    have ob : ∀ k' B', (upd (upd (upd s.b k none) k1 none) k2 none : Key → Option Box) k' = some B' → (k' ≠ k ∧ k' ≠ k1 ∧ k' ≠ k2) ∧ s.b k' = some B' := by
      intro k' B' hh
      simp only [upd_at] at hh
      split at hh
      · cases hh
      · split at hh
        · cases hh
        · split at hh
          · cases hh
          · exact ⟨⟨by assumption, by assumption, by assumption⟩, hh⟩
    have tkn : ∀ k' v n i, τ k' = some (v, n) → s.d k' = false → blk v = some i → i ≠ x ∧ i ≠ y ∧ i ≠ z := by
      intro k' v n i e1 e2 e3
      obtain ⟨A, n', c, rfl, gg⟩ := h.tk k' v n e1 e2
      obtain ⟨hc, ad, rfl, hb2⟩ := blk_cap e3
      rcases gg with gg | ⟨b', cs, ty, hA, _, _, _, _, _, _, gg7⟩
      · exact absurd gg hc
      · cases hA
        subst hb2
        refine ⟨fun hh => gg7 k _ hB ?_, fun hh => gg7 k1 _ hB1 ?_, fun hh => gg7 k2 _ hB2 ?_⟩
        · rw [hρ]; exact congrArg some hh.symm
        · rw [hρ1]; exact congrArg some hh.symm
        · rw [hρ2]; exact congrArg some hh.symm
    have h2 := h1.turnS (fun i => i = x ∨ i = y ∨ i = z) (by
        rintro i (rfl | rfl | rfl)
        · exact g7
        · exact y7
        · exact z7) (by
        intro k' B i hB' hρ' hh
        obtain ⟨⟨e1, e2, e3⟩, hB'⟩ := ob _ _ hB'
        rcases hh with rfl | rfl | rfl
        · exact e1 (h.bj _ _ _ _ _ hB' hB hρ' hρ)
        · exact e2 (h.bj _ _ _ _ _ hB' hB1 hρ' hρ1)
        · exact e3 (h.bj _ _ _ _ _ hB' hB2 hρ' hρ2)) (by
        intro k' v n i e1 e2 e3 hh
        have := tkn k' v n i e1 e2 e3
        rcases hh with rfl | rfl | rfl
        · exact this.1 rfl
        · exact this.2.1 rfl
        · exact this.2.2 rfl) hC1 hF hC2 hcw
    obtain ⟨cs', ty', c', d', q1, q2, q3, q4, q5, q6, q7, q8, q9, q10, q11⟩ := hX'.ex
    obtain ⟨ty1', u1⟩ := hX'.b1
    obtain ⟨ty2', v1⟩ := hX'.b2
    have h3 := h2.putbox (k := k) (b := x) (l := xcell p k1 k2 l.length m.length q) hρ g7 q1 (by simpa [xcell] using q2) q3 (by
        intro i v u hv hu
        rcases Nat.lt_or_ge i p.length with h1 | h1
        · rw [xcell, List.getElem?_append_left h1] at hu
          exact (q4 i v u hv hu).lift _ _
        · rw [xcell, List.getElem?_append_right h1] at hu
          have hi := (List.getElem?_eq_some_iff.1 hu).1
          simp at hi
          have hcase : i = p.length ∨ i = p.length + 1 ∨ i = p.length + 2 := by omega
          rcases hcase with rfl | rfl | rfl
          · simp at hu; subst hu
            rw [q5] at hv; cases hv
            rw [hl] at q6 ⊢
            exact .sl _ y _ c' 1 hρ1 q6 q7
          · rw [show p.length + 1 - p.length = 1 by omega] at hu
            simp at hu; subst hu
            rw [q8] at hv; cases hv
            rw [hm] at q9 ⊢
            exact .sl _ z _ d' 1 hρ2 q9 q10
          · rw [show p.length + 2 - p.length = 2 by omega] at hu
            simp at hu; subst hu
            exact (q11 v hv).lift _ _) (fun o => (hX'.f o).1) (by
        intro k' B hne e1 e2
        exact hne (h.bj _ _ _ _ _ (ob _ _ e1).2 hB e2 hρ)) (fun k' v n e1 e2 e3 => (tkn k' v n x e1 e2 e3).1 rfl)
    have h4 := h3.putbox (k := k1) (b := y) (l := bi l') hρ1 y7 u1 (by rw [ints_size, bi_len]) (by
        intro i v hv
        obtain ⟨n, _, rfl⟩ := ints_at hv
        rfl) (fun i v u hv hu => ints_rv hv hu) (fun o => (hX'.f o).2.1) (by
        intro k' B hne e1 e2
        by_cases hkk : k' = k
        · subst hkk; rw [hρ] at e2; exact ne1 (Option.some.inj e2)
        · have e1 := (upd_ne _ _ hkk).symm.trans e1
          exact hne (h.bj _ _ _ _ _ (ob _ _ e1).2 hB1 e2 hρ1)) (fun k' v n e1 e2 e3 => (tkn k' v n y e1 e2 e3).2.1 rfl)
    have h5 := h4.putbox (k := k2) (b := z) (l := bi m') hρ2 z7 v1 (by rw [ints_size, bi_len]) (by
        intro i v hv
        obtain ⟨n, _, rfl⟩ := ints_at hv
        rfl) (fun i v u hv hu => ints_rv hv hu) (fun o => (hX'.f o).2.2) (by
        intro k' B hne e1 e2
        by_cases hkk1 : k' = k1
        · subst hkk1; rw [hρ1] at e2; exact ne3 (Option.some.inj e2)
        · have e1 := (upd_ne _ _ hkk1).symm.trans e1
          by_cases hkk : k' = k
          · subst hkk; rw [hρ] at e2; exact ne2 (Option.some.inj e2)
          · have e1 := (upd_ne _ _ hkk).symm.trans e1
            exact hne (h.bj _ _ _ _ _ (ob _ _ e1).2 hB2 e2 hρ2)) (fun k' v n e1 e2 e3 => (tkn k' v n z e1 e2 e3).2.2 rfl)
    have eb : upd (upd (upd (upd (upd (upd s.b k none) k1 none) k2 none) k (some ⟨xcell p k1 k2 l.length m.length q, false⟩)) k1 (some ⟨bi l', false⟩)) k2 (some ⟨bi m', false⟩) =
        upd (upd (upd s.b k (some ⟨xcell p k1 k2 l.length m.length q, false⟩)) k1 (some ⟨bi l', false⟩)) k2 (some ⟨bi m', false⟩) := by
      funext k'
      simp only [upd_at]
      split
      · rfl
      · split
        · rfl
        · split
          · rfl
          · rfl
    cases hd : o.dst with
    | none =>
      refine ⟨C', ρ, τ, ?_⟩
      simp only [eb] at h5
      exact h5
    | some d =>
      refine ⟨C', ρ, τ, ?_⟩
      simp only [eb] at h5
      exact h5.set d (hN d hd) (.v _ rfl)

/-! ### Code -/
def kdO : List (Nat × Nat) → Nat → Nat
  | [], _ => 0
  | (j, k) :: r, i => if i = j then k else kdO r i
def stepX (P : Program) (s : St) (o : Oper) (n : Nat) (K : St → Prop) : Prop := if n = 0 then stepG P s o K else if n = 1 then stepT P s o K else stepM P s o K
theorem stepX_sound {Q : Exit → Act → World → Prop} {K : St → Prop} {KA : Act → World → Prop} {n : Nat} (h : Rep N w0 C0 E s a w) (hN : ∀ d, o.dst = some d → d < N) (he : stepX P s o n K)
    (hK : ∀ s' a' w', K s' → Rep N w0 C0 E s' a' w' → KA a' w') : o.wp P a w KA Q := by
  unfold stepX at he
  split at he
  · obtain ⟨p, h1, h2⟩ := stepG_elim he
    exact stp_sound h hN h1 fun a' w' hr => hK _ _ _ h2 hr
  · split at he
    · exact stepT_sound h hN he hK
    · exact stepM_sound h hN he hK
def xops (P : Program) (ops : Array Oper) (H : List (Nat × Nat)) : Nat → List Oper → St → (St → Prop) → Prop
  | _, [], s, K => K s
  | i, o :: r, s, K => match wantA ops s o with
    | none => False
    | some c => (c = true → stepX P s o (kdO H i) fun s' => xops P ops H (i + 1) r s' K) ∧ (c = false → xops P ops H (i + 1) r (s.skip o.dst) K)
theorem xops_sound {ops : Array Oper} {H : List (Nat × Nat)} {Q : Exit → Act → World → Prop} {K : St → Prop} (hQ : ∀ s' a' w', K s' → Rep N w0 C0 E s' a' w' → Q .normal a' w') :
    ∀ (l : List Oper) (i : Nat) (s : St) (a : Act) (w : World), (∀ o ∈ l, ∀ d, o.dst = some d → d < N) → xops P ops H i l s K → Rep N w0 C0 E s a w → wpList P ops Q l a w
  | [], i, s, a, w, _, h, hr => hQ s a w h hr
  | o :: r, i, s, a, w, hN, h, hr => by
    unfold xops at h
    split at h
    · exact h.elim
    · rename_i c hc
      obtain ⟨C, ρ, τ, hr'⟩ := id hr
      have hw := wantA_sound hr' hc
      have hNo := hN o (List.mem_cons_self ..)
      unfold wpList
      cases c with
      | true =>
        rw [if_pos hw]
        exact .inl (stepX_sound hr hNo (h.1 rfl) fun s' a' w' hk hr' => xops_sound hQ r _ s' a' w' (fun o ho => hN o (List.mem_cons_of_mem _ ho)) hk hr')
      | false =>
        rw [if_neg (by simp [hw])]
        exact xops_sound hQ r _ _ _ w (fun o ho => hN o (List.mem_cons_of_mem _ ho)) (h.2 rfl) (skip_sound hr hNo)
abbrev XHints := List (Nat × List (Nat × Nat))
def hkO : XHints → Nat → Option (List (Nat × Nat))
  | [], _ => none
  | (j, h) :: r, i => if i = j then some h else hkO r i
def xcode (P : Program) (X : Hints) (H : XHints) : Code → (Exit → St → Prop) → St → Prop
  | .region id ops d, Q, s => match hkO H id with
    | none => acode P X (.region id ops d) Q s
    | some h => d = false ∧ xops P ops h 0 ops.toList s (Q .normal)
  | .seq x y, Q, s => xcode P X H x (fun e s' => match e with | .normal => xcode P X H y Q s' | e => Q e s') s
  | .cond c x y, Q, s => match s.o P 0 c with
    | .v (.bool b) => (b = true → xcode P X H x Q s) ∧ (b = false → xcode P X H y Q s)
    | _ => False
  | .block id c, Q, s => xcode P X H c (fun e s' => match e with | .exit id' => if id' = id then Q .normal s' else Q (.exit id') s' | e => Q e s') s
  | .loop c, Q, s => ∃ I : Nat → St → Prop, (∃ n, I n s) ∧ ∀ n s, I n s → xcode P X H c (fun e s' => match e with | .normal => ∃ m, m < n ∧ I m s' | e => Q e s') s
  | .scope c, Q, s => xcode P X H c (fun e s' => match e with | .goto _ => False | e => Q e s') s
  | .exit id, Q, s => Q (.exit id) s
  | .ret, Q, s => Q .ret s
  | .skip, Q, s => Q .normal s
  | _, _, _ => False
theorem xcode_sound {D : List Ap → Array Oper → Bool} {X : Hints} {H : XHints} (hD : DOK P D) : ∀ (c : Code) (QA : Exit → St → Prop) (Q : Exit → Act → World → Prop) (s : St) (a : Act) (w : World), (dstOK N c && draws D X c) = true →
    (∀ e s' a' w', QA e s' → Rep N w0 C0 E s' a' w' → Q e a' w') → xcode P X H c QA s → Rep N w0 C0 E s a w → c.wp P Q a w := by
  intro c
  induction c with
  | skip => intro QA Q s a w _ hQ h hr; exact wp_skip (hQ _ _ _ _ h hr)
  | region id ops draw =>
    intro QA Q s a w hN hQ h hr
    simp only [xcode] at h
    split at h
    · exact acode_sound hD _ _ _ _ _ _ hN hQ h hr
    · obtain ⟨rfl, h⟩ := h
      simp only [dstOK, draws, Bool.and_eq_true] at hN
      have hN' : ∀ o ∈ ops.toList, ∀ d, o.dst = some d → d < N := by
        intro o ho d hd
        have hN := hN.1
        simp only [Array.all_eq_true] at hN
        obtain ⟨i, hi, rfl⟩ := List.mem_iff_getElem.1 ho
        have := hN i (by simpa using hi)
        simp only [Array.getElem_toList] at hd
        rw [hd] at this
        simpa using this
      exact wp_region_list (xops_sound (fun s' a' w' hk hr => hQ _ _ _ _ hk hr) _ _ _ a w hN' h hr)
  | seq x y ihx ihy =>
    intro QA Q s a w hN hQ h hr
    simp only [dstOK, draws, Bool.and_eq_true] at hN
    simp only [xcode] at h
    refine wp_seq (ihx _ _ s a w (by simp [hN]) ?_ h hr)
    intro e s' a' w' hq hr'
    cases e with
    | normal => exact ihy _ _ _ _ _ (by simp [hN]) hQ hq hr'
    | _ => exact hQ _ _ _ _ hq hr'
  | cond c x y ihx ihy =>
    intro QA Q s a w hN hQ h hr
    simp only [dstOK, draws, Bool.and_eq_true] at hN
    simp only [xcode] at h
    obtain ⟨C, ρ, τ, hr'⟩ := id hr
    have hc := opnd (P := P) hr' 0 c
    split at h
    · rename_i b hb
      rw [hb] at hc
      have hv := (rv_v hc).1
      cases b with
      | true => exact wp_cond_true hv (ihx _ _ _ _ _ (by simp [hN]) hQ (h.1 rfl) hr)
      | false => exact wp_cond_false hv (ihy _ _ _ _ _ (by simp [hN]) hQ (h.2 rfl) hr)
    · exact h.elim
  | block id c ih =>
    intro QA Q s a w hN hQ h hr
    simp only [xcode] at h
    refine wp_block (ih _ _ s a w hN ?_ h hr)
    intro e s' a' w' hq hr'
    cases e with
    | exit id' =>
      simp only [Exit.inBlock]
      simp only at hq
      split
      · rename_i hid; rw [if_pos hid] at hq; exact hQ _ _ _ _ hq hr'
      · rename_i hid; rw [if_neg hid] at hq; exact hQ _ _ _ _ hq hr'
    | _ => exact hQ _ _ _ _ hq hr'
  | loop c ih =>
    intro QA Q s a w hN hQ h hr
    simp only [xcode] at h
    obtain ⟨I, ⟨n0, h0⟩, hround⟩ := h
    let R : Nat → Act → World → Prop := fun n a w => ∃ s, I n s ∧ Rep N w0 C0 E s a w
    let μ : Act → World → Nat := fun a w => Classical.epsilon fun n => R n a w ∧ ∀ m, R m a w → n ≤ m
    have least : ∀ a w n, R n a w → R (μ a w) a w ∧ ∀ m, R m a w → μ a w ≤ m := by
      intro a w n hn
      have hex : ∃ n, R n a w ∧ ∀ m, R m a w → n ≤ m := by
        induction n using Nat.strongRecOn with
        | _ n ih2 =>
          by_cases hq : ∃ m, m < n ∧ R m a w
          · obtain ⟨m, hm, hR⟩ := hq
            exact ih2 m hm hR
          · refine ⟨n, hn, fun m hm => ?_⟩
            rcases Nat.lt_or_ge m n with hlt | hge
            · exact absurd ⟨m, hlt, hm⟩ hq
            · exact hge
      exact Classical.epsilon_spec hex
    refine wp_loop (fun a w => ∃ n, R n a w) μ ⟨n0, s, h0, hr⟩ ?_
    rintro a w ⟨n, hn⟩
    obtain ⟨⟨s', hI, hr'⟩, _⟩ := least a w n hn
    refine ih _ _ s' a w hN ?_ (hround _ _ hI) hr'
    intro e s2 a2 w2 hq hr2
    cases e with
    | normal =>
      obtain ⟨m, hm, hI2⟩ := hq
      have hRm : R m a2 w2 := ⟨s2, hI2, hr2⟩
      have := (least a2 w2 m hRm).2 m hRm
      exact ⟨⟨m, hRm⟩, by omega⟩
    | _ => exact hQ _ _ _ _ hq hr2
  | scope c ih =>
    intro QA Q s a w hN hQ h hr
    simp only [xcode] at h
    refine wp_scope_straight (ih _ _ s a w hN ?_ h hr)
    intro e s' a' w' hq hr'
    cases e with
    | goto l => exact hq
    | _ => exact hQ _ _ _ _ hq hr'
  | exit id => intro QA Q s a w _ hQ h hr; exact wp_exit (hQ _ _ _ _ h hr)
  | ret => intro QA Q s a w _ hQ h hr; exact wp_ret (hQ _ _ _ _ h hr)
  | rangeFunc f ps x y _ _ => intro QA Q s a w hN; simp [dstOK] at hN
  | label l => intro QA Q s a w hN; simp [dstOK] at hN
  | goto l => intro QA Q s a w hN; simp [dstOK] at hN
  | refuse y => intro QA Q s a w hN; simp [dstOK] at hN
end Go.Sy
