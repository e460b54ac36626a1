/- Operations that make or write memory. -/
import Derived.Test.YtkhheblmgbiniaaA6
namespace Go.Sy
open Go Go.RowKit

variable {N : Nat} {w0 : World} {C0 : CMap} {E : EX} {s : St} {a : Act} {w : World} {C : CMap} {ρ : RMap} {τ : TMap} {P : Program} {o : Oper} {e : Eff}

/-- A new block, by itself. -/
theorem below_new (w : World) (x : Obj) : Below w.heap.size w (w.alloc x) := (Below.refl _ w).alloc (Nat.le_refl _) x

theorem newC (h : RepG N w0 C0 E s a w C ρ τ) (o : Nat) : C w.heap.size o = none := by
  cases hc : C w.heap.size o with
  | none => rfl
  | some v => have := cell_lt (h.cw _ _ _ hc).1; omega
theorem newB (h : RepG N w0 C0 E s a w C ρ τ) (k : Key) (B : Box) (hB : s.b k = some B) : ρ k ≠ some w.heap.size := by
  obtain ⟨b, hρ, ⟨⟨cs, ty, g1, _⟩, _⟩, _⟩ := h.bx k B hB
  intro e
  rw [hρ] at e
  cases e
  have := heap_lt g1
  omega
theorem newT (h : RepG N w0 C0 E s a w C ρ τ) (k : Key) (v : Value) (n : Nat) (hk : τ k = some (v, n)) (hd : s.d k = false) : blk v ≠ some w.heap.size := by
  obtain ⟨A, n', c, rfl, h1⟩ := h.tk k v n hk hd
  intro e
  obtain ⟨hc, ad, rfl, hb⟩ := blk_cap e
  rcases h1 with h1 | ⟨b, cs, ty, hA, g2, _⟩
  · exact hc h1
  · cases hA
    have := heap_lt g2
    simp only at hb
    omega

/-- A block of the call's own that a box takes. -/
theorem RepG.alloc (h : RepG N w0 C0 E s a w C ρ τ) (d g : Nat) (hg : g = s.g d) {cs : Array Value} {ty : TypeId} (l : List AV) (hl : cs.size = l.length)
    (h1 : ∀ (i : Nat) (v : Value), cs[i]? = some v → v.oneCell' = true) (hv : ∀ (i : Nat) (v : Value) (x : AV), cs[i]? = some v → l[i]? = some x → RV C ρ τ v x) :
    RepG N w0 C0 E { s with b := upd s.b (d, g, 0) (some ⟨l, false⟩), g := upd s.g d (g + 1) } a (w.alloc (.cells cs ty)) C (upd ρ (d, g, 0) (some w.heap.size)) τ := by
  subst hg
  have hg := h.same (below_new w (.cells cs ty))
  exact hg.addbox (d, s.g d, 0) (Nat.le_refl _) (b := w.heap.size) l (heap_alloc_new w _) hl h1 hv (fun o => newC h o) h.fr.size (fun k B hB => newB h k B hB) (fun k v n hk hd => newT h k v n hk hd)

theorem app_box (s : St) (d : Nat) (k : Key) (off : Nat) (l : List AV) : s.app (some d) { v := .box k off, nb := some l } =
    St.set { s with b := upd s.b (d, s.g d, 0) (some ⟨l, false⟩), g := upd s.g d (s.g d + 1) } d (.box k off) := by
  simp [St.app, St.set, sto, crt_zero]

/-- What a new box ends in. -/
theorem done_box {l : List AV} {cs : Array Value} {ty : TypeId} (h : RepG N w0 C0 E s a w C ρ τ) (hN : ∀ d, o.dst = some d → d < N)
    (hr : (execOp a.eval o).run P w = .ok (.value (.pointer (some ⟨w.heap.size, 0, none⟩))) (w.alloc (.cells cs ty))) (hl : cs.size = l.length)
    (h1 : ∀ (i : Nat) (v : Value), cs[i]? = some v → v.oneCell' = true) (hv : ∀ (i : Nat) (v : Value) (x : AV), cs[i]? = some v → l[i]? = some x → RV C ρ τ v x) :
    Done N w0 C0 E P o a w (s.app o.dst { v := .box (o.dst.getD 0, s.g (o.dst.getD 0), 0) 0, nb := some l }) := by
  cases hd : o.dst with
  | none =>
    refine ⟨_, _, .inl hr, C, ρ, τ, ?_⟩
    rw [hd]
    simp only [St.app, sto]
    exact h.same (below_new w _)
  | some d =>
    refine ⟨_, _, .inl hr, C, upd ρ (d, s.g d, 0) (some w.heap.size), τ, ?_⟩
    rw [hd]
    simp only [Option.getD_some]
    rw [app_box]
    exact (h.alloc d (s.g d) rfl l hl h1 hv).set d (hN d hd) (.box _ _ _ (by simp [upd]))

theorem app_nb (s : St) (d : Nat) (x : AV) (l : List AV) : s.app (some d) { v := x, nb := some l } =
    St.set { s with b := upd s.b (d, s.g d, 0) (some ⟨l, false⟩), g := upd s.g d (s.g d + 1) } d x := by
  simp [St.app, St.set, sto, crt_zero]

theorem done_nb {l : List AV} {cs : Array Value} {ty : TypeId} {v : Value} {x : AV} (h : RepG N w0 C0 E s a w C ρ τ) (hN : ∀ d, o.dst = some d → d < N)
    (hr : (execOp a.eval o).run P w = .ok (.value v) (w.alloc (.cells cs ty))) (hl : cs.size = l.length)
    (h1 : ∀ (i : Nat) (v : Value), cs[i]? = some v → v.oneCell' = true) (hv : ∀ (i : Nat) (v : Value) (x : AV), cs[i]? = some v → l[i]? = some x → RV C ρ τ v x)
    (hx : ∀ ρ' : RMap, ρ' (o.dst.getD 0, s.g (o.dst.getD 0), 0) = some w.heap.size → RV C ρ' τ v x) :
    Done N w0 C0 E P o a w (s.app o.dst { v := x, nb := some l }) := by
  cases hd : o.dst with
  | none =>
    refine ⟨_, _, .inl hr, C, ρ, τ, ?_⟩
    rw [hd]
    simp only [St.app, sto]
    exact h.same (below_new w _)
  | some d =>
    rw [hd] at hx
    refine ⟨_, _, .inl hr, C, upd ρ (d, s.g d, 0) (some w.heap.size), τ, ?_⟩
    rw [hd, app_nb]
    exact (h.alloc d (s.g d) rfl l hl h1 hv).set d (hN d hd) (hx _ (by simp [upd]))

theorem zav_elim {t : TypeId} {l : List AV} (h : zav P t = some l) : ∃ i z, P.info? t = some i ∧ i.zero = some z ∧ z.cells.size = l.length ∧
    (∀ (i : Nat) (v : Value), z.cells[i]? = some v → v.oneCell' = true) ∧ (∀ (C : CMap) (ρ : RMap) (τ : TMap) (i : Nat) (v : Value) (x : AV), z.cells[i]? = some v → l[i]? = some x → RV C ρ τ v x) := by
  unfold zav zvals at h
  obtain ⟨vs, hvs, rfl⟩ := Option.map_eq_some_iff.1 h
  cases hi : P.info? t with
  | none => rw [hi] at hvs; simp at hvs
  | some i =>
    rw [hi] at hvs
    cases hz : i.zero with
    | none => simp [hz] at hvs
    | some z =>
      simp [hz] at hvs
      obtain ⟨hall, rfl⟩ := hvs
      refine ⟨i, z, rfl, hz, by simp, fun j v hv => ?_, fun C ρ τ j v x hv hx => ?_⟩
      · obtain ⟨hj, rfl⟩ := Array.getElem?_eq_some_iff.1 hv
        exact hall _ hj
      · simp [List.getElem?_mapIdx] at hx
        obtain ⟨u, hu, rfl⟩ := hx
        rw [hv] at hu
        cases hu
        exact cst_rv _ _

theorem ev_alloc {t : TypeId} (h : RepG N w0 C0 E s a w C ρ τ) (hN : ∀ d, o.dst = some d → d < N) (ho : o.op = .alloc t) (he : ev P s o = some e) : Done N w0 C0 E P o a w (s.app o.dst e) := by
  simp only [ev, ho] at he
  obtain ⟨l, hl, rfl⟩ := Option.map_eq_some_iff.1 he
  obtain ⟨i, z, hi, hz, h1, h2, h3⟩ := zav_elim hl
  refine done_box h hN (cs := z.cells) (ty := t) ?_ h1 h2 (h3 C ρ τ)
  simp [execOp, ho, Instr.alloc, zeroValue, typeInfo, hi, hz, newVar, newRow]

theorem ev_box {t : TypeId} {x : Operand} (h : RepG N w0 C0 E s a w C ρ τ) (hN : ∀ d, o.dst = some d → d < N) (ho : o.op = .box t x) (he : ev P s o = some e) : Done N w0 C0 E P o a w (s.app o.dst e) := by
  simp only [ev, ho] at he
  obtain ⟨l, hl, rfl⟩ := Option.map_eq_some_iff.1 he
  obtain ⟨h1, h2, h3⟩ := cells_rv (opnd (P := P) h t x) hl
  refine done_box h hN (cs := (a.eval x).cells) (ty := t) ?_ h1 h3 h2
  simp [execOp, ho, Instr.box, newVar, newRow]

/-! ### Stores -/
theorem splice_at {α : Type} (l c : List α) (off i : Nat) (h : off + c.length ≤ l.length) : (l.take off ++ c ++ l.drop (off + c.length))[i]? = if off ≤ i ∧ i < off + c.length then c[i - off]? else l[i]? := by
  by_cases h1 : i < off
  · rw [if_neg (by omega), List.append_assoc, List.getElem?_append_left (by simp; omega), List.getElem?_take, if_pos h1]
  · by_cases h2 : i < off + c.length
    · rw [if_pos (by omega), List.getElem?_append_left (by simp; omega), List.getElem?_append_right (by simp; omega)]
      congr 1
      simp; omega
    · rw [if_neg (by omega), List.getElem?_append_right (by simp; omega), List.getElem?_drop]
      congr 1
      simp; omega

theorem ev_store {t : TypeId} {x y : Operand} (h : RepG N w0 C0 E s a w C ρ τ) (hN : ∀ d, o.dst = some d → d < N) (ho : o.op = .store t x y) (he : ev P s o = some e) : Done N w0 C0 E P o a w (s.app o.dst e) := by
  simp only [ev, ho] at he
  split at he
  case h_2 => cases he
  rename_i k off c hk hc
  split at he
  case h_2 => cases he
  rename_i l hB
  split at he
  case isFalse => cases he
  rename_i hcond
  obtain ⟨hok, hlen, hoff⟩ := hcond
  cases he
  have c1 := opnd (P := P) h 0 x
  rw [hk] at c1
  obtain ⟨b, hx, hρ⟩ := rv_box c1
  obtain ⟨g1, g2, g3⟩ := cells_rv (opnd (P := P) h t y) hc
  obtain ⟨cs, ty, f1, f2, f3, f4⟩ := box_cells h hB hρ
  simp only at f2 f4
  have hst := run_storeCells_at P b off ty (a.eval y).cells.toList 0 cs w f1 (by simp; omega) (fun v hv => by
    obtain ⟨i, hi, rfl⟩ := List.mem_iff_getElem.1 hv
    exact g3 i _ (by simp at hi; simp))
  have hrun : (execOp a.eval o).run P w = .ok .skip (w.setRow b (cs.toList.take (off + 0) ++ (a.eval y).cells.toList ++ cs.toList.drop (off + 0 + (a.eval y).cells.toList.length)).toArray) := by
    have hz := run_size (P := P) (t := t) hok w
    have e1 : (a.eval y).cells.size = P.cellsOf t := by omega
    simp [execOp, ho, hx, Instr.storeAt, Instr.sureAddr, storeVar, hz, e1] at hst ⊢
    rw [hst]
    simp
  have key : RepG N w0 C0 E { s with b := upd s.b k (some ⟨l.take off ++ c ++ l.drop (off + c.length), false⟩) } a
      (w.setRow b (cs.toList.take (off + 0) ++ (a.eval y).cells.toList ++ cs.toList.drop (off + 0 + (a.eval y).cells.toList.length)).toArray) C ρ τ := by
    refine h.store hB hρ f1 ?_ ?_ ?_
    · simp only [List.size_toArray, List.length_append, List.length_take, List.length_drop, Array.length_toList]
      omega
    · intro i v hv
      simp only [List.getElem?_toArray, Nat.add_zero] at hv
      rw [splice_at _ _ _ _ (by simp; omega)] at hv
      split at hv
      · exact g3 _ _ (by simpa using hv)
      · exact f3 _ _ (by simpa using hv)
    · intro i v z hv hz
      simp only [List.getElem?_toArray, Nat.add_zero] at hv
      rw [splice_at _ _ _ _ (by simp; omega)] at hv
      rw [splice_at _ _ _ _ hoff] at hz
      simp only [Array.length_toList, g1] at hv
      split at hv
      · rename_i hcond
        rw [if_pos hcond] at hz
        exact g2 _ _ _ (by simpa using hv) hz
      · rename_i hcond
        rw [if_neg hcond] at hz
        exact f4 _ _ _ (by simpa using hv) hz
  refine ⟨undef, _, .inr ⟨hrun, rfl⟩, C, ρ, τ, ?_⟩
  cases hd : o.dst with
  | none => simpa [St.app, sto, Act.put] using key
  | some d =>
    have := key.set d (hN d hd) (.any undef)
    simpa [St.app, sto, crt_zero, St.set] using this

end Go.Sy
