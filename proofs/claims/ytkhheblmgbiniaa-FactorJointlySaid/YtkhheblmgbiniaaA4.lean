/- Each operation does to the machine what 'ev' says it does to abstract values: helpers. -/
import Derived.Test.YtkhheblmgbiniaaA3
namespace Go.Sy
open Go Go.RowKit

variable {N : Nat} {w0 : World} {C0 : CMap} {E : EX} {s : St} {a : Act} {w : World} {C : CMap} {ρ : RMap} {τ : TMap} {P : Program}

def Done (N : Nat) (w0 : World) (C0 : CMap) (E : EX) (P : Program) (o : Oper) (a : Act) (w : World) (s' : St) : Prop :=
  ∃ v w', ((execOp a.eval o).run P w = .ok (.value v) w' ∨ ((execOp a.eval o).run P w = .ok .skip w' ∧ v = undef)) ∧ Rep N w0 C0 E s' (a.put o.dst v) w'

theorem crt_zero (d g : Nat) (f : Key → Bool) : crt d g 0 f = f := by funext k; simp [crt]

theorem app_val (s : St) (d : Option Nat) (x : AV) : s.app d { v := x } = (match d with | none => s | some d => s.set d x) := by
  cases d <;> simp [St.app, St.set, sto, crt_zero]

theorem done_val {o : Oper} {v : Value} {x : AV} (h : RepG N w0 C0 E s a w C ρ τ) (hN : ∀ d, o.dst = some d → d < N) (hr : (execOp a.eval o).run P w = .ok (.value v) w)
    (hv : RV C ρ τ v x) : Done N w0 C0 E P o a w (s.app o.dst { v := x }) := by
  refine ⟨v, w, .inl hr, C, ρ, τ, ?_⟩
  rw [app_val]
  cases hd : o.dst with
  | none => exact h
  | some d => exact h.set d (hN d hd) hv

theorem cst_rv (t : TypeId) (v : Value) : RV C ρ τ v (cst P t v) := by
  unfold cst
  split
  · exact .list _ _ _ none 0 0 (fun _ _ => undef) rfl (Nat.le_refl _) (by simp [maxLen]) (fun i x hx => by simp at hx) (fun i x j a hx => by simp at hx) ⟨none, rfl⟩
  · split
    · rename_i fs cs hc
      simp only [Bool.and_eq_true, Array.isEmpty_iff] at hc
      obtain ⟨rfl, rfl⟩ := hc
      exact .clo _ _ _ rfl (fun i v a hv => by simp at hv)
    · exact .any _
  · split
    · exact .v _ (by assumption)
    · exact .any _

theorem opnd (h : RepG N w0 C0 E s a w C ρ τ) (t : TypeId) (x : Operand) : RV C ρ τ (a.eval x) (s.o P t x) := by
  cases x with
  | tmp x => exact h.tm x
  | const v => exact cst_rv t v
  | func f => exact .clo f #[] [] rfl (fun i v a hv => by simp at hv)
  | global g => exact .any _

theorem rv_v {v u : Value} (h : RV C ρ τ v (.v u)) : v = u ∧ u.oneCell' = true := by cases h; exact ⟨rfl, by assumption⟩

theorem rv_list {v : Value} {sz : Nat} {xs : List (List AV)} {tk : Tok} (h : RV C ρ τ v (.list sz xs tk)) : ∃ (A : Option Addr) (c : Nat) (cv : Nat → Nat → Value), v = .slice A xs.length c ∧ xs.length ≤ c ∧ c ≤ maxLen ∧
    (∀ (i : Nat) (x : List AV), xs[i]? = some x → x.length = sz ∧ ∃ b o, A = some ⟨b, o, none⟩ ∧ ∀ j, j < sz → C b (o + i * sz + j) = some (cv i j)) ∧
    (∀ (i : Nat) (x : List AV) (j : Nat) (y : AV), xs[i]? = some x → x[j]? = some y → RV C noρ noτ (cv i j) y) ∧ TokV τ v sz tk := by
  generalize hy : AV.list sz xs tk = y at h
  cases h <;> cases hy
  rename_i A n c cv hc hm hn hrv hcell htk
  subst hn
  exact ⟨A, c, cv, rfl, hc, hm, hcell, hrv, htk⟩
theorem rv_box {v : Value} {k : Key} {off : Nat} (h : RV C ρ τ v (.box k off)) : ∃ b, v = .pointer (some ⟨b, off, none⟩) ∧ ρ k = some b := by
  cases h; exact ⟨_, rfl, by assumption⟩
theorem rv_ptr {v : Value} {l : List AV} (h : RV C ρ τ v (.ptr l)) : ∃ (b o : Nat) (cv : Nat → Value), v = .pointer (some ⟨b, o, none⟩) ∧ (∀ j, j < l.length → C b (o + j) = some (cv j)) ∧ (∀ (j : Nat) (y : AV), l[j]? = some y → RV C noρ noτ (cv j) y) := by
  cases h; exact ⟨_, _, _, rfl, by assumption, by assumption⟩
theorem rv_sl {v : Value} {k : Key} {n sz : Nat} (h : RV C ρ τ v (.sl k n sz)) : ∃ b c, v = .slice (some ⟨b, 0, none⟩) n c ∧ ρ k = some b ∧ n ≤ c ∧ c ≤ maxLen := by
  cases h; exact ⟨_, _, rfl, by assumption, by assumption, by assumption⟩
theorem rv_agg {v : Value} {l : List AV} (h : RV C ρ τ v (.agg l)) : ∃ cs, v = .agg cs ∧ cs.size = l.length ∧ (∀ (i : Nat) (u : Value) (y : AV), cs[i]? = some u → l[i]? = some y → RV C ρ τ u y) ∧ (∀ (i : Nat) (u : Value), cs[i]? = some u → u.oneCell' = true) := by
  cases h; exact ⟨_, rfl, by assumption, by assumption, by assumption⟩

def atom : AV → Bool
  | .agg _ | .tup _ | .any => false
  | _ => true
theorem oneCell_atom {v : Value} {x : AV} (h : RV C ρ τ v x) (hx : atom x = true) : v.oneCell' = true := by
  cases h <;> first | (simp [atom] at hx; done) | assumption | rfl

theorem cells_one {v : Value} (h : v.oneCell' = true) : v.cells = #[v] := by cases v <;> first | rfl | simp [Value.oneCell'] at h

theorem cells_rv {v : Value} {x : AV} {l : List AV} (h : RV C ρ τ v x) (hc : cells? x = some l) :
    v.cells.size = l.length ∧ (∀ (i : Nat) (u : Value) (y : AV), v.cells[i]? = some u → l[i]? = some y → RV C ρ τ u y) ∧ (∀ (i : Nat) (u : Value), v.cells[i]? = some u → u.oneCell' = true) := by
  have one : atom x = true → l = [x] → v.cells.size = l.length ∧ (∀ (i : Nat) (u : Value) (y : AV), v.cells[i]? = some u → l[i]? = some y → RV C ρ τ u y) ∧ (∀ (i : Nat) (u : Value), v.cells[i]? = some u → u.oneCell' = true) := by
    intro hx hl
    have h1 := oneCell_atom h hx
    subst hl
    rw [cells_one h1]
    refine ⟨by simp, fun i u y hu hy => ?_, fun i u hu => ?_⟩
    · cases i with
      | zero => simp at hu hy; subst hu hy; exact h
      | succ i => simp at hu
    · cases i with
      | zero => simp at hu; subst hu; exact h1
      | succ i => simp at hu
  cases x with
  | any => simp [cells?] at hc
  | tup l => simp [cells?] at hc
  | agg l' =>
    simp only [cells?, Option.some.injEq] at hc
    subst hc
    cases h with
    | agg cs l hl h h1 => exact ⟨hl, h, h1⟩
  | v u => exact one rfl (by simpa [cells?] using hc.symm)
  | list sz xs tk => exact one rfl (by simpa [cells?] using hc.symm)
  | box k off => exact one rfl (by simpa [cells?] using hc.symm)
  | ptr l => exact one rfl (by simpa [cells?] using hc.symm)
  | sl k n sz => exact one rfl (by simpa [cells?] using hc.symm)
  | clo f l => exact one rfl (by simpa [cells?] using hc.symm)

theorem fgt_rv {v : Value} {x : AV} (h : RV C ρ τ v x) : RV C ρ τ v (fgt x) := by
  cases h with
  | list sz xs tk A n c cv hn hc hm hcell hrv htk => exact .list sz xs .no A n c cv hn hc hm hcell hrv trivial
  | any v => exact .any v
  | v v h => exact .v v h
  | agg cs l hl h h1 => exact .agg cs l hl h h1
  | tup cs l hl h => exact .tup cs l hl h
  | box k b off h => exact .box k b off h
  | ptr b o l cv h hr => exact .ptr b o l cv h hr
  | sl k b n c sz h hc hm => exact .sl k b n c sz h hc hm
  | clo f cs l hl h => exact .clo f cs l hl h

theorem clean_rv {v : Value} {x : AV} (h : RV C ρ τ v x) (hc : clean x = true) : RV C noρ noτ v x := by
  cases h with
  | list sz xs tk A n c cv hn hc' hm hcell hrv htk =>
    cases tk with
    | no => exact .list sz xs .no A n c cv hn hc' hm hcell hrv trivial
    | nil => simp [clean] at hc
    | own k => simp [clean] at hc
  | any v => simp [clean] at hc
  | v v h => exact .v v h
  | agg cs l hl h h1 => simp [clean] at hc
  | tup cs l hl h => simp [clean] at hc
  | box k b off h => simp [clean] at hc
  | ptr b o l cv h hr => exact .ptr b o l cv h hr
  | sl k b n c sz h hc' hm => simp [clean] at hc
  | clo f cs l hl h => exact .clo f cs l hl h

theorem info_of_underlying {t : TypeId} {d : TypeDesc} (h : P.underlying t = some d) : ∃ i, P.info? t = some i := by
  unfold Program.underlying at h
  cases e : P.info? t with
  | none => rw [e] at h; cases h
  | some i => exact ⟨i, rfl⟩

theorem run_size {t : TypeId} (h : (P.info? t).isSome) (w : World) : (sizeOf t).run P w = .ok (P.cellsOf t) w := by
  obtain ⟨i, hi⟩ := Option.isSome_iff_exists.1 h
  simp [sizeOf, typeInfo, hi, Program.cellsOf]

/-! ### Loads -/
theorem run_load_of {t : TypeId} {b o : Nat} {l : List AV} {v : AV} (f : Nat → Value) (hrd : rdAV P t l = some v) (hc : ∀ j, j < l.length → w.cell? ⟨b, o + j, none⟩ = some (f j))
    (hv : ∀ (j : Nat) (x : AV), l[j]? = some x → RV C ρ τ (f j) x) (h1 : ∀ j, j < l.length → (f j).oneCell' = true) :
    ∃ u, (loadVar t ⟨b, o, none⟩).run P w = .ok u w ∧ RV C ρ τ u v := by
  unfold rdAV aggT at hrd
  cases hu : P.underlying t with
  | none => rw [hu] at hrd; simp at hrd
  | some d =>
    rw [hu] at hrd
    have hi := info_of_underlying hu
    have hs := run_size (P := P) (t := t) (by obtain ⟨i, hi⟩ := hi; simp [hi]) w
    have agg : (match d with | .struct _ | .array _ _ => true | _ => false) = true → (if P.cellsOf t ≤ l.length then some (AV.agg (l.take (P.cellsOf t))) else none) = some v →
        ∃ u, (loadVar t ⟨b, o, none⟩).run P w = .ok u w ∧ RV C ρ τ u v := by
      intro hd hv'
      split at hv'
      case isFalse => cases hv'
      case isTrue hle =>
        cases hv'
        have hl := run_loadCells (P := P) w ⟨b, o, none⟩ (P.cellsOf t) f (fun j hj => by rw [Addr.add_lit]; exact hc j (by omega))
        refine ⟨.agg ((List.range (P.cellsOf t)).map f).toArray, ?_, .agg _ _ (by simp; omega) ?_ ?_⟩
        · have hag : (isAgg t).run P w = .ok true w := by
            cases d <;> simp at hd <;> simp [isAgg, run_underlying hu]
          simp [loadVar, hag, hs, hl]
        · intro i u x hu' hx
          have hx' : l[i]? = some x := by
            rw [List.getElem?_take] at hx
            split at hx
            · exact hx
            · cases hx
          have hi' : i < P.cellsOf t := by
            rw [List.getElem?_take] at hx
            split at hx
            · assumption
            · cases hx
          simp [hi'] at hu'
          subst hu'
          exact hv i x hx'
        · intro i u hu'
          by_cases hi' : i < P.cellsOf t
          · simp [hi'] at hu'
            subst hu'
            exact h1 _ (by omega)
          · simp [hi'] at hu'
    have one : (match d with | .struct _ | .array _ _ => true | _ => false) = false → l.head? = some v → ∃ u, (loadVar t ⟨b, o, none⟩).run P w = .ok u w ∧ RV C ρ τ u v := by
      intro hd hh
      have h0 : l[0]? = some v := by rw [← List.head?_eq_getElem?]; exact hh
      have hlt : 0 < l.length := by cases l <;> simp at hh ⊢
      have hag : (isAgg t).run P w = .ok false w := by
        cases d <;> simp at hd <;> simp [isAgg, run_underlying hu]
      have hcell := hc 0 hlt
      simp only [Nat.add_zero] at hcell
      exact ⟨f 0, by simp [loadVar, hag, run_load, hcell], hv 0 v h0⟩
    cases d <;> first | exact agg rfl (by simpa using hrd) | exact one rfl (by simpa using hrd)

theorem box_cells {k : Key} {B : Box} (h : RepG N w0 C0 E s a w C ρ τ) (hB : s.b k = some B) {b : Nat} (hρ : ρ k = some b) :
    ∃ cs ty, w.heap[b]? = some (.cells cs ty (0, 0)) ∧ cs.size = B.c.length ∧ (∀ (i : Nat) (v : Value), cs[i]? = some v → v.oneCell' = true) ∧
      (∀ (i : Nat) (v : Value) (x : AV), cs[i]? = some v → B.c[i]? = some x → RV C ρ τ v x) := by
  obtain ⟨b', hρ', ⟨⟨cs, ty, h1, h2, h3, h4, _⟩, _⟩, _⟩ := h.bx k B hB
  rw [hρ] at hρ'
  cases hρ'
  exact ⟨cs, ty, h1, h2, h3, h4⟩

end Go.Sy
