/- Structs and slices put together; append. -/
import Derived.Test.YtkhheblmgbiniaaA7
namespace Go.Sy
open Go Go.RowKit

variable {N : Nat} {w0 : World} {C0 : CMap} {E : EX} {s : St} {a : Act} {w : World} {C : CMap} {ρ : RMap} {τ : TMap} {P : Program} {o : Oper} {e : Eff}

theorem fold_set_list (off : Nat) : ∀ (v : List Value) (k : Nat) (cells : Array Value), (((v.zipIdx k).foldl (fun cs (x : Value × Nat) => cs.setIfInBounds (off + x.2) x.1) cells).size = cells.size) ∧
    ∀ i, ((v.zipIdx k).foldl (fun cs (x : Value × Nat) => cs.setIfInBounds (off + x.2) x.1) cells)[i]? = if off + k ≤ i ∧ i < off + k + v.length ∧ i < cells.size then v[i - (off + k)]? else cells[i]?
  | [], k, cells => ⟨rfl, fun i => by
      rw [if_neg (by simp only [List.length_nil]; omega)]
      rfl⟩
  | x :: v, k, cells => by
    obtain ⟨h1, h2⟩ := fold_set_list off v (k + 1) (cells.setIfInBounds (off + k) x)
    simp only [List.zipIdx_cons, List.foldl_cons]
    refine ⟨by rw [h1]; simp, fun i => ?_⟩
    rw [h2]
    simp only [Array.size_setIfInBounds, Array.getElem?_setIfInBounds, List.length_cons]
    by_cases c0 : off + k = i
    · subst c0
      rw [if_neg (by omega)]
      by_cases c1 : off + k < cells.size
      · rw [if_pos rfl, if_pos c1, if_pos (by omega)]
        simp
      · rw [if_pos rfl, if_neg c1, if_neg (by omega)]
        simp; omega
    · rw [if_neg c0]
      by_cases c1 : off + (k + 1) ≤ i ∧ i < off + (k + 1) + v.length ∧ i < cells.size
      · rw [if_pos c1, if_pos (by omega)]
        rw [show i - (off + k) = (i - (off + (k + 1))) + 1 by omega]
        simp
      · rw [if_neg c1, if_neg (by omega)]

theorem fold_set (v : Array Value) (off : Nat) (cells : Array Value) : ((v.zipIdx.foldl (fun cs (c, j) => cs.setIfInBounds (off + j) c) cells).size = cells.size) ∧
    ∀ i, (v.zipIdx.foldl (fun cs (c, j) => cs.setIfInBounds (off + j) c) cells)[i]? = if off ≤ i ∧ i < off + v.size ∧ i < cells.size then v[i - off]? else cells[i]? := by
  have h := fold_set_list off v.toList 0 cells
  have e : v.zipIdx.foldl (fun cs (c, j) => cs.setIfInBounds (off + j) c) cells = (v.toList.zipIdx 0).foldl (fun cs (x : Value × Nat) => cs.setIfInBounds (off + x.2) x.1) cells := by
    rw [← Array.foldl_toList, Array.toList_zipIdx]
  rw [e]
  refine ⟨h.1, fun i => ?_⟩
  rw [h.2 i]
  simp

/-- Cells that bear abstract values. -/
def CV (C : CMap) (ρ : RMap) (τ : TMap) (cs : Array Value) (l : List AV) : Prop :=
  cs.size = l.length ∧ (∀ (i : Nat) (v : Value), cs[i]? = some v → v.oneCell' = true) ∧ (∀ (i : Nat) (v : Value) (x : AV), cs[i]? = some v → l[i]? = some x → RV C ρ τ v x)

theorem fill_cv {pl : Nat → Option (Nat × Nat)} : ∀ (ps : List (Nat × Value)) (qs : List (Nat × AV)) (cs : Array Value) (l l' : List AV), ps.length = qs.length →
    (∀ (i : Nat) (p : Nat × Value) (q : Nat × AV), ps[i]? = some p → qs[i]? = some q → p.1 = q.1 ∧ RV C ρ τ p.2 q.2) → CV C ρ τ cs l → fillAV pl l qs = some l' →
    ∃ cs', Instr.fill pl cs ps = some cs' ∧ CV C ρ τ cs' l'
  | [], [], cs, l, l', _, _, h, he => by
    simp only [fillAV, Option.some.injEq] at he
    subst he
    exact ⟨cs, rfl, h⟩
  | [], _ :: _, _, _, _, hl, _, _, _ => by simp at hl
  | _ :: _, [], _, _, _, hl, _, _, _ => by simp at hl
  | (i, v) :: ps, (j, x) :: qs, cs, l, l', hl, hpq, ⟨h1, h2, h3⟩, he => by
    obtain ⟨e1, e2⟩ := hpq 0 (i, v) (j, x) rfl rfl
    simp only at e1 e2
    subst e1
    unfold fillAV at he
    split at he
    case h_2 => cases he
    rename_i off n c hpl hc
    split at he
    case isFalse => cases he
    rename_i hcond
    obtain ⟨hcl, hoff⟩ := hcond
    obtain ⟨g1, g2, g3⟩ := cells_rv e2 hc
    obtain ⟨f1, f2⟩ := fold_set v.cells off cs
    have hsz : v.cells.size = n := by omega
    have hle : ¬ (cs.size < off + n) := by omega
    have ih := fill_cv (pl := pl) ps qs (v.cells.zipIdx.foldl (fun cs (c, j) => cs.setIfInBounds (off + j) c) cs) (l.take off ++ c ++ l.drop (off + n)) l' (by simpa using hl)
      (fun i p q hp hq => hpq (i + 1) p q (by simpa using hp) (by simpa using hq)) ?_ he
    · obtain ⟨cs', q1, q2⟩ := ih
      refine ⟨cs', ?_, q2⟩
      simp only [Instr.fill, hpl, hsz, ne_eq, not_true_eq_false, decide_false, Bool.false_or, gt_iff_lt, hle, Bool.false_eq_true, if_false]
      exact q1
    · refine ⟨?_, ?_, ?_⟩
      · rw [f1]
        simp
        omega
      · intro k u hu
        rw [f2] at hu
        split at hu
        · exact g3 _ _ hu
        · exact h2 _ _ hu
      · intro k u y hu hy
        rw [f2] at hu
        rw [show off + n = off + c.length by omega, splice_at _ _ _ _ (by omega)] at hy
        split at hu
        · rename_i hk
          rw [if_pos (by omega)] at hy
          exact g2 _ _ _ hu hy
        · rename_i hk
          by_cases hk2 : off ≤ k ∧ k < off + c.length
          · omega
          · rw [if_neg hk2] at hy
            exact h3 _ _ _ hu hy

theorem parts_rv (h : RepG N w0 C0 E s a w C ρ τ) (ty : Nat → TypeId) (ps : List (Nat × Operand)) (i : Nat) (p : Nat × Value) (q : Nat × AV)
    (hp : (ps.map fun p => (p.1, a.eval p.2))[i]? = some p) (hq : (ps.map fun p => (p.1, s.o P (ty p.1) p.2))[i]? = some q) : p.1 = q.1 ∧ RV C ρ τ p.2 q.2 := by
  simp only [List.getElem?_map] at hp hq
  obtain ⟨r, hr, rfl⟩ := Option.map_eq_some_iff.1 hp
  rw [hr] at hq
  simp at hq
  subst hq
  exact ⟨rfl, opnd h _ _⟩

theorem ev_build {t : TypeId} {ps : Array (Nat × Operand)} (h : RepG N w0 C0 E s a w C ρ τ) (hN : ∀ d, o.dst = some d → d < N) (ho : o.op = .build t ps) (he : ev P s o = some e) : Done N w0 C0 E P o a w (s.app o.dst e) := by
  simp only [ev, ho] at he
  split at he
  case h_2 => cases he
  rename_i pl z hpl hz
  obtain ⟨l, hl, rfl⟩ := Option.map_eq_some_iff.1 he
  obtain ⟨i, zv, hi, hzv, z1, z2, z3⟩ := zav_elim hz
  obtain ⟨cs, f1, f2⟩ := fill_cv (C := C) (ρ := ρ) (τ := τ) (ps.toList.map fun p => (p.1, a.eval p.2)) _ zv.cells z l (by simp) (fun i p q hp hq => parts_rv h (ptype P t) ps.toList i p q hp hq) ⟨z1, z2, z3 C ρ τ⟩ hl
  have hb : P.built t (ps.map fun (i, x) => (i, a.eval x)).toList = some cs := by
    unfold places at hpl
    split at hpl
    case h_2 => cases hpl
    rename_i fs hu
    have e1 : (ps.map fun (i, x) => (i, a.eval x)).toList = ps.toList.map fun p => (p.1, a.eval p.2) := by simp
    rw [e1]
    unfold Program.built
    rw [hi, hu]
    simp only [hzv, hpl]
    exact f1
  refine done_val h hN (v := .agg cs) ?_ (.agg _ _ f2.1 f2.2.2 f2.2.1)
  simp [execOp, ho, run_build w t _ cs hb]

end Go.Sy
