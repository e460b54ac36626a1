/- Operations that only make a value. -/
import Derived.Test.YtkhheblmgbiniaaA4
namespace Go.Sy
open Go Go.RowKit

variable {N : Nat} {w0 : World} {C0 : CMap} {E : EX} {s : St} {a : Act} {w : World} {C : CMap} {ρ : RMap} {τ : TMap} {P : Program} {o : Oper} {e : Eff}

theorem ev_move {x : Operand} (h : RepG N w0 C0 E s a w C ρ τ) (hN : ∀ d, o.dst = some d → d < N) (ho : o.op = .move x) (he : ev P s o = some e) : Done N w0 C0 E P o a w (s.app o.dst e) := by
  simp only [ev, ho, Option.some.injEq] at he
  subst he
  exact done_val h hN (by simp [execOp, ho]) (opnd h _ _)

theorem ev_assign {x : Operand} (h : RepG N w0 C0 E s a w C ρ τ) (hN : ∀ d, o.dst = some d → d < N) (ho : o.op = .assign x) (he : ev P s o = some e) : Done N w0 C0 E P o a w (s.app o.dst e) := by
  simp only [ev, ho, Option.some.injEq] at he
  subst he
  exact done_val h hN (by simp [execOp, ho]) (opnd h _ _)

theorem ev_pick {c x y : Operand} (h : RepG N w0 C0 E s a w C ρ τ) (hN : ∀ d, o.dst = some d → d < N) (ho : o.op = .pick c x y) (he : ev P s o = some e) : Done N w0 C0 E P o a w (s.app o.dst e) := by
  simp only [ev, ho] at he
  have hc := opnd (P := P) h 0 c
  split at he
  · rename_i b hb
    cases he
    rw [hb] at hc
    have := (rv_v hc).1
    refine done_val h hN (v := if b = true then a.eval x else a.eval y) (by simp [execOp, ho, this, asBool]) ?_
    split
    · exact opnd h _ _
    · exact opnd h _ _
  · cases he

theorem ev_extract {x : Operand} {i : Nat} (h : RepG N w0 C0 E s a w C ρ τ) (hN : ∀ d, o.dst = some d → d < N) (ho : o.op = .extract x i) (he : ev P s o = some e) : Done N w0 C0 E P o a w (s.app o.dst e) := by
  simp only [ev, ho] at he
  have hc := opnd (P := P) h 0 x
  split at he
  · rename_i l hl
    rw [hl] at hc
    obtain ⟨v, hv, rfl⟩ := Option.map_eq_some_iff.1 he
    cases hx : a.eval x with
    | tuple cs =>
      rw [hx] at hc
      cases hc with
      | tup _ _ hsz hh =>
        have hi : i < cs.size := by rw [hsz]; exact (List.getElem?_eq_some_iff.1 hv).1
        exact done_val h hN (v := cs[i]) (by simp [execOp, ho, hx, Instr.extract, hi]) (hh i _ _ (by simp [hi]) hv)
    | _ => rw [hx] at hc; cases hc
  · cases he

theorem ev_nilCheck {x : Operand} (h : RepG N w0 C0 E s a w C ρ τ) (hN : ∀ d, o.dst = some d → d < N) (ho : o.op = .nilCheck x) (he : ev P s o = some e) : Done N w0 C0 E P o a w (s.app o.dst e) := by
  simp only [ev, ho] at he
  have hc := opnd (P := P) h 0 x
  split at he
  · rename_i k off hl
    cases he
    rw [hl] at hc
    cases hx : a.eval x <;> rw [hx] at hc <;> cases hc
    rename_i hk
    exact done_val h hN (by simp [execOp, ho, hx]) (.box _ _ _ hk)
  · rename_i l hl
    cases he
    rw [hl] at hc
    cases hx : a.eval x <;> rw [hx] at hc <;> cases hc
    rename_i cv h1 h2
    exact done_val h hN (by simp [execOp, ho, hx]) (.ptr _ _ _ cv h1 h2)
  · rename_i f l hl
    cases he
    rw [hl] at hc
    cases hx : a.eval x <;> rw [hx] at hc <;> cases hc
    rename_i h1 h2
    exact done_val h hN (by simp [execOp, ho, hx]) (.clo _ _ _ h1 h2)
  · cases he

theorem ev_unOp {op : UnOp} {t : TypeId} {x : Operand} (h : RepG N w0 C0 E s a w C ρ τ) (hN : ∀ d, o.dst = some d → d < N) (ho : o.op = .unOp op t x) (he : ev P s o = some e) : Done N w0 C0 E P o a w (s.app o.dst e) := by
  simp only [ev, ho] at he
  have hc := opnd (P := P) h 0 x
  split at he
  · rename_i b hb
    cases he
    rw [hb] at hc
    have := (rv_v hc).1
    exact done_val h hN (v := .bool !b) (by simp [execOp, ho, this, Op.unary]) (.v _ rfl)
  · rename_i k n hb
    cases he
    rw [hb] at hc
    have := (rv_v hc).1
    exact done_val h hN (v := .int k (k.wrap (0 - n))) (by simp [execOp, ho, this, Op.unary, Op.intArith]) (.v _ rfl)
  · cases he

theorem ev_convert {t u : TypeId} {x : Operand} (h : RepG N w0 C0 E s a w C ρ τ) (hN : ∀ d, o.dst = some d → d < N) (ho : o.op = .convert t u x) (he : ev P s o = some e) : Done N w0 C0 E P o a w (s.app o.dst e) := by
  simp only [ev, ho] at he
  have hc := opnd (P := P) h t x
  split at he
  · rename_i d k k' n h1 h2 hb
    cases he
    rw [hb] at hc
    have := (rv_v hc).1
    exact done_val h hN (v := .int k (k.wrap n)) (by simp [execOp, ho, this, convert, run_underlying h1, run_underlying h2, Conv.intToInt]) (.v _ rfl)
  · cases he

theorem drop_ptr {b o' : Nat} {l : List AV} (k : Nat) (h : RV C ρ τ (.pointer (some ⟨b, o', none⟩)) (.ptr l)) : RV C ρ τ (.pointer (some ⟨b, o' + k, none⟩)) (.ptr (l.drop k)) := by
  cases h with
  | ptr _ _ _ cv h1 h2 =>
    refine .ptr _ _ _ (fun j => cv (k + j)) (fun j hj => ?_) (fun j y hy => ?_)
    · rw [show o' + k + j = o' + (k + j) by omega]
      exact h1 _ (by simp at hj; omega)
    · exact h2 _ _ (by simpa using hy)

theorem ev_fieldAddr {t : TypeId} {x : Operand} {f : Nat} (h : RepG N w0 C0 E s a w C ρ τ) (hN : ∀ d, o.dst = some d → d < N) (ho : o.op = .fieldAddr t x f) (he : ev P s o = some e) : Done N w0 C0 E P o a w (s.app o.dst e) := by
  simp only [ev, ho] at he
  have hc := opnd (P := P) h 0 x
  have run : ∀ {off : Nat} {b o' : Nat}, foff P t f = some off → a.eval x = .pointer (some ⟨b, o', none⟩) → (execOp a.eval o).run P w = .ok (.value (.pointer (some ⟨b, o' + off, none⟩))) w := by
    intro off b o' hf hx
    unfold foff at hf
    split at hf
    case h_1 fs hu =>
      split at hf
      case h_1 fd hfd =>
        split at hf
        case isTrue hsz =>
          cases hf
          simp [execOp, ho, hx, Instr.fieldAt, run_underlying hu, hfd, Instr.sureAddr, fieldPlace, run_size hsz.1, hsz.2]
          rw [Addr.add_lit]
        case isFalse => cases hf
      case h_2 => cases hf
    case h_2 => cases hf
  split at he
  · rename_i k off o' hl hf
    cases he
    rw [hl] at hc
    cases hx : a.eval x <;> rw [hx] at hc <;> cases hc
    rename_i b hk
    exact done_val h hN (run hf hx) (.box _ _ _ hk)
  · rename_i l o' hl hf
    cases he
    rw [hl] at hc
    cases hx : a.eval x <;> rw [hx] at hc <;> (have hc' := hc; cases hc)
    exact done_val h hN (run hf hx) (drop_ptr _ hc')
  · cases he

theorem ev_len {args : Array Operand} {ts : Array TypeId} (h : RepG N w0 C0 E s a w C ρ τ) (hN : ∀ d, o.dst = some d → d < N) (ho : o.op = .call { callee := .builtin .len, args := args, argTypes := ts }) (he : ev P s o = some e) : Done N w0 C0 E P o a w (s.app o.dst e) := by
  simp only [ev, ho] at he
  split at he
  case h_2 => cases he
  rename_i x t hx ht
  have hargs : args = #[x] := by apply Array.ext'; simpa using hx
  have hts : ts = #[t] := by apply Array.ext'; simpa using ht
  subst hargs hts
  split at he
  case isFalse => cases he
  rename_i hsl
  have hu : ∃ el, P.underlying t = some (.slice el) := by
    unfold slT at hsl
    split at hsl
    · exact ⟨_, by assumption⟩
    · cases hsl
  obtain ⟨el, hu⟩ := hu
  have hc := opnd (P := P) h t x
  have run : ∀ {A : Option Addr} {n c : Nat}, a.eval x = .slice A n c → (execOp a.eval o).run P w = .ok (.value (.int .i64 n)) w := by
    intro A n c hx
    simp [execOp, ho, resolve, invoke, builtin, hx, Builtin.len_, run_underlying hu, goInt]
  split at he
  · rename_i sz xs tk hl
    cases he
    rw [hl] at hc
    obtain ⟨A, c, cv, hx, _⟩ := rv_list hc
    exact done_val h hN (run hx) (.v _ rfl)
  · rename_i k n sz hl
    cases he
    rw [hl] at hc
    obtain ⟨b, c, hx, _⟩ := rv_sl hc
    exact done_val h hN (run hx) (.v _ rfl)
  · cases he

theorem ev_maxmin {b : Builtin} (hb : b = .max ∨ b = .min) {args : Array Operand} {ts : Array TypeId} (h : RepG N w0 C0 E s a w C ρ τ) (hN : ∀ d, o.dst = some d → d < N) (ho : o.op = .call { callee := .builtin b, args := args, argTypes := ts }) (he : ev P s o = some e) : Done N w0 C0 E P o a w (s.app o.dst e) := by
  rcases hb with rfl | rfl
  all_goals
    simp only [ev, ho] at he
    split at he
    case h_2 => cases he
    rename_i x y hx
    have hargs : args = #[x, y] := by apply Array.ext'; simpa using hx
    subst hargs
    split at he
    case h_2 => cases he
    rename_i k m k' n h1 h2
    cases he
    have c1 := opnd (P := P) h 0 x
    have c2 := opnd (P := P) h 0 y
    rw [h1] at c1
    rw [h2] at c2
    have e1 := (rv_v c1).1
    have e2 := (rv_v c2).1
    refine done_val h hN (v := _) ?_ (.v _ rfl)
    simp [execOp, ho, resolve, invoke, builtin, e1, e2, Builtin.max_, Builtin.min_, Builtin.max2, Builtin.min2]

theorem ev_slice {t : TypeId} {x hi : Operand} (h : RepG N w0 C0 E s a w C ρ τ) (hN : ∀ d, o.dst = some d → d < N) (ho : o.op = .slice t x none (some hi) none) (he : ev P s o = some e) : Done N w0 C0 E P o a w (s.app o.dst e) := by
  simp only [ev, ho] at he
  split at he
  case h_2 => cases he
  rename_i sz xs tk k n h1 h2
  split at he
  case isFalse => cases he
  rename_i hcond
  obtain ⟨hsl, hsz, hn0, hn1⟩ := hcond
  cases he
  have c1 := opnd (P := P) h t x
  have c2 := opnd (P := P) h 0 hi
  rw [h1] at c1
  rw [h2] at c2
  have e2 := (rv_v c2).1
  unfold slT at hsl
  split at hsl
  case h_2 => cases hsl
  rename_i el hu
  simp only [Bool.and_eq_true, decide_eq_true_eq] at hsl
  obtain ⟨A, c, cv, hx, hmc, hcm, hcell, hrv, htk⟩ := rv_list c1
  have hle : (n ≤ (c : Int)) := by omega
  refine done_val h hN (v := .slice A n.toNat c) ?_ (.list _ _ .no _ _ _ cv (by simp; omega) (by omega) hcm ?_ ?_ trivial)
  · have hz : (sizeOf el).run P w = .ok (P.cellsOf el) w := run_size hsl.1 w
    simp [execOp, ho, hx, e2, Instr.sliceAt, run_underlying hu, Instr.slice, Instr.sliceBounds, Instr.sliceBound, asIntOf, hn0, hle, hz]
    intro hc0
    cases A with
    | none => rfl
    | some ad => simp [Addr.add]
  · intro i y hy
    rw [List.getElem?_take] at hy
    split at hy
    · exact hcell i y hy
    · cases hy
  · intro i y j z hy hz
    rw [List.getElem?_take] at hy
    split at hy
    · exact hrv i y j z hy hz
    · cases hy

end Go.Sy
