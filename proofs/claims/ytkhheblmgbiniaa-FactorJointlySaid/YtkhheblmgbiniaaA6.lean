/- Operations that read: an index, a comparison, a load; a closure's making. -/
import Derived.Test.YtkhheblmgbiniaaA5
namespace Go.Sy
open Go Go.RowKit

variable {N : Nat} {w0 : World} {C0 : CMap} {E : EX} {s : St} {a : Act} {w : World} {C : CMap} {ρ : RMap} {τ : TMap} {P : Program} {o : Oper} {e : Eff}

theorem slT_elim {t : TypeId} (h : slT P t = true) : ∃ el, P.underlying t = some (.slice el) ∧ (P.info? el).isSome ∧ 0 < P.cellsOf el ∧ esz P t = P.cellsOf el ∧ ebytes P t = P.bytesOf el := by
  unfold slT at h
  split at h
  · rename_i el hu
    simp only [Bool.and_eq_true, decide_eq_true_eq] at h
    exact ⟨el, hu, h.1, h.2, by simp [esz, hu], by simp [ebytes, hu]⟩
  · cases h

theorem ev_indexAddr {t : TypeId} {x i : Operand} (h : RepG N w0 C0 E s a w C ρ τ) (hN : ∀ d, o.dst = some d → d < N) (ho : o.op = .indexAddr t x i) (he : ev P s o = some e) : Done N w0 C0 E P o a w (s.app o.dst e) := by
  simp only [ev, ho] at he
  obtain ⟨r, hr, rfl⟩ := Option.map_eq_some_iff.1 he
  have c1 := opnd (P := P) h t x
  have c2 := opnd (P := P) h 0 i
  unfold idxAV at hr
  split at hr
  · rename_i sz xs tk k n h1 h2
    rw [h1] at c1; rw [h2] at c2
    have e2 := (rv_v c2).1
    split at hr
    case isFalse => cases hr
    rename_i hcond
    obtain ⟨hsl, hsz, hn0, hn1⟩ := hcond
    obtain ⟨el, hu, hi, hpos, hez, _⟩ := slT_elim hsl
    obtain ⟨y, hy, rfl⟩ := Option.map_eq_some_iff.1 hr
    obtain ⟨A, c, cv, hx, hmc, hcm, hcell, hrv, htk⟩ := rv_list c1
    obtain ⟨hyl, b, o', hA, hcells⟩ := hcell _ _ hy
    subst hA
    refine done_val h hN (v := .pointer (some ⟨b, o' + n.toNat * sz, none⟩)) ?_ (.ptr _ _ _ (cv n.toNat) (fun j hj => hcells j (by omega)) (fun j z hz => hrv _ _ _ _ hy hz))
    have hz : (sizeOf el).run P w = .ok (P.cellsOf el) w := run_size hi w
    simp [execOp, ho, hx, e2, Instr.indexAt, run_underlying hu, asIntOf, hn0, hn1, hz, hsz, hez]
    rw [Addr.add_lit]
  · rename_i k len sz kk n h1 h2
    rw [h1] at c1; rw [h2] at c2
    have e2 := (rv_v c2).1
    split at hr
    case isFalse => cases hr
    rename_i hcond
    obtain ⟨hsl, _, hn0, hn1⟩ := hcond
    obtain ⟨el, hu, hi, hpos, hez, _⟩ := slT_elim hsl
    cases hr
    obtain ⟨b, c, hx, hρ, hlc, hcm⟩ := rv_sl c1
    refine done_val h hN (v := .pointer (some ⟨b, n.toNat * esz P t, none⟩)) ?_ (.box _ _ _ hρ)
    have hz : (sizeOf el).run P w = .ok (P.cellsOf el) w := run_size hi w
    simp [execOp, ho, hx, e2, Instr.indexAt, run_underlying hu, asIntOf, hn0, hn1, hz, hez]
    rw [Addr.add_lit, Nat.zero_add]
  · rename_i l kk n h1 h2
    rw [h1] at c1; rw [h2] at c2
    have e2 := (rv_v c2).1
    split at hr
    case h_2 => cases hr
    rename_i m el hu
    split at hr
    case isFalse => cases hr
    rename_i hcond
    obtain ⟨hi, hn0, hn1⟩ := hcond
    cases hr
    obtain ⟨b, o', cv, hx, _, _⟩ := rv_ptr c1
    refine done_val h hN (v := .pointer (some ⟨b, o' + n.toNat * P.cellsOf el, none⟩)) ?_ (drop_ptr _ (by rw [← hx]; exact c1))
    have hz : (sizeOf el).run P w = .ok (P.cellsOf el) w := run_size hi w
    simp [execOp, ho, hx, e2, Instr.indexAt, run_underlying hu, asIntOf, hn0, hn1, hz, Instr.sureAddr]
    rw [Addr.add_lit]
  · cases hr

/-! ### Comparisons -/
theorem eqInts_run {d : Nat} {X Y : Array Value} : ∀ (fs : List Field) (k : Nat) (x y : List AV) (r : Bool),
    (fs.zipIdx k).all (fun (f, i) => decide (f.name ≠ "_") && f.offset == i && (match P.underlying f.type with | some (.int .i64) => true | _ => false)) = true →
    (∀ (i : Nat) (v : AV), x[i]? = some v → ∃ u, X[k + i]? = some u ∧ RV C ρ τ u v) → (∀ (i : Nat) (v : AV), y[i]? = some v → ∃ u, Y[k + i]? = some u ∧ RV C ρ τ u v) → x.length = fs.length → y.length = fs.length →
    eqInts x y = some r → (Op.eqFields (d + 1) X Y fs).run P w = .ok r w
  | [], k, x, y, r, _, _, _, hl, hl', he => by
    have : x = [] := List.eq_nil_of_length_eq_zero hl
    have h2 : y = [] := List.eq_nil_of_length_eq_zero hl'
    subst this h2
    simp only [eqInts, Option.some.injEq] at he
    subst he
    simp [Op.eqFields]
  | f :: fs, k, x, y, r, hall, hX, hY, hl, hl', he => by
    unfold eqInts at he
    split at he
    · simp at hl
    · rename_i a x' b y'
      obtain ⟨r', hr', rfl⟩ := Option.map_eq_some_iff.1 he
      simp only [List.zipIdx_cons, List.all_cons, Bool.and_eq_true, decide_eq_true_eq, beq_iff_eq] at hall
      obtain ⟨⟨⟨hname, hoff⟩, hty⟩, hrest⟩ := hall
      have hu : P.underlying f.type = some (.int .i64) := by
        split at hty
        · assumption
        · cases hty
      obtain ⟨u1, g1, g2⟩ := hX 0 _ rfl
      obtain ⟨u2, g3, g4⟩ := hY 0 _ rfl
      have e1 := (rv_v g2).1
      have e2 := (rv_v g4).1
      subst e1 e2
      have ih := eqInts_run (d := d) fs (k + 1) x' y' r' hrest (fun i v hv => by have := hX (i + 1) v (by simpa using hv); rwa [show k + (i + 1) = k + 1 + i by omega] at this)
        (fun i v hv => by have := hY (i + 1) v (by simpa using hv); rwa [show k + (i + 1) = k + 1 + i by omega] at this) (by simpa using hl) (by simpa using hl') hr'
      have hag : (isAgg f.type).run P w = .ok false w := by simp [isAgg, run_underlying hu]
      simp only [Nat.add_zero] at g1 g3
      have p1 : (part f.type X f.offset).run P w = .ok (.int .i64 a) w := by simp [part, hag, hoff, g1]
      have p2 : (part f.type Y f.offset).run P w = .ok (.int .i64 b) w := by simp [part, hag, hoff, g3]
      have q : (Op.equalIn (d + 1) f.type (.int .i64 a) (.int .i64 b)).run P w = .ok (a == b) w := run_equalIn_int w d f.type .i64 .i64 a b hu
      simp only [Op.eqFields, hname, ne_eq, not_false_eq_true, if_true, Sem.run_bind, p1, p2, q, Result.andThen_ok]
      cases hab : (a == b)
      · simp
      · simp [ih]
    · cases he

theorem binAV_rv {op : BinOp} {t : TypeId} {u v : Value} {x y r : AV} (hx : RV C ρ τ u x) (hy : RV C ρ τ v y) (hr : binAV P op t x y = some r) (X Y : Operand) :
    ∃ z, (do eqGuard op t X Y u v; binOp op t u v : Sem Value).run P w = .ok z w ∧ RV C ρ τ z r := by
  unfold binAV at hr
  split at hr
  · rename_i k a k' b
    have e1 := (rv_v hx).1
    have e2 := (rv_v hy).1
    subst e1 e2
    have hg : (eqGuard op t X Y (.int k a) (.int k' b)).run P w = .ok () w := by cases op <;> simp [eqGuard]
    split at hr
    · rename_i hk
      subst hk
      cases op <;> simp only [Option.some.injEq, reduceCtorEq] at hr
      case add => subst hr; exact ⟨_, by simp [hg, binOp, Op.intArith], .v _ rfl⟩
      case sub => subst hr; exact ⟨_, by simp [hg, binOp, Op.intArith], .v _ rfl⟩
      case mul => subst hr; exact ⟨_, by simp [hg, binOp, Op.intArith], .v _ rfl⟩
      case quo =>
        split at hr
        · cases hr
        · rename_i hb; cases hr; exact ⟨_, by simp [hg, binOp, Op.intDiv, hb], .v _ rfl⟩
      case rem =>
        split at hr
        · cases hr
        · rename_i hb; cases hr; exact ⟨_, by simp [hg, binOp, Op.intDiv, hb], .v _ rfl⟩
      case and => subst hr; exact ⟨_, by simp [hg, binOp, Op.intBits], .v _ rfl⟩
      case shr =>
        split at hr
        · cases hr
        · rename_i hb; cases hr; exact ⟨_, by simp [hg, binOp, Op.shift, hb], .v _ rfl⟩
      all_goals (subst hr; exact ⟨_, by simp [hg, binOp, Op.intCmp], .v _ rfl⟩)
    · rename_i hk
      cases op <;> simp only [reduceCtorEq] at hr
      case shr =>
        split at hr
        · cases hr
        · rename_i hb; cases hr; exact ⟨_, by simp [hg, binOp, Op.shift, hb], .v _ rfl⟩
  · rename_i x y
    split at hr
    case isFalse => cases hr
    rename_i hcond
    simp only [Bool.and_eq_true, decide_eq_true_eq] at hcond
    obtain ⟨⟨hint, hlx⟩, hly⟩ := hcond
    unfold intStruct at hint
    split at hint
    case h_2 => cases hint
    rename_i fs hu
    simp only [Bool.and_eq_true, Bool.not_eq_true', beq_iff_eq] at hint
    obtain ⟨⟨⟨hst, hgd⟩, hsz⟩, hall⟩ := hint
    obtain ⟨X', rfl, hX1, hX2, _⟩ := rv_agg hx
    obtain ⟨Y', rfl, hY1, hY2, _⟩ := rv_agg hy
    have hf : P.underlying t = some (.struct (P.fieldsOf t)) := by simp [Program.fieldsOf, hu]
    have hfs : P.fieldsOf t = fs := by simp [Program.fieldsOf, hu]
    have main : ∀ r', eqInts x y = some r' → (Op.equalIn 10000 t (.agg X') (.agg Y')).run P w = .ok r' w := by
      intro r' hr'
      rw [run_equalIn_agg w 9999 t X' Y' hf hst, hfs]
      refine eqInts_run (d := 9998) (C := C) (ρ := ρ) (τ := τ) fs.toList 0 x y r' hall (fun i v hv => ?_) (fun i v hv => ?_) (by simp; omega) (by simp; omega) hr'
      · have hi : i < X'.size := by rw [hX1]; exact (List.getElem?_eq_some_iff.1 hv).1
        exact ⟨X'[i], by simp [hi], hX2 i _ _ (by simp [hi]) hv⟩
      · have hi : i < Y'.size := by rw [hY1]; exact (List.getElem?_eq_some_iff.1 hv).1
        exact ⟨Y'[i], by simp [hi], hY2 i _ _ (by simp [hi]) hv⟩
    have hg : (eqGuard op t X Y (.agg X') (.agg Y')).run P w = .ok () w := run_eqGuard_agg w op t X Y X' Y' hgd
    cases op <;> simp only [reduceCtorEq] at hr
    case eql =>
      obtain ⟨r', hr', rfl⟩ := Option.map_eq_some_iff.1 hr
      exact ⟨.bool r', by simp only [Sem.run_bind, hg, Result.andThen_ok, run_eql_struct, main r' hr'], .v _ rfl⟩
    case neq =>
      obtain ⟨r', hr', rfl⟩ := Option.map_eq_some_iff.1 hr
      exact ⟨.bool !r', by simp only [Sem.run_bind, hg, Result.andThen_ok, run_neq_struct, main r' hr'], .v _ rfl⟩
  · rename_i a b
    have e1 := (rv_v hx).1
    have e2 := (rv_v hy).1
    subst e1 e2
    have hg : (eqGuard op t X Y (.bool a) (.bool b)).run P w = .ok () w := by cases op <;> simp [eqGuard]
    split at hr
    · rename_i hu; cases hr; exact ⟨_, by simp [hg, binOp, run_equal_bool w t a b hu], .v _ rfl⟩
    · rename_i hu; cases hr; exact ⟨_, by simp [hg, binOp, run_equal_bool w t a b hu]; cases a <;> cases b <;> rfl, .v _ rfl⟩
    · cases hr
  · cases hr

theorem ev_binOp {op : BinOp} {t u : TypeId} {x y : Operand} (h : RepG N w0 C0 E s a w C ρ τ) (hN : ∀ d, o.dst = some d → d < N) (ho : o.op = .binOp op t x y u) (he : ev P s o = some e) : Done N w0 C0 E P o a w (s.app o.dst e) := by
  simp only [ev, ho] at he
  obtain ⟨r, hr, rfl⟩ := Option.map_eq_some_iff.1 he
  obtain ⟨z, hz, hrv⟩ := binAV_rv (w := w) (opnd (P := P) h t x) (opnd (P := P) h t y) hr x y
  refine done_val h hN (v := z) ?_ hrv
  have : execOp a.eval o = (do pure (Next.value (← (do eqGuard op t x y (a.eval x) (a.eval y); binOp op t (a.eval x) (a.eval y) : Sem Value)))) := by simp [execOp, ho]
  rw [this, Sem.run_bind, hz]
  simp

/-! ### Loads -/
theorem ev_load {t : TypeId} {x : Operand} (h : RepG N w0 C0 E s a w C ρ τ) (hN : ∀ d, o.dst = some d → d < N) (ho : o.op = .load t x) (he : ev P s o = some e) : Done N w0 C0 E P o a w (s.app o.dst e) := by
  simp only [ev, ho] at he
  have c1 := opnd (P := P) h 0 x
  have fin : ∀ {b o' : Nat} {u : Value} {r : AV}, a.eval x = .pointer (some ⟨b, o', none⟩) → (loadVar t ⟨b, o', none⟩).run P w = .ok u w → RV C ρ τ u r → Done N w0 C0 E P o a w (s.app o.dst { v := r }) := by
    intro b o' u r hx hl hr
    refine done_val h hN (v := u) ?_ hr
    simp [execOp, ho, hx, Instr.loadAt, Instr.sureAddr, hl]
  split at he
  · rename_i k off hk
    rw [hk] at c1
    split at he
    case h_2 => cases he
    rename_i B hB
    split at he
    case isFalse => cases he
    rename_i hoff
    obtain ⟨r, hr, rfl⟩ := Option.map_eq_some_iff.1 he
    obtain ⟨b, hx, hρ⟩ := rv_box c1
    obtain ⟨cs, ty, g1, g2, g3, g4⟩ := box_cells h hB hρ
    have hcs : ∀ j, j < (B.c.drop off).length → cs[off + j]? = some (cs.getD (off + j) undef) := by
      intro j hj
      have : off + j < cs.size := by simp at hj; omega
      simp [this]
    obtain ⟨u, hu, hru⟩ := run_load_of (P := P) (C := C) (ρ := ρ) (τ := τ) (w := w) (b := b) (o := off) (fun j => cs.getD (off + j) undef) hr
      (fun j hj => by simp only [World.cell?, g1]; exact hcs j hj)
      (fun j y hy => g4 (off + j) _ _ (hcs j (List.getElem?_eq_some_iff.1 hy).1) (by simpa using hy)) (fun j hj => g3 _ _ (hcs j hj))
    exact fin hx hu hru
  · rename_i l hk
    rw [hk] at c1
    obtain ⟨r, hr, rfl⟩ := Option.map_eq_some_iff.1 he
    obtain ⟨b, o', cv, hx, hc, hv⟩ := rv_ptr c1
    obtain ⟨u, hu, hru⟩ := run_load_of (P := P) (C := C) (ρ := ρ) (τ := τ) (w := w) (b := b) (o := o') cv hr (fun j hj => (h.cw _ _ _ (hc j hj)).1) (fun j y hy => (hv j y hy).lift ρ τ) (fun j hj => (h.cw _ _ _ (hc j hj)).2)
    exact fin hx hu hru
  · cases he

theorem capAV_rv (h : RepG N w0 C0 E s a w C ρ τ) : ∀ (xs : List Operand) (l : List AV), capAV s (xs.map (s.o P 0)) = some l → ∀ (i : Nat) (y : AV), l[i]? = some y → ∃ x, xs[i]? = some x ∧ RV C noρ noτ (a.eval x) y
  | [], l, he => by simp only [List.map_nil, capAV, Option.some.injEq] at he; subst he; intro i y hy; simp at hy
  | x :: xs, l, he => by
    simp only [List.map_cons] at he
    have c1 := opnd (P := P) h 0 x
    have fin : ∀ {l1 l2 : List AV}, RV C noρ noτ (a.eval x) (.ptr l1) → capAV s (xs.map (s.o P 0)) = some l2 → ∀ (i : Nat) (y : AV), (AV.ptr l1 :: l2)[i]? = some y → ∃ x', (x :: xs)[i]? = some x' ∧ RV C noρ noτ (a.eval x') y := by
      intro l1 l2 hr h2 i y hy
      cases i with
      | zero => simp at hy; subst hy; exact ⟨x, rfl, hr⟩
      | succ i => simpa using capAV_rv h xs l2 h2 i y (by simpa using hy)
    unfold capAV at he
    split at he
    · simp at *
    · rename_i k r heq
      rw [List.cons.injEq] at heq
      obtain ⟨hk, rfl⟩ := heq
      rw [hk] at c1
      split at he
      case h_2 => cases he
      rename_i lb hB
      split at he
      case isFalse => cases he
      rename_i hcl
      obtain ⟨l2, h2, rfl⟩ := Option.map_eq_some_iff.1 he
      refine fin ?_ h2
      obtain ⟨b, hx, hρ⟩ := rv_box c1
      rw [hx]
      obtain ⟨b', hρ', ⟨⟨cs, ty, g1, g2, g3, g4, g5⟩, _⟩, _⟩ := h.bx k _ hB
      rw [hρ] at hρ'; cases hρ'
      have hcs : ∀ j, j < lb.length → cs[j]? = some (cs.getD j undef) := by
        intro j hj
        have : j < cs.size := by simp only at g2; omega
        simp [this]
      refine .ptr _ _ _ (fun j => cs.getD j undef) (fun j hj => by rw [Nat.zero_add]; exact g5 rfl j _ (hcs j hj)) (fun j y hy => clean_rv (g4 j _ _ (hcs j (List.getElem?_eq_some_iff.1 hy).1) hy) (List.all_eq_true.1 hcl y (List.mem_of_getElem? hy)))
    · rename_i lb r heq
      rw [List.cons.injEq] at heq
      obtain ⟨hk, rfl⟩ := heq
      rw [hk] at c1
      obtain ⟨l2, h2, rfl⟩ := Option.map_eq_some_iff.1 he
      exact fin (clean_rv c1 rfl) h2
    · cases he

theorem capAV_length {s : St} : ∀ (xs l : List AV), capAV s xs = some l → l.length = xs.length
  | [], l, he => by simp only [capAV, Option.some.injEq] at he; subst he; rfl
  | x :: xs, l, he => by
    unfold capAV at he
    split at he
    · simp at *
    · rename_i k r heq
      rw [List.cons.injEq] at heq
      obtain ⟨_, rfl⟩ := heq
      split at he
      case h_2 => cases he
      split at he
      case isFalse => cases he
      obtain ⟨l2, h2, rfl⟩ := Option.map_eq_some_iff.1 he
      simp [capAV_length _ _ h2]
    · rename_i lb r heq
      rw [List.cons.injEq] at heq
      obtain ⟨_, rfl⟩ := heq
      obtain ⟨l2, h2, rfl⟩ := Option.map_eq_some_iff.1 he
      simp [capAV_length _ _ h2]
    · cases he

theorem ev_makeFunc {f : FuncId} {first caps : Array Operand} (h : RepG N w0 C0 E s a w C ρ τ) (hN : ∀ d, o.dst = some d → d < N) (ho : o.op = .makeFunc (.func f) first caps) (he : ev P s o = some e) : Done N w0 C0 E P o a w (s.app o.dst e) := by
  simp only [ev, ho] at he
  split at he
  case isFalse => cases he
  rename_i hf
  have hf : first = #[] := by simpa [Array.isEmpty_iff] using hf
  subst hf
  obtain ⟨l, hl, rfl⟩ := Option.map_eq_some_iff.1 he
  refine done_val h hN (v := .func (.func f) #[] (caps.map a.eval)) (by simp [execOp, ho, Instr.makeFunc]) (.clo _ _ _ ?_ ?_)
  · have := capAV_length _ _ hl
    simp at this ⊢
    omega
  · intro i v y hv hy
    obtain ⟨x, hx, hr⟩ := capAV_rv h _ _ hl i y hy
    simp at hv hx
    rw [hx] at hv
    simp at hv
    subst hv
    exact hr

end Go.Sy
