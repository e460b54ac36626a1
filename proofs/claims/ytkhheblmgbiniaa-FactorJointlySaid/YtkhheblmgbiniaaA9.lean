/- Slices that the call owns: made, and appended to. -/
import Derived.Test.YtkhheblmgbiniaaA8
namespace Go.Sy
open Go Go.RowKit

variable {N : Nat} {w0 : World} {C0 : CMap} {E : EX} {s : St} {a : Act} {w : World} {C : CMap} {ρ : RMap} {τ : TMap} {P : Program} {o : Oper} {e : Eff}

theorem crt_one (d g : Nat) (f : Key → Bool) : crt d g 1 f = upd f (d, g, 0) false := by
  funext k
  obtain ⟨x, y, z⟩ := k
  simp only [crt, upd, Prod.mk.injEq]
  by_cases h : x = d ∧ y = g ∧ z < 1
  · rw [if_pos h, if_pos ⟨h.1, h.2.1, by omega⟩]
  · rw [if_neg h, if_neg (fun h' => h ⟨h'.1, h'.2.1, by omega⟩)]

theorem app_tok (s : St) (d : Nat) (v : AV) (kl : Option Key) : s.app (some d) { v := v, nt := 1, kl := kl } =
    St.set { s with d := upd (match kl with | none => s.d | some k => upd s.d k true) (d, s.g d, 0) false, g := upd s.g d (s.g d + 1) } d v := by
  cases kl <;> simp [St.app, St.set, sto, crt_one]

theorem div_lt {j n sz : Nat} (h : j < n * sz) : j / sz < n := Nat.div_lt_of_lt_mul (by rwa [Nat.mul_comm])
theorem two_idx {n sz i j : Nat} (hi : i < n) (hj : j < sz) : i * sz + j < n * sz :=
  calc i * sz + j < i * sz + sz := by omega
    _ = (i + 1) * sz := by rw [Nat.add_mul, Nat.one_mul]
    _ ≤ n * sz := Nat.mul_le_mul_right _ hi
theorem idx_div {sz i j : Nat} (hj : j < sz) : (i * sz + j) / sz = i := by
  rw [Nat.mul_comm, Nat.mul_add_div (by omega), Nat.div_eq_of_lt hj, Nat.add_zero]
theorem idx_mod {sz i j : Nat} (hj : j < sz) : (i * sz + j) % sz = j := by
  rw [Nat.mul_comm, Nat.mul_add_mod, Nat.mod_eq_of_lt hj]
theorem div_idx (j sz : Nat) : j / sz * sz + j % sz = j := by rw [Nat.mul_comm]; exact Nat.div_add_mod j sz

theorem RepG.newrow (h : RepG N w0 C0 E s a w C ρ τ) (d : Nat) {cs : Array Value} (ty : TypeId) {sz n c : Nat} {xs : List (List AV)} (hcs : cs.size = c * sz) (hn : xs.length = n) (hnc : n ≤ c) (hcm : c ≤ maxLen)
    (hx : ∀ (i : Nat) (x : List AV), xs[i]? = some x → x.length = sz) (hrv : ∀ (i : Nat) (x : List AV) (j : Nat) (y : AV), xs[i]? = some x → x[j]? = some y → ∃ u, cs[i * sz + j]? = some u ∧ RV C noρ noτ u y)
    (h1 : ∀ (i : Nat) (u : Value), i < n * sz → cs[i]? = some u → u.oneCell' = true) :
    ∃ C' τ', RepG N w0 C0 E { s with d := upd s.d (d, s.g d, 0) false, g := upd s.g d (s.g d + 1) } a (w.alloc (.cells cs ty)) C' ρ τ' ∧
      RV C' ρ τ' (.slice (some ⟨w.heap.size, 0, none⟩) n c) (.list sz xs (.own (d, s.g d, 0))) := by
  have hns : n * sz ≤ c * sz := Nat.mul_le_mul_right _ hnc
  have c1eq : ∀ b o v, (if b = w.heap.size ∧ o < n * sz then cs[o]? else C b o) = some v → (b = w.heap.size ∧ o < n * sz ∧ cs[o]? = some v) ∨ C b o = some v := by
    intro b o v hv
    split at hv
    · exact .inl ⟨by omega, by omega, hv⟩
    · exact .inr hv
  have hmono : ∀ b o v, C b o = some v → (if b = w.heap.size ∧ o < n * sz then cs[o]? else C b o) = some v := by
    intro b o v hv
    rw [if_neg]
    · exact hv
    · rintro ⟨rfl, _⟩
      rw [newC h] at hv
      cases hv
  have g1 : RepG N w0 C0 E s a (w.alloc (.cells cs ty)) (fun b o => if b = w.heap.size ∧ o < n * sz then cs[o]? else C b o) ρ τ := by
    refine h.grow (below_new w _) hmono ?_ ?_
    · intro b o v hv
      rcases c1eq _ _ _ hv with hv | hv
      · exact .inr (by omega)
      · exact .inl hv
    · intro b o v hb hv
      rcases c1eq _ _ _ hv with ⟨rfl, ho, hv⟩ | hv
      · refine ⟨?_, h1 _ _ ho hv⟩
        simp only [World.cell?, heap_alloc_new]
        exact hv
      · have := cell_lt (h.cw _ _ _ hv).1
        omega
  have hlive : ∀ k' v' n' b, τ k' = some (v', n') → s.d k' = false → blk (.slice (some ⟨w.heap.size, 0, none⟩) n c) = some b → blk v' ≠ some b := by
    intro k' v' n' b hk' hd hb
    obtain ⟨_, ad, had, hb'⟩ := blk_cap hb
    cases had
    subst hb'
    exact newT h k' v' n' hk' hd
  have g2 := g1.addtok (d, s.g d, 0) (Nat.le_refl _) (v := .slice (some ⟨w.heap.size, 0, none⟩) n c) (n := sz)
    ⟨_, _, _, rfl, .inr ⟨w.heap.size, cs, ty, rfl, heap_alloc_new w _, hcs, hnc, hcm, fun o ho => by
      show (if w.heap.size = w.heap.size ∧ o < n * sz then cs[o]? else C w.heap.size o) = none
      rw [if_neg (by omega)]; exact newC h o, .inl h.fr.size, fun k' B hB => newB h k' B hB⟩⟩ hlive
  refine ⟨_, _, g2, .list sz xs _ _ n c (fun i j => cs.getD (i * sz + j) undef) hn hnc hcm ?_ ?_ (by simp [TokV, upd])⟩
  · intro i x hxi
    have hi : i < n := by rw [← hn]; exact (List.getElem?_eq_some_iff.1 hxi).1
    refine ⟨hx i x hxi, w.heap.size, 0, rfl, fun j hj => ?_⟩
    have hlt := two_idx hi hj
    have hlt2 : i * sz + j < cs.size := by omega
    show (if w.heap.size = w.heap.size ∧ 0 + i * sz + j < n * sz then cs[0 + i * sz + j]? else C w.heap.size (0 + i * sz + j)) = _
    rw [Nat.zero_add, if_pos ⟨rfl, hlt⟩]
    simp [hlt2]
  · intro i x j y hxi hxj
    obtain ⟨u, hu, hr⟩ := hrv i x j y hxi hxj
    have : cs.getD (i * sz + j) undef = u := by simp [Array.getD_eq_getD_getElem?, hu]
    rw [this]
    exact hr.mono hmono (fun _ _ h => h) (fun _ _ h => h)

/-! ### A literal slice -/
theorem fill_parts {sz : Nat} : ∀ (ps : List (Nat × Value)) (qs : List (Nat × AV)) (k : Nat) (cs : Array Value) (l : List (List AV)), ps.length = qs.length →
    (∀ (i : Nat) (p : Nat × Value) (q : Nat × AV), ps[i]? = some p → qs[i]? = some q → p.1 = q.1 ∧ RV C ρ τ p.2 q.2) → (k + ps.length) * sz ≤ cs.size → partsAV sz k qs = some l →
    ∃ cs', Instr.fill (fun i => some (i * sz, sz)) cs ps = some cs' ∧ cs'.size = cs.size ∧ l.length = ps.length ∧ (∀ i, i < k * sz → cs'[i]? = cs[i]?) ∧
      (∀ (m : Nat) (x : List AV), l[m]? = some x → x.length = sz ∧ (∀ (j : Nat) (y : AV), x[j]? = some y → ∃ u, cs'[(k + m) * sz + j]? = some u ∧ RV C noρ noτ u y ∧ u.oneCell' = true))
  | [], [], k, cs, l, _, _, _, he => by
    simp only [partsAV, Option.some.injEq] at he
    subst he
    exact ⟨cs, rfl, rfl, rfl, fun _ _ => rfl, fun m x hx => by simp at hx⟩
  | [], _ :: _, _, _, _, hl, _, _, _ => by simp at hl
  | _ :: _, [], _, _, _, hl, _, _, _ => by simp at hl
  | (i, v) :: ps, (i', x) :: qs, k, cs, l, hl, hpq, hfit, he => by
    obtain ⟨e1, e2⟩ := hpq 0 (i, v) (i', x) rfl rfl
    simp only at e1 e2
    subst e1
    unfold partsAV at he
    split at he
    case h_2 => cases he
    rename_i c hc
    split at he
    case isFalse => cases he
    rename_i hcond
    obtain ⟨hik, hcl, hcln⟩ := hcond
    subst hik
    obtain ⟨l2, hl2, rfl⟩ := Option.map_eq_some_iff.1 he
    obtain ⟨g1, g2, g3⟩ := cells_rv e2 hc
    obtain ⟨f1, f2⟩ := fold_set v.cells (i * sz) cs
    have hsz : v.cells.size = sz := by omega
    simp only [List.length_cons] at hfit hl
    have hfit1 : (i + 1) * sz ≤ cs.size := Nat.le_trans (Nat.mul_le_mul_right _ (by omega)) hfit
    have hs1 : (i + 1) * sz = i * sz + sz := by rw [Nat.add_mul, Nat.one_mul]
    have hle : ¬ (cs.size < i * sz + sz) := by omega
    obtain ⟨cs', q1, q2, q3, q4, q5⟩ := fill_parts (sz := sz) ps qs (i + 1) (v.cells.zipIdx.foldl (fun cs (c, j) => cs.setIfInBounds (i * sz + j) c) cs) l2 (by omega)
      (fun m p q hp hq => hpq (m + 1) p q (by simpa using hp) (by simpa using hq)) (by rw [f1]; rw [show i + 1 + ps.length = i + (ps.length + 1) by omega]; exact hfit) hl2
    refine ⟨cs', ?_, by rw [q2, f1], by simp [q3], ?_, ?_⟩
    · simp only [Instr.fill, hsz, ne_eq, not_true_eq_false, decide_false, Bool.false_or, gt_iff_lt, hle, Bool.false_eq_true, if_false]
      exact q1
    · intro m hm
      rw [q4 m (by omega), f2 m, if_neg (by omega)]
    · intro m y hy
      cases m with
      | zero =>
        simp only [List.getElem?_cons_zero, Option.some.injEq] at hy
        subst hy
        refine ⟨by simp [hcl], fun j z hz => ?_⟩
        simp only [List.getElem?_map] at hz
        obtain ⟨z', hz', rfl⟩ := Option.map_eq_some_iff.1 hz
        have hj : j < sz := by rw [← hcl]; exact (List.getElem?_eq_some_iff.1 hz').1
        have hj2 : j < v.cells.size := by omega
        refine ⟨v.cells[j], ?_, clean_rv (fgt_rv (g2 j _ _ (by simp [hj2]) hz')) (List.all_eq_true.1 hcln z' (List.mem_of_getElem? hz')), g3 j _ (by simp [hj2])⟩
        rw [Nat.add_zero, q4 _ (by omega), f2, if_pos (by omega)]
        rw [show i * sz + j - i * sz = j by omega]
        simp [hj2]
      | succ m =>
        simp only [List.getElem?_cons_succ] at hy
        obtain ⟨r1, r2⟩ := q5 m y hy
        refine ⟨r1, fun j z hz => ?_⟩
        have := r2 j z hz
        rwa [show i + 1 + m = i + (m + 1) by omega] at this

theorem zvals_elim {t : TypeId} {n : Nat} (h : (zvals P t).map (·.length) = some n) : ∃ i z, P.info? t = some i ∧ i.zero = some z ∧ z.cells.size = n := by
  obtain ⟨vs, hvs, rfl⟩ := Option.map_eq_some_iff.1 h
  unfold zvals at hvs
  cases hi : P.info? t with
  | none => rw [hi] at hvs; simp at hvs
  | some i =>
    rw [hi] at hvs
    cases hz : i.zero with
    | none => simp [hz] at hvs
    | some z =>
      simp [hz] at hvs
      obtain ⟨_, rfl⟩ := hvs
      exact ⟨i, z, rfl, hz, by simp⟩

theorem ev_buildSlice {t : TypeId} {n : Nat} {ps : Array (Nat × Operand)} (h : RepG N w0 C0 E s a w C ρ τ) (hN : ∀ d, o.dst = some d → d < N) (ho : o.op = .buildSlice t n ps) (he : ev P s o = some e) : Done N w0 C0 E P o a w (s.app o.dst e) := by
  simp only [ev, ho] at he
  split at he
  case isFalse => cases he
  rename_i hcond
  obtain ⟨hsl, hn, hbig, hz⟩ := hcond
  obtain ⟨l, hl, rfl⟩ := Option.map_eq_some_iff.1 he
  obtain ⟨el, hu, hi, hpos, hez, _⟩ := slT_elim hsl
  simp only [elT, hu] at hz
  obtain ⟨ie, z, hie, hzz, hzs⟩ := zvals_elim hz
  generalize esz P t = sz at *
  have hse : (sizeOf el).run P w = .ok sz w := by rw [run_size hi w, hez]
  generalize hT : (Array.range (n * sz)).map (fun i => z.cells[i % z.cells.size]!) = T
  have hTs : T.size = n * sz := by rw [← hT]; simp
  obtain ⟨cs, f1, f2, f3, _, f5⟩ := fill_parts (C := C) (ρ := ρ) (τ := τ) (sz := sz) (ps.toList.map fun p => (p.1, a.eval p.2)) _ 0 T l (by simp) (fun i p q hp hq => parts_rv h (ptype P t) ps.toList i p q hp hq)
    (by simp only [List.length_map, Array.length_toList, Nat.zero_add]; rw [hTs, ← hn]; exact Nat.le_refl _) hl
  have hrun : (execOp a.eval o).run P w = .ok (.value (.slice (some ⟨w.heap.size, 0, none⟩) n n)) (w.alloc (.cells cs el)) := by
    have e1 : (ps.map fun (i, x) => (i, a.eval x)).toList = ps.toList.map fun p => (p.1, a.eval p.2) := by simp
    have hbig' : ¬ (16777216 < n * sz) := by omega
    by_cases h0 : n * sz = 0
    · have hT0 : T = #[] := by apply Array.eq_empty_of_size_eq_zero; omega
      rw [hT0] at f1
      have e0 : (Array.map (fun _ => (default : Value)) (Array.range 0)) = #[] := by simp
      simp [execOp, ho, Instr.buildSlice, run_underlying hu, hse, h0, newRow]
      rw [e0, f1]
      simp
    · have hT' : (Array.range (n * sz)).map (fun i => z.cells[i % z.cells.size]!) = T := hT
      simp [execOp, ho, Instr.buildSlice, run_underlying hu, hse, hbig', h0, zeroValue, typeInfo, hie, hzz, newRow] at hT' ⊢
      rw [hT', f1]
      simp
  have hln : l.length = n := by rw [f3]; simp [hn]
  have hmax : n ≤ maxLen := by
    have : n ≤ n * sz := Nat.le_mul_of_pos_right _ (by omega)
    simp only [maxLen]; omega
  have key := h.newrow (o.dst.getD 0) el (cs := cs) (sz := sz) (n := n) (c := n) (xs := l) (by omega) hln (Nat.le_refl _) hmax (fun i x hx => (f5 i x hx).1)
    (fun i x j y hx hy => by obtain ⟨u, hu, hr, _⟩ := (f5 i x hx).2 j y hy; rw [Nat.zero_add] at hu; exact ⟨u, hu, hr⟩)
    (fun i u hi hu => by
      have h1 : i / sz < l.length := by rw [hln]; exact div_lt hi
      have h2 : i % sz < sz := Nat.mod_lt _ (by omega)
      obtain ⟨q1, q2⟩ := f5 (i / sz) l[i / sz] (by simp [h1])
      obtain ⟨u', hu', _, hu1⟩ := q2 (i % sz) (l[i / sz][i % sz]'(by omega)) (by simp)
      rw [Nat.zero_add, div_idx, hu] at hu'
      cases hu'
      exact hu1)
  obtain ⟨C', τ', k1, k2⟩ := key
  cases hd : o.dst with
  | none =>
    refine ⟨_, _, .inl hrun, C, ρ, τ, ?_⟩
    rw [hd]
    simp only [St.app, sto]
    exact h.same (below_new w _)
  | some d =>
    rw [hd] at k1 k2
    refine ⟨_, _, .inl hrun, C', ρ, τ', ?_⟩
    rw [hd, app_tok]
    exact k1.set d (hN d hd) k2

/-! ### make -/
theorem flatten_get {z : List AV} {n q : Nat} : ∀ (y : AV), (List.replicate n z).flatten[q]? = some y → z[q % z.length]? = some y := by
  induction n generalizing q with
  | zero => intro y hy; simp at hy
  | succ n ih =>
    intro y hy
    rw [List.replicate_succ, List.flatten_cons] at hy
    by_cases hq : q < z.length
    · rw [List.getElem?_append_left hq] at hy
      rwa [Nat.mod_eq_of_lt hq]
    · rw [List.getElem?_append_right (by omega)] at hy
      have := ih y hy
      rwa [← Nat.mod_eq_sub_mod (by omega)] at this

theorem ev_makeSlice {t : TypeId} {x y : Operand} (h : RepG N w0 C0 E s a w C ρ τ) (hN : ∀ d, o.dst = some d → d < N) (ho : o.op = .makeSlice t x y) (he : ev P s o = some e) : Done N w0 C0 E P o a w (s.app o.dst e) := by
  simp only [ev, ho] at he
  split at he
  case h_2 => cases he
  rename_i n m h1 h2
  split at he
  case isFalse => cases he
  rename_i hcond
  obtain ⟨hsl, hnm, hn0, hby, hmx⟩ := hcond
  subst hnm
  split at he
  case h_2 => cases he
  rename_i z hz
  split at he
  case isFalse => cases he
  rename_i hzl
  cases he
  have c1 := opnd (P := P) h 0 x
  have c2 := opnd (P := P) h 0 y
  rw [h1] at c1
  rw [h2] at c2
  have e1 := (rv_v c1).1
  have e2 := (rv_v c2).1
  obtain ⟨el, hu, hi, hpos, hez, heb⟩ := slT_elim hsl
  simp only [elT, hu] at hz
  obtain ⟨ie, zv, hie, hzv, hzs, hz1, hz2⟩ := zav_elim hz
  have hbe : ie.bytes = P.bytesOf el := by simp [Program.bytesOf, hie]
  have hse : ie.size = P.cellsOf el := by simp [Program.cellsOf, hie]
  have hmk := run_make (P := P) w t el ie zv hu hie hzv .i64 .i64 n n hn0 (Int.le_refl _) (by rw [hbe, ← heb, Int.mul_comm]; omega) hmx
  have hrun : (execOp a.eval o).run P w = .ok (.value (.slice (some ⟨w.heap.size, 0, none⟩) n.toNat n.toNat)) (w.alloc (.cells (madeCells zv.cells (n.toNat * ie.size)) el)) := by
    simp [execOp, ho, e1, e2, hmk]
  have hzz : zv.cells.size = ie.size := by omega
  have hcs : (madeCells zv.cells (n.toNat * ie.size)).size = (List.replicate n.toNat z).flatten.length := by
    rw [size_madeCells, ← hzz, hzs]
    simp [List.length_flatten]
  have hget : ∀ (i : Nat) (v : Value), (madeCells zv.cells (n.toNat * ie.size))[i]? = some v → zv.cells[i % zv.cells.size]? = some v := by
    intro i v hv
    have hi : i < n.toNat * ie.size := by have := (Array.getElem?_eq_some_iff.1 hv).1; rwa [size_madeCells] at this
    have hm : i % zv.cells.size < zv.cells.size := Nat.mod_lt _ (by omega)
    simp [madeCells, hi, hm] at hv
    simp [hm, hv]
  have hpost := done_nb (x := .sl (o.dst.getD 0, s.g (o.dst.getD 0), 0) n.toNat (esz P t)) h hN hrun hcs (fun i v hv => hz1 _ _ (hget i v hv))
    (fun i v y hv hy => hz2 C ρ τ _ _ _ (hget i v hv) (by rw [hzs]; exact flatten_get y hy)) (fun ρ' hρ' => .sl _ _ _ _ _ hρ' (Nat.le_refl _) (by simp only [maxLen]; omega))
  exact hpost

end Go.Sy
