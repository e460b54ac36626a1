/- append, joined. -/
import Derived.Test.YtkhheblmgbiniaaB1
namespace Go.Sy
open Go Go.RowKit

variable {N : Nat} {w0 : World} {C0 : CMap} {E : EX} {s : St} {a : Act} {w : World} {C : CMap} {ρ : RMap} {τ : TMap} {P : Program} {o : Oper} {e : Eff}

def killO (f : Key → Bool) : Option Key → Key → Bool
  | none => f
  | some k => upd f k true

theorem RepG.killO (h : RepG N w0 C0 E s a w C ρ τ) (kl : Option Key) : RepG N w0 C0 E { s with d := killO s.d kl } a w C ρ τ := by
  cases kl with
  | none => exact h
  | some k => exact h.kill k

theorem app_tok' (s : St) (d : Nat) (v : AV) (kl : Option Key) : s.app (some d) { v := v, nt := 1, kl := kl } =
    St.set { s with d := upd (killO s.d kl) (d, s.g d, 0) false, g := upd s.g d (s.g d + 1) } d v := by
  cases kl <;> simp [St.app, St.set, sto, crt_one, Sy.killO]

theorem killO_ne {f : Key → Bool} {kl : Option Key} {k : Key} (h : killO f kl k = false) : f k = false ∧ kl ≠ some k := by
  cases kl with
  | none => exact ⟨h, by simp⟩
  | some k' =>
    simp only [killO, upd_at] at h
    split at h
    · cases h
    · rename_i hne
      exact ⟨h, fun e => hne (by cases e; rfl)⟩

/-- What a token says of its value, live or nil. -/
theorem tok_info (h : RepG N w0 C0 E s a w C ρ τ) {v : Value} {sz : Nat} {tk : Tok} (ht : TokV τ v sz tk) (hok : tokOK s tk = true) :
    TokW C w v sz (fun b => (w0.heap.size ≤ b ∨ E b) ∧ ∀ k' B, s.b k' = some B → ρ k' ≠ some b) ∧
    (∀ k' v' n' b, τ k' = some (v', n') → killO s.d (tokKey tk) k' = false → blk v = some b → blk v' ≠ some b) := by
  cases tk with
  | no => simp [tokOK] at hok
  | nil =>
    obtain ⟨A, rfl⟩ := ht
    refine ⟨⟨A, 0, 0, rfl, .inl rfl⟩, ?_⟩
    intro k' v' n' b _ _ hb
    exact absurd rfl (blk_cap hb).1
  | own k =>
    simp only [tokOK, Bool.not_eq_true'] at hok
    refine ⟨h.tk k v sz ht hok, ?_⟩
    intro k' v' n' b hk' hd hb hb'
    obtain ⟨hd, hne⟩ := killO_ne hd
    exact hne (by simp only [tokKey]; rw [h.tj k k' _ _ _ _ b ht hk' hok hd hb hb'])

theorem done_tok {sz : Nat} {xs : List (List AV)} {kl : Option Key} {v : Value} {w' : World} {d : Nat} (hd : o.dst = some d) (hN : ∀ d, o.dst = some d → d < N)
    (hr : (execOp a.eval o).run P w = .ok (.value v) w')
    (key : ∃ C' ρ' τ', RepG N w0 C0 E { s with d := upd (killO s.d kl) (d, s.g d, 0) false, g := upd s.g d (s.g d + 1) } a w' C' ρ' τ' ∧ RV C' ρ' τ' v (.list sz xs (.own (d, s.g d, 0)))) :
    Done N w0 C0 E P o a w (s.app o.dst { v := .list sz xs (.own (d, s.g d, 0)), nt := 1, kl := kl }) := by
  obtain ⟨C', ρ', τ', k1, k2⟩ := key
  refine ⟨_, _, .inl hr, C', ρ', τ', ?_⟩
  rw [hd, app_tok']
  exact k1.set d (hN d hd) k2

theorem app_get {xs ys : List (List AV)} {i : Nat} {x : List AV} (h : (xs ++ ys)[i]? = some x) : (i < xs.length ∧ xs[i]? = some x) ∨ (xs.length ≤ i ∧ ys[i - xs.length]? = some x) := by
  rcases Nat.lt_or_ge i xs.length with hi | hi
  · rw [List.getElem?_append_left hi] at h; exact .inl ⟨hi, h⟩
  · rw [List.getElem?_append_right hi] at h; exact .inr ⟨hi, h⟩

theorem ev_append {args : Array Operand} {ts : Array TypeId} (h : RepG N w0 C0 E s a w C ρ τ) (hN : ∀ d, o.dst = some d → d < N) (ho : o.op = .call { callee := .builtin .append, args := args, argTypes := ts }) (he : ev P s o = some e) : Done N w0 C0 E P o a w (s.app o.dst e) := by
  simp only [ev, ho] at he
  split at he
  case h_2 => cases he
  rename_i x y t t' hx ht
  have hargs : args = #[x, y] := by apply Array.ext'; simpa using hx
  have hts : ts = #[t, t'] := by apply Array.ext'; simpa using ht
  subst hargs hts
  clear hx ht
  split at he
  case h_2 => cases he
  rename_i sz xs tk sz' ys tk' hlx hly
  split at he
  case isFalse => cases he
  rename_i hcond
  obtain ⟨hds, hsl, htt, hsz, hsz', htok, hbytes, hz, hmx⟩ := hcond
  cases he
  obtain ⟨d, hd⟩ := Option.isSome_iff_exists.1 hds
  rw [show o.dst.getD 0 = d by rw [hd]; rfl]
  subst htt hsz'
  have c1 := opnd (P := P) h t x
  have c2 := opnd (P := P) h t y
  rw [hlx] at c1
  rw [hly] at c2
  obtain ⟨el, hu, hi, hpos, hez, heb⟩ := slT_elim hsl
  simp only [elT, hu] at hz
  obtain ⟨ie, z, hie, hzz, hzs⟩ := zvals_elim hz
  rw [← hsz] at hez hzs
  have hpos' : 0 < sz' := by omega
  have hisz : ie.size = sz' := by rw [hez]; simp [Program.cellsOf, hie]
  have hiby : ie.bytes = ebytes P t := by rw [heb]; simp [Program.bytesOf, hie]
  obtain ⟨A, c, cv1, hx, hnc, hcm, hcell1, hrv1, htk1⟩ := rv_list c1
  obtain ⟨B, c2', cv2, hy, hnc2, hcm2, hcell2, hrv2, htk2⟩ := rv_list c2
  rw [hx] at htk1
  obtain ⟨l1, l2, l3⟩ := list_cells h hpos' hcell1
  obtain ⟨m1, m2, m3⟩ := list_cells h hpos' hcell2
  obtain ⟨tw, tn⟩ := tok_info h htk1 htok
  have hexec : ∀ {v : Value} {w' : World}, (Builtin.append_ #[t, t] o.type #[.slice A xs.length c, .slice B ys.length c2']).run P w = .ok v w' → (execOp a.eval o).run P w = .ok (.value v) w' := by
    intro v w' hr
    simp only [execOp, ho, resolve, invoke, builtin, Sem.run_bind, Sem.run_pure, Result.andThen_ok, List.map_toArray, List.map_cons, List.map_nil, hx, hy, hr]
  have hk := h.killO (tokKey tk)
  by_cases hm : ys.length = 0
  · -- nothing is appended
    have hys : ys = [] := List.eq_nil_of_length_eq_zero hm
    subst hys
    have hr : (Builtin.append_ #[t, t] o.type #[.slice A xs.length c, .slice B 0 c2']).run P w = .ok (.slice A xs.length c) w := by
      cases A <;> cases B <;> simp [Builtin.append_, run_underlying hu, sizeOf, typeInfo, hie, Builtin.lenOf, Builtin.firstCells, loadCells, loadCellsFrom, hnc, storeCells]
    refine done_tok hd hN (hexec hr) ?_
    refine ⟨C, ρ, _, hk.addtok (d, s.g d, 0) (Nat.le_refl _) (v := .slice A xs.length c) (n := sz') tw tn, ?_⟩
    rw [List.append_nil]
    refine .list _ _ _ _ _ _ cv1 rfl hnc hcm hcell1 hrv1 (by simp [TokV, upd])
  · obtain ⟨b2, o2, hB⟩ := m3 hm
    subst hB
    have hnews := m1 _ rfl
    have hnl : (flatCells ys.length sz' cv2).length = ys.length * ie.size := by rw [flatCells_length, hisz]
    by_cases hroom : xs.length + ys.length ≤ c
    · -- in place
      cases tk with
      | no => simp [tokOK] at htok
      | nil =>
        obtain ⟨A', hA'⟩ := htk1
        simp only [Value.slice.injEq] at hA'
        omega
      | own k =>
        simp only [tokOK, Bool.not_eq_true'] at htok
        obtain ⟨A', n', c', hv', htw⟩ := tw
        cases hv'
        rcases htw with htw | ⟨b, cs, ty, hA, g2, g3, g4, g5, g6, g7⟩
        · omega
        · subst hA
          have hfit : xs.length * sz' + (flatCells ys.length sz' cv2).length ≤ cs.size := by
            rw [flatCells_length, g3, ← Nat.add_mul]
            exact Nat.mul_le_mul_right _ hroom
          have hr := run_append_room' (P := P) w t o.type el ty ie hu hie b xs.length c cs g2 ⟨b2, o2, none⟩ ys.length c2' _ hnl hnews m2 hroom (by rw [hisz]; exact hfit)
          rw [hisz] at hr
          refine done_tok hd hN (hexec hr) ?_
          have k1 := h.inplace htk1 htok (by omega) g2 g6 g7 _ m2 hfit
          have k2 := k1.addtok (d, s.g d, 0) (Nat.le_refl _) (v := .slice (some ⟨b, 0, none⟩) (xs.length + ys.length) c) (n := sz')
            ⟨_, _, _, rfl, .inr ⟨b, _, ty, rfl, setRow_heap w b cs _ ty (0, 0) g2, by
              simp only [List.size_toArray, List.length_append, List.length_take, List.length_drop, Array.length_toList]
              omega, hroom, g5, fun q hq => by
                dsimp only
                rw [flatCells_length]
                rw [if_neg (by rw [Nat.add_mul] at hq; omega)]
                exact g6 q (Nat.le_trans (Nat.mul_le_mul_right _ (by omega)) hq), g7⟩⟩
            (fun k' v' n' b' hk' hd' hb' => tn k' v' n' b' hk' hd' (by simpa [blk] using hb'))
          refine ⟨_, _, _, k2, .list _ _ _ _ _ _ (fun i j => if i < xs.length then cv1 i j else cv2 (i - xs.length) j) (by simp) hroom hcm ?_ ?_ (by simp [TokV, upd])⟩
          · intro i x hxi
            rcases app_get hxi with ⟨hi, hxi⟩ | ⟨hi, hxi⟩
            · obtain ⟨q1, b', o', hbo, q2⟩ := hcell1 i x hxi
              cases hbo
              refine ⟨q1, b, 0, rfl, fun j hj => ?_⟩
              rw [if_pos hi]
              have := two_idx hi hj
              rw [if_neg (by omega)]
              exact q2 j hj
            · obtain ⟨q1, b', o', hbo, q2⟩ := hcell2 _ x hxi
              refine ⟨q1, b, 0, rfl, fun j hj => ?_⟩
              rw [if_neg (show ¬ i < xs.length by omega)]
              have hlt : i - xs.length < ys.length := (List.getElem?_eq_some_iff.1 hxi).1
              have e1 : 0 + i * sz' + j = xs.length * sz' + ((i - xs.length) * sz' + j) := by
                rw [← Nat.add_assoc, ← Nat.add_mul, show xs.length + (i - xs.length) = i by omega, Nat.zero_add]
              have e2 := two_idx hlt hj
              rw [e1, flatCells_length, if_pos ⟨rfl, by omega, by omega⟩, show xs.length * sz' + ((i - xs.length) * sz' + j) - xs.length * sz' = (i - xs.length) * sz' + j by omega]
              exact flatCells_get hlt hj
          · intro i x j y hxi hxj
            have cm : ∀ b' o v, C b' o = some v → (if b' = b ∧ xs.length * sz' ≤ o ∧ o < xs.length * sz' + (flatCells ys.length sz' cv2).length then (flatCells ys.length sz' cv2)[o - xs.length * sz']? else C b' o) = some v := by
              intro b' o v hv
              rw [if_neg]
              · exact hv
              · rintro ⟨rfl, ho, _⟩
                rw [g6 o ho] at hv
                cases hv
            rcases app_get hxi with ⟨hi, hxi⟩ | ⟨hi, hxi⟩
            · rw [if_pos hi]
              exact (hrv1 i x j y hxi hxj).mono cm (fun _ _ h => h) (fun _ _ h => h)
            · rw [if_neg (by omega)]
              exact (hrv2 _ x j y hxi hxj).mono cm (fun _ _ h => h) (fun _ _ h => h)
    · -- a new block
      have hol : (flatCells xs.length sz' cv1).length = xs.length * ie.size := by rw [flatCells_length, hisz]
      have hge := grownCap_ge w (xs.length + ys.length) c el
      have hcap : grownCap w (xs.length + ys.length) c el ≤ maxLen := grownCap_le_maxLen w (xs.length + ys.length) c el (by simp only [maxLen]; omega)
      have hr : (Builtin.append_ #[t, t] o.type #[.slice A xs.length c, .slice (some ⟨b2, o2, none⟩) ys.length c2']).run P w =
          .ok (.slice (some ⟨w.heap.size, 0, none⟩) (xs.length + ys.length) (grownCap w (xs.length + ys.length) c el))
            (w.drew.alloc (.cells ((flatCells xs.length sz' cv1).toArray ++ (flatCells ys.length sz' cv2).toArray ++ Builtin.zeroCells z.cells (grownCap w (xs.length + ys.length) c el - (xs.length + ys.length))) el)) := by
        cases A with
        | some ad =>
          exact run_append_grow (P := P) w t o.type el ie z hu hie hzz ad xs.length c _ hol (l1 _ rfl) ⟨b2, o2, none⟩ ys.length c2' _ hnl hnews (by omega) (by omega) (growslice_fits (by omega) (by rw [hiby]; exact hbytes))
        | none =>
          have h0 : xs.length = 0 := by
            rcases Nat.eq_zero_or_pos xs.length with h0 | h0
            · exact h0
            · obtain ⟨b, o', hbo⟩ := l3 (by omega); cases hbo
          have hc0 : c = 0 := by
            cases tk with
            | no => simp [tokOK] at htok
            | nil => obtain ⟨A', hA'⟩ := htk1; simp only [Value.slice.injEq] at hA'; exact hA'.2.2
            | own k =>
              obtain ⟨A', n', c', hv', htw⟩ := tw
              cases hv'
              rcases htw with htw | ⟨b, cs, ty, hA, _⟩
              · exact htw
              · cases hA
          have hx0 : xs = [] := List.eq_nil_of_length_eq_zero h0
          subst hx0 hc0
          have := run_append_nil (P := P) w t o.type el ie z hu hie hzz ⟨b2, o2, none⟩ ys.length c2' _ hnl hnews (by omega) (by omega) (by rw [hiby]; simp only [List.length_nil, Nat.zero_add] at hbytes; omega)
          simpa [flatCells] using this
      refine done_tok hd hN (hexec hr) ?_
      have kd := hk.same (w1 := w.drew) (Below.refl _ w).drew
      have key := kd.newrow d el (cs := (flatCells xs.length sz' cv1).toArray ++ (flatCells ys.length sz' cv2).toArray ++ Builtin.zeroCells z.cells (grownCap w (xs.length + ys.length) c el - (xs.length + ys.length))) (sz := sz') (n := xs.length + ys.length)
        (c := grownCap w (xs.length + ys.length) c el) (xs := xs ++ ys) ?_ (by simp) hge hcap ?_ ?_ ?_
      · obtain ⟨C', τ', k1, k2⟩ := key
        exact ⟨C', ρ, τ', k1, k2⟩
      · simp only [Array.size_append, List.size_toArray, flatCells_length, size_zeroCells, hzs, ← Nat.add_mul]
        congr 1
        omega
      · intro i x hxi
        rcases app_get hxi with ⟨hi, hxi⟩ | ⟨hi, hxi⟩
        · exact (hcell1 i x hxi).1
        · exact (hcell2 _ x hxi).1
      · intro i x j y hxi hxj
        rcases app_get hxi with ⟨hi, hxi⟩ | ⟨hi, hxi⟩
        · have hj : j < sz' := by rw [← (hcell1 i x hxi).1]; exact (List.getElem?_eq_some_iff.1 hxj).1
          have := two_idx hi hj
          refine ⟨cv1 i j, ?_, hrv1 i x j y hxi hxj⟩
          rw [Array.append_assoc, Array.getElem?_append_left (by simp [flatCells_length]; exact this), List.getElem?_toArray]
          exact flatCells_get hi hj
        · have hj : j < sz' := by rw [← (hcell2 _ x hxi).1]; exact (List.getElem?_eq_some_iff.1 hxj).1
          have hlt : i - xs.length < ys.length := (List.getElem?_eq_some_iff.1 hxi).1
          have := two_idx hlt hj
          have e1 : i * sz' + j = xs.length * sz' + ((i - xs.length) * sz' + j) := by
            rw [← Nat.add_assoc, ← Nat.add_mul, show xs.length + (i - xs.length) = i by omega]
          refine ⟨cv2 (i - xs.length) j, ?_, hrv2 _ x j y hxi hxj⟩
          rw [Array.append_assoc, Array.getElem?_append_right (by simp [flatCells_length]; omega), Array.getElem?_append_left (by simp [flatCells_length]; omega), List.getElem?_toArray]
          simp only [List.size_toArray, flatCells_length]
          rw [show i * sz' + j - xs.length * sz' = (i - xs.length) * sz' + j by omega]
          exact flatCells_get hlt hj
      · intro i u hi hu
        rw [Nat.add_mul] at hi
        by_cases hi1 : i < xs.length * sz'
        · rw [Array.append_assoc, Array.getElem?_append_left (by simp [flatCells_length]; exact hi1), List.getElem?_toArray] at hu
          exact l2 u (List.mem_of_getElem? hu)
        · rw [Array.append_assoc, Array.getElem?_append_right (by simp [flatCells_length]; omega), Array.getElem?_append_left (by simp [flatCells_length]; omega), List.getElem?_toArray] at hu
          exact m2 u (List.mem_of_getElem? hu)

end Go.Sy
