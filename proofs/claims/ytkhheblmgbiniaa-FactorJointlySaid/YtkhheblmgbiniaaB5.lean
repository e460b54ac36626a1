/- A function's contract out of its code. -/
import Derived.Test.YtkhheblmgbiniaaB4
namespace Go.Sy
open Go Go.RowKit

variable {N : Nat} {w0 : World} {C0 : CMap} {E : EX} {s : St} {a : Act} {w : World} {C : CMap} {ρ : RMap} {τ : TMap} {P : Program} {o : Oper} {e : Eff}

def resAV1 (P : Program) (s : St) : ResultVar → Option AV
  | .tmp t => some (s.t t)
  | .cell a t => match s.t a with
    | .box k off => match s.b k with
      | some B => if off < B.c.length then rdAV P t (B.c.drop off) else none
      | none => none
    | _ => none
def resAV (P : Program) (s : St) : List ResultVar → Option (List AV)
  | [] => some []
  | r :: rs => match resAV1 P s r, resAV P s rs with
    | some x, some xs => some (x :: xs)
    | _, _ => none

def one : List AV → AV
  | [x] => x
  | l => .tup l

/-- What a value handed back comes to behind the call. -/
def fin0 (s : St) (x r : AV) : Prop := (clean (fgt x) = true ∧ r = fgt x) ∨
  (∃ k n sz ys B, x = .sl k n sz ∧ r = .list sz ys .no ∧ s.b k = some B ∧ B.c = ys.flatten ∧ ys.length = n ∧ (∀ y ∈ ys, y.length = sz) ∧ (∀ x ∈ B.c, clean x = true))
inductive fin1 (s : St) : AV → AV → Prop
  | one (x r : AV) (h : fin0 s x r) : fin1 s x r
  | agg (l m : List AV) (hl : l.length = m.length) (h : ∀ (i : Nat) (x r : AV), l[i]? = some x → m[i]? = some r → fin0 s x r) : fin1 s (.agg l) (.agg m)
inductive fin (s : St) : AV → AV → Prop
  | one (x r : AV) (h : fin1 s x r) : fin s x r
  | tup (l m : List AV) (hl : l.length = m.length) (h : ∀ (i : Nat) (x r : AV), l[i]? = some x → m[i]? = some r → fin1 s x r) : fin s (.tup l) (.tup m)

def retQ (P : Program) (rs : List ResultVar) (r : AV) : Exit → St → Prop
  | .ret, s | .normal, s => ∃ xs, resAV P s rs = some xs ∧ fin s (one xs) r
  | _, _ => False

def s0 (args : List AV) : St := { t := fun u => args.getD u .any, b := fun _ => none, d := fun _ => false, g := fun _ => 0 }

def resRun (a : Act) : ResultVar → Sem Value
  | .tmp t => pure (a.tmps.getD t undef)
  | .cell b t => do loadVar t (← asAddr (a.tmps.getD b undef))

theorem toks_none {C : CMap} {w : World} {B : Nat} : Toks C w noτ 0 B :=
  ⟨fun k x h => (by cases h), fun k v m h => (by cases h), fun k k' v v' m m' b h => (by cases h)⟩

theorem resAV1_run (h : RepG N w0 C0 E s a w C ρ τ) {r : ResultVar} {x : AV} (hx : resAV1 P s r = some x) :
    ∃ v, (resRun a r).run P w = .ok v w ∧ RV C ρ τ v x := by
  cases r with
  | tmp t =>
    simp only [resAV1, Option.some.injEq] at hx
    subst hx
    exact ⟨_, rfl, h.tm t⟩
  | cell b t =>
    simp only [resAV1] at hx
    have hb := h.tm b
    split at hx
    case h_2 => cases hx
    rename_i k off hk
    rw [hk] at hb
    split at hx
    case h_2 => cases hx
    rename_i B hB
    split at hx
    case isFalse => cases hx
    rename_i hoff
    obtain ⟨bb, hv, hρ⟩ := rv_box hb
    obtain ⟨cs, ty, g1, g2, g3, g4⟩ := box_cells h hB hρ
    have hcs : ∀ j, j < (B.c.drop off).length → cs[off + j]? = some (cs.getD (off + j) undef) := by
      intro j hj
      have : off + j < cs.size := by simp at hj; omega
      simp [this]
    obtain ⟨u, hu, hru⟩ := run_load_of (P := P) (C := C) (ρ := ρ) (τ := τ) (w := w) (b := bb) (o := off) (fun j => cs.getD (off + j) undef) hx
      (fun j hj => by simp only [World.cell?, g1]; exact hcs j hj)
      (fun j y hy => g4 (off + j) _ _ (hcs j (List.getElem?_eq_some_iff.1 hy).1) (by simpa using hy)) (fun j hj => g3 _ _ (hcs j hj))
    refine ⟨u, ?_, hru⟩
    simp [resRun, hv, asAddr, hu]

theorem resAV_run (h : RepG N w0 C0 E s a w C ρ τ) : ∀ (rs : List ResultVar) (xs : List AV), resAV P s rs = some xs →
    ∃ vs, (rs.mapM (resRun a)).run P w = .ok vs w ∧ vs.length = xs.length ∧
      (∀ (i : Nat) (v : Value) (x : AV), vs[i]? = some v → xs[i]? = some x → RV C ρ τ v x)
  | [], xs, hx => by
    simp only [resAV, Option.some.injEq] at hx
    subst hx
    exact ⟨[], by simp, rfl, fun i v x hv => by simp at hv⟩
  | r :: rs, xs, hx => by
    unfold resAV at hx
    split at hx
    case h_2 => cases hx
    rename_i x xs' h1 h2
    cases hx
    obtain ⟨v, hv, hr⟩ := resAV1_run h h1
    obtain ⟨vs, hvs, hl, hrs⟩ := resAV_run h rs xs' h2
    refine ⟨v :: vs, ?_, by simp [hl], ?_⟩
    · rw [List.mapM_cons]
      simp only [Sem.run_bind, hv, Result.andThen_ok, hvs, Sem.run_pure]
    · intro i u y hu hy
      cases i with
      | zero => simp at hu hy; subst hu hy; exact hr
      | succ i => exact hrs i u y (by simpa using hu) (by simpa using hy)

theorem results_run (h : RepG N w0 C0 E s a w C ρ τ) {fn : Func} {xs : List AV} (hx : resAV P s fn.results.toList = some xs) :
    ∃ v, (results fn a.tmps).run P w = .ok v w ∧ RV C ρ τ v (one xs) := by
  obtain ⟨vs, hvs, hl, hr⟩ := resAV_run h _ _ hx
  have hm : (fn.results.mapM (resRun a)).run P w = .ok vs.toArray w := by
    rw [Array.mapM_eq_mapM_toList]
    simp only [Sem.run_map, hvs]
    rfl
  have hres : (results fn a.tmps).run P w = .ok (if h : vs.toArray.size = 1 then vs.toArray[0] else .tuple vs.toArray) w := by
    have e : results fn a.tmps = (do let vs ← fn.results.mapM (resRun a); pure (if h : vs.size = 1 then vs[0] else .tuple vs)) := by
      unfold results
      congr 1
    rw [e, Sem.run_bind, hm]
    rfl
  refine ⟨_, hres, ?_⟩
  by_cases h1 : vs.length = 1
  · match vs, xs, hl, hr, h1 with
    | [v], [x], _, hr, _ => exact hr 0 v x rfl rfl
  · have : one xs = .tup xs := by
      match xs, hl with
      | [], _ => rfl
      | [x], hl => exact absurd hl h1
      | _ :: _ :: _, _ => rfl
    rw [this]
    simp only [List.size_toArray, h1, dite_false]
    exact .tup _ _ (by simpa using hl) (fun i v x hv hx => hr i v x (by simpa using hv) hx)

/-- All that never turns any more, once the call is over: its boxes too. -/
noncomputable def endC (C : CMap) (ρ : RMap) (s : St) (w : World) : CMap := fun b o => match C b o with
  | some v => some v
  | none => open Classical in if ∃ k B, s.b k = some B ∧ ρ k = some b then w.cell? ⟨b, o, none⟩ else none

theorem endC_ge (b o : Nat) (v : Value) (h : C b o = some v) : endC C ρ s w b o = some v := by simp [endC, h]
theorem endC_cases {b o : Nat} {v : Value} (h : endC C ρ s w b o = some v) : C b o = some v ∨ (∃ k B, s.b k = some B ∧ ρ k = some b) ∧ w.cell? ⟨b, o, none⟩ = some v := by
  unfold endC at h
  split at h
  · rename_i u hu; exact .inl (hu.trans h)
  · split at h
    · rename_i hk; exact .inr ⟨hk, h⟩
    · cases h
theorem endC_box (h : RepG N w0 C0 E s a w C ρ τ) {k : Key} {B : Box} {b : Nat} (hB : s.b k = some B) (hρ : ρ k = some b) {cs : Array Value} {ty : TypeId} (hh : w.heap[b]? = some (.cells cs ty (0, 0))) {o : Nat} {v : Value} (hv : cs[o]? = some v) :
    endC C ρ s w b o = some v := by
  have hcell : w.cell? ⟨b, o, none⟩ = some v := by simp only [World.cell?, hh]; exact hv
  cases hc : C b o with
  | some u =>
    have := (h.cw _ _ _ hc).1
    rw [hcell] at this
    cases this
    exact endC_ge _ _ _ hc
  | none =>
    simp only [endC, hc]
    rw [if_pos ⟨k, B, hB, hρ⟩]
    exact hcell

theorem flat_get {sz : Nat} : ∀ (ys : List (List AV)), (∀ y ∈ ys, y.length = sz) → ∀ (i j : Nat) (y : List AV) (x : AV), ys[i]? = some y → y[j]? = some x → ys.flatten[i * sz + j]? = some x
  | [], _, i, j, y, x, hy, _ => by simp at hy
  | z :: ys, hl, i, j, y, x, hy, hx => by
    have hz : z.length = sz := hl z (List.mem_cons_self ..)
    rw [List.flatten_cons]
    cases i with
    | zero =>
      simp at hy
      subst hy
      have hj : j < z.length := (List.getElem?_eq_some_iff.1 hx).1
      rw [Nat.zero_mul, Nat.zero_add, List.getElem?_append_left hj]
      exact hx
    | succ i =>
      have e : (i + 1) * sz + j = z.length + (i * sz + j) := by rw [hz, Nat.add_mul]; omega
      rw [e, List.getElem?_append_right (by omega), show z.length + (i * sz + j) - z.length = i * sz + j by omega]
      exact flat_get ys (fun y hy => hl y (List.mem_cons_of_mem _ hy)) i j y x (by simpa using hy) hx

theorem fin0_rv (h : RepG N w0 C0 E s a w C ρ τ) {v : Value} {x r : AV} (hv : RV C ρ τ v x) (hf : fin0 s x r) : RV (endC C ρ s w) noρ noτ v r := by
  rcases hf with ⟨hc, rfl⟩ | ⟨k, n, sz, ys, B, rfl, rfl, hB, hBc, hn, hys, hcl⟩
  · exact (clean_rv (fgt_rv hv) hc).mono endC_ge (fun _ _ h => h) (fun _ _ h => h)
  · obtain ⟨b, c, rfl, hρ, hnc, hcm⟩ := rv_sl hv
    obtain ⟨cs, ty, g1, g2, g3, g4⟩ := box_cells h hB hρ
    refine .list _ _ .no _ n c (fun i j => cs.getD (i * sz + j) undef) hn hnc hcm ?_ ?_ trivial
    · intro i y hy
      refine ⟨hys y (List.mem_of_getElem? hy), b, 0, rfl, fun j hj => ?_⟩
      have hlen : y.length = sz := hys y (List.mem_of_getElem? hy)
      have hx := flat_get ys hys i j y (y[j]'(by omega)) hy (by simp)
      rw [← hBc] at hx
      have hlt : i * sz + j < cs.size := by rw [g2]; exact (List.getElem?_eq_some_iff.1 hx).1
      refine endC_box h hB hρ g1 ?_
      rw [Nat.zero_add]
      simp [hlt]
    · intro i y j x hy hx
      have hx2 := flat_get ys hys i j y x hy hx
      rw [← hBc] at hx2
      have hlt : i * sz + j < cs.size := by rw [g2]; exact (List.getElem?_eq_some_iff.1 hx2).1
      have hu : cs[i * sz + j]? = some (cs.getD (i * sz + j) undef) := by simp [hlt]
      exact (clean_rv (g4 _ _ _ hu hx2) (hcl x (List.mem_of_getElem? hx2))).mono endC_ge (fun _ _ h => h) (fun _ _ h => h)

theorem fin1_rv (h : RepG N w0 C0 E s a w C ρ τ) {v : Value} {x r : AV} (hv : RV C ρ τ v x) (hf : fin1 s x r) : RV (endC C ρ s w) noρ noτ v r := by
  cases hf with
  | one _ _ hf => exact fin0_rv h hv hf
  | agg l m hl hf =>
    obtain ⟨cs, rfl, h1, h2, h3⟩ := rv_agg hv
    refine .agg _ _ (by omega) (fun i u y hu hy => ?_) h3
    have hi : i < l.length := by rw [hl]; exact (List.getElem?_eq_some_iff.1 hy).1
    exact fin0_rv h (h2 i u l[i] hu (by simp [hi])) (hf i l[i] y (by simp [hi]) hy)

theorem fin_rv (h : RepG N w0 C0 E s a w C ρ τ) {v : Value} {x r : AV} (hv : RV C ρ τ v x) (hf : fin s x r) : RV (endC C ρ s w) noρ noτ v r := by
  cases hf with
  | one _ _ hf => exact fin1_rv h hv hf
  | tup l m hl hf =>
    obtain ⟨cs, rfl, h1, h2⟩ := rv_tup hv
    refine .tup _ _ (by omega) (fun i u y hu hy => ?_)
    have hi : i < l.length := by rw [hl]; exact (List.getElem?_eq_some_iff.1 hy).1
    exact fin1_rv h (h2 i u l[i] hu (by simp [hi])) (hf i l[i] y (by simp [hi]) hy)

theorem s0_rep {args : List AV} {vs : Array Value} {w : World} (hC : CW C w) (hl : vs.size = args.length) (hv : ∀ (i : Nat) (v : Value) (x : AV), vs[i]? = some v → args[i]? = some x → RV C noρ noτ v x) (hN : args.length ≤ N) :
    RepG N w C EX.none (s0 args) { tmps := vs ++ Array.replicate (N - vs.size) undef, defers := [] } w C noρ noτ :=
  { df := rfl
    sz := by simp; omega
    tm := by
      intro t
      simp only [s0]
      by_cases ht : t < args.length
      · have h1 : t < vs.size := by omega
        rw [Array.getD_eq_getD_getElem?, Array.getElem?_append_left h1]
        simp only [List.getD, List.getElem?_eq_getElem ht, Option.getD_some, Array.getElem?_eq_getElem h1]
        exact hv t _ _ (by simp [h1]) (by simp [ht])
      · rw [List.getD, List.getElem?_eq_none (by omega)]
        exact .any _
    cw := hC
    c0 := fun _ _ _ h => h
    c1 := fun _ _ _ _ h => .inl h
    bx := fun k B h => by simp [s0] at h
    bj := fun k k' B B' b h => by simp [s0] at h
    tk := fun k v n h => by cases h
    tj := fun k k' v v' n n' b h => by cases h
    fρ := fun k b h => by cases h
    fτ := fun k b h => by cases h
    fo := fun k b h => by cases h
    fr := ⟨rfl, rfl, rfl, Nat.le_refl _, fun _ _ _ => rfl⟩ }

theorem con_of {D : List Ap → Array Oper → Bool} (hD : DOK P D) {X : Hints} {f : FuncId} {fn : Func} {c : Code} {rs : List ResultVar} {args : List AV} {r : AV} (hf : P.funcs[f]? = some fn) (hname : (fn.name == "runtime.NumGoroutine") = false) (hb : fn.body = some c)
    (hrs : fn.results.toList = rs) (hN : (dstOK fn.ntmps c && draws D X c && decide (args.length ≤ fn.ntmps)) = true) (h : acode P X c (retQ P rs r) (s0 args)) : Con P f args 0 r := by
  refine ⟨enters_of hf hname hb, ?_⟩
  intro C w vs hC hl hv
  rw [Bool.and_eq_true] at hN
  refine calls_of_wp hf hb (acode_sound (N := fn.ntmps) (w0 := w) (C0 := C) (E := EX.none) hD c _ _ _ _ _ hN.1 ?_ h ⟨C, noρ, noτ, s0_rep hC hl hv (of_decide_eq_true hN.2)⟩)
  intro e s' a' w' hq hr
  obtain ⟨C', ρ', τ', hr⟩ := hr
  have main : (∃ xs, resAV P s' rs = some xs ∧ fin s' (one xs) r) → a'.defers = [] ∧ ∃ v, (results fn a'.tmps).run P w' = .ok v w' ∧
      ∃ v1 C' τ', Ending.returned v = .returned v1 ∧ Below w.heap.size w w' ∧ (∀ b o v, C b o = some v → C' b o = some v) ∧ (∀ b o v, C' b o = some v → C b o = some v ∨ w.heap.size ≤ b) ∧
      CW C' w' ∧ RV C' noρ τ' v1 r ∧ Toks C' w' τ' 0 w.heap.size := by
    rintro ⟨xs, hxs, hfin⟩
    obtain ⟨v, hrun, hv⟩ := results_run (P := P) (fn := fn) hr (by rw [hrs]; exact hxs)
    refine ⟨hr.df, v, hrun, v, endC C' ρ' s' w', noτ, rfl, ⟨hr.fr.os, hr.fr.tape, hr.fr.output, hr.fr.size, fun k hk => hr.fr.block k hk id⟩, fun b o v h => endC_ge _ _ _ (hr.c0 _ _ _ h), ?_, ?_, fin_rv hr hv hfin, toks_none⟩
    · intro b o v h
      rcases endC_cases h with h | ⟨⟨k, B, hB, hρ⟩, _⟩
      · rcases Nat.lt_or_ge b w.heap.size with hlt | hge
        · exact (hr.c1 _ _ _ hlt h).imp_right fun h => h.elim
        · exact .inr hge
      · obtain ⟨b', hρ', _, hb'⟩ := hr.bx k B hB
        rw [hρ] at hρ'
        cases hρ'
        exact .inr (hb'.resolve_right id)
    · intro b o v h
      rcases endC_cases h with h | ⟨⟨k, B, hB, hρ⟩, hc⟩
      · exact hr.cw _ _ _ h
      · refine ⟨hc, ?_⟩
        obtain ⟨cs, ty, g1, g2, g3, g4⟩ := box_cells hr hB hρ
        simp only [World.cell?, g1] at hc
        exact g3 o v hc
  cases e with
  | ret => exact main hq
  | normal => exact main hq
  | _ => exact hq.elim

/-! ### Functions that turn their receiver -/
def s1 (args pre : List AV) (x : AV) : St :=
  { t := fun u => if u = 0 then .box (0, 0, 0) 0 else args.getD (u - 1) .any
    b := fun k => if k = (0, 0, 0) then some ⟨pre ++ [x], false⟩ else none
    d := fun _ => false
    g := fun u => if u = 0 then 1 else 0 }

def retE (P : Program) (rs : List ResultVar) (r : AV) (pre : List AV) (x : AV) : Exit → St → Prop
  | .ret, s | .normal, s => (∃ xs, resAV P s rs = some xs ∧ (r = .any ∨ (cleanV (fgtV (one xs)) = true ∧ r = fgtV (one xs)))) ∧
      ∃ y, s.b (0, 0, 0) = some ⟨pre ++ [y], false⟩ ∧ pre.all clean = true ∧ lastOK s y = true ∧ x = canonX y
  | _, _ => False

theorem s1_rep {args pre : List AV} {x : AV} {b : Nat} {τ : TMap} {vs : Array Value} {w : World} (hC : CW C w) (hB : BoxC C τ w b pre x) (hT : Tok1 C w τ (fun b' => b' ≠ b)) (hl : vs.size = args.length)
    (hv : ∀ (i : Nat) (v : Value) (x : AV), vs[i]? = some v → args[i]? = some x → RV C noρ noτ v x) (hN : args.length + 1 ≤ N) :
    RepG N w C ⟨fun i => i = b ∨ tb τ i, fun k => if k = (0, 0, 0) then some b else none⟩ (s1 args pre x)
      { tmps := (#[Value.pointer (some ⟨b, 0, none⟩)] ++ vs) ++ Array.replicate (N - (#[Value.pointer (some ⟨b, 0, none⟩)] ++ vs).size) undef, defers := [] } w C (fun k => if k = (0, 0, 0) then some b else none) τ := by
  have hk0 : ∀ k B, (s1 args pre x).b k = some B → k = (0, 0, 0) ∧ B = ⟨pre ++ [x], false⟩ := by
    intro k B h
    simp only [s1] at h
    split at h
    · cases h; exact ⟨by assumption, rfl⟩
    · cases h
  have hρ0 : ∀ (k : Key) (b' : Nat), (if k = (0, 0, 0) then some b else none) = some b' → k = (0, 0, 0) ∧ b' = b := by
    intro k b' h
    split at h
    · cases h; exact ⟨by assumption, rfl⟩
    · cases h
  exact
  { df := rfl
    sz := by simp; omega
    tm := by
      intro t
      cases t with
      | zero => simpa [s1, Array.getElem?_append] using RV.box (0, 0, 0) b 0 (if_pos rfl)
      | succ t =>
        simp only [s1, Nat.add_one_ne_zero, if_false, Nat.add_sub_cancel]
        by_cases ht : t < args.length
        · have h1 : t < vs.size := by omega
          have e : (#[Value.pointer (some ⟨b, 0, none⟩)] ++ vs ++ Array.replicate (N - (#[Value.pointer (some ⟨b, 0, none⟩)] ++ vs).size) undef).getD (t + 1) undef = vs[t] := by
            rw [Array.getD_eq_getD_getElem?, Array.getElem?_append_left (by simp; omega), Array.getElem?_append_right (by simp)]
            simp [h1]
          rw [e]
          simp only [List.getD, List.getElem?_eq_getElem ht, Option.getD_some]
          exact (hv t _ _ (by simp [h1]) (by simp [ht])).lift _ _
        · rw [List.getD, List.getElem?_eq_none (by omega)]
          exact .any _
    cw := hC
    c0 := fun _ _ _ h => h
    c1 := fun _ _ _ _ h => .inl h
    bx := by
      intro k B h
      obtain ⟨rfl, rfl⟩ := hk0 k B h
      obtain ⟨⟨cs, ty, g1, g2, g3, g4, g5⟩, g6⟩ := hB
      refine ⟨b, if_pos rfl, ⟨⟨cs, ty, g1, by simpa using g2, g3, ?_, fun hz => by cases hz⟩, fun _ => g6⟩, .inr (.inl rfl)⟩
      intro i u y hu hy
      rcases Nat.lt_or_ge i pre.length with hi | hi
      · rw [List.getElem?_append_left hi] at hy
        exact (g4 i u y hu hy).lift _ _
      · simp only [List.getElem?_append_right hi] at hy
        have : i = pre.length := by
          have := (List.getElem?_eq_some_iff.1 hy).1
          simp at this; omega
        subst this
        simp at hy
        subst hy
        exact (g5 u hu).mono (fun _ _ _ h => h) (fun _ _ h => by cases h) (fun _ _ h => h)
    bj := fun k k' B B' b' h h' _ _ => (hk0 k B h).1.trans (hk0 k' B' h').1.symm
    tk := by
      intro k v n hk _
      obtain ⟨A, n', c, rfl, gg⟩ := hT.w k v n hk
      refine ⟨A, n', c, rfl, ?_⟩
      rcases gg with gg | ⟨b', cs, ty, hA, q1, q2, q3, q4, q5, q6⟩
      · exact .inl gg
      · by_cases hc0 : c = 0
        · exact .inl hc0
        refine .inr ⟨b', cs, ty, hA, q1, q2, q3, q4, q5, .inr (.inr ?_), fun k2 B2 _ hh => q6 (hρ0 _ _ hh).2⟩
        have := hT.k _ _ hk
        subst this
        exact ⟨_, _, hk, by subst hA; simp [blk, hc0]⟩
    tj := fun k k' v v' n n' b' h h' _ _ _ _ => (hT.k _ _ h).trans (hT.k _ _ h').symm
    fρ := by
      intro k b' h
      obtain ⟨rfl, _⟩ := hρ0 _ _ h
      simp [s1]
    fτ := by
      intro k y h
      have := hT.k _ _ h
      subst this
      simp [s1]
    fo := fun k b' h => h
    fr := ⟨rfl, rfl, rfl, Nat.le_refl _, fun _ _ _ => rfl⟩ }

theorem econ_of {D : List Ap → Array Oper → Bool} (hD : DOK P D) {X : Hints} {f : FuncId} {fn : Func} {c : Code} {rs : List ResultVar} {args pre pre' : List AV} {x x' r : AV} (hf : P.funcs[f]? = some fn) (hname : (fn.name == "runtime.NumGoroutine") = false) (hb : fn.body = some c)
    (hrs : fn.results.toList = rs) (hN : (dstOK fn.ntmps c && draws D X c && decide (args.length + 1 ≤ fn.ntmps)) = true) (h : acode P X c (retE P rs r pre' x') (s1 args pre x)) : ECon P f args pre x r pre' x' := by
  refine ⟨enters_of hf hname hb, ?_⟩
  intro C w b τ vs hC hB hT hl hv
  rw [Bool.and_eq_true] at hN
  have hb0 : b < w.heap.size := by
    obtain ⟨⟨cs, ty, g1, _⟩, _⟩ := hB
    exact heap_lt g1
  refine calls_of_wp hf hb (acode_sound (N := fn.ntmps) (w0 := w) (C0 := C) (E := ⟨fun i => i = b ∨ tb τ i, fun k => if k = (0, 0, 0) then some b else none⟩) hD c _ _ _ _ _ hN.1 ?_ h ⟨C, _, τ, s1_rep hC hB hT hl hv (of_decide_eq_true hN.2)⟩)
  intro e s' a' w' hq hr
  obtain ⟨C', ρ', τ', hr⟩ := hr
  have main : ((∃ xs, resAV P s' rs = some xs ∧ (r = .any ∨ (cleanV (fgtV (one xs)) = true ∧ r = fgtV (one xs)))) ∧
      ∃ y, s'.b (0, 0, 0) = some ⟨pre' ++ [y], false⟩ ∧ pre'.all clean = true ∧ lastOK s' y = true ∧ x' = canonX y) → a'.defers = [] ∧ ∃ v, (results fn a'.tmps).run P w' = .ok v w' ∧
      ∃ v1 C' τ', Ending.returned v = .returned v1 ∧ Fr w (fun i => i = b ∨ tb τ i) w' ∧ (∀ b o v, C b o = some v → C' b o = some v) ∧
      (∀ b' o v, C' b' o = some v → C b' o = some v ∨ w.heap.size ≤ b' ∨ tb τ b') ∧ CW C' w' ∧ BoxC C' τ' w' b pre' x' ∧ Tok1 C' w' τ' (fun b' => b' ≠ b ∧ (w.heap.size ≤ b' ∨ tb τ b')) ∧ RV C' noρ noτ v1 r := by
    rintro ⟨⟨xs, hxs, hfin⟩, y, hy, hpre, hyo, rfl⟩
    obtain ⟨v, hrun, hv⟩ := results_run (P := P) (fn := fn) hr (by rw [hrs]; exact hxs)
    have hρ : ρ' (0, 0, 0) = some b := hr.fo (0, 0, 0) b (show (if ((0, 0, 0) : Key) = (0, 0, 0) then some b else none) = some b from if_pos rfl)
    obtain ⟨b', hρ', ⟨⟨cs, ty, g1, g2, g3, g4, _⟩, g6⟩, g7⟩ := hr.bx _ _ hy
    rw [hρ] at hρ'
    cases hρ'
    have hlt : pre'.length < cs.size := by rw [g2]; simp
    have hvy : RV C' ρ' τ' cs[pre'.length] y := g4 pre'.length _ y (by simp [hlt]) (by simp)
    let τ1 : TMap := fun k' => if k' = (0, 0, 0) then tkVal τ' cs[pre'.length] y else none
    have hτ1 : τ1 (0, 0, 0) = tkVal τ' cs[pre'.length] y := if_pos rfl
    have hτk : ∀ k v m, τ1 k = some (v, m) → k = (0, 0, 0) ∧ ((∃ A, v = .slice A 0 0) ∨ ∃ k', lastKey y = some k' ∧ τ' k' = some (v, m)) := by
      intro k v m hk
      by_cases hh : k = (0, 0, 0)
      · subst hh
        rw [hτ1] at hk
        exact ⟨rfl, tkVal_cases hvy hk⟩
      · simp only [τ1, if_neg hh] at hk; cases hk
    have hlive : ∀ k', lastKey y = some k' → s'.d k' = false := by
      intro k' hk'
      cases y with
      | list sz ys tk =>
        cases tk with
        | own k2 => simp [lastKey, tokKey] at hk'; subst hk'; simpa [lastOK] using hyo
        | _ => simp [lastKey, tokKey] at hk'
      | _ => simp [lastKey] at hk'
    refine ⟨hr.df, v, hrun, v, C', τ1, rfl, hr.fr, fun b o v h => hr.c0 _ _ _ h, ?_, hr.cw, ⟨⟨cs, ty, g1, by simpa using g2, g3, ?_, ?_⟩, g6 rfl⟩, ⟨fun k x hk => (hτk k x.1 x.2 hk).1, ?_⟩, ?_⟩
    · intro b' o v h
      rcases Nat.lt_or_ge b' w.heap.size with hlt | hge
      · rcases hr.c1 _ _ _ hlt h with hh | hh
        · exact .inl hh
        · rcases hh with hh | hh
          · subst hh
            rw [g6 rfl o] at h; cases h
          · exact .inr (.inr hh)
      · exact .inr (.inl hge)
    · intro i v z hv hz
      have hi := (List.getElem?_eq_some_iff.1 hz).1
      exact clean_rv (g4 i v z hv (by rw [List.getElem?_append_left hi]; exact hz)) (List.all_eq_true.1 hpre z (List.mem_of_getElem? hz))
    · intro v hv
      have hv' : v = cs[pre'.length] := by simp [hlt] at hv; exact hv.symm
      subst hv'
      exact canon_rv hvy hyo τ1 hτ1
    · intro k v m hk
      rcases (hτk _ _ _ hk).2 with ⟨A, rfl⟩ | ⟨k', h1, h2⟩
      · exact ⟨A, 0, 0, rfl, .inl rfl⟩
      obtain ⟨A, n, c, rfl, gg⟩ := hr.tk k' v m h2 (hlive _ h1)
      refine ⟨A, n, c, rfl, ?_⟩
      rcases gg with gg | ⟨b', cs', ty', hA, q1, q2, q3, q4, q5, q6, q7⟩
      · exact .inl gg
      · have hbb : b' ≠ b := fun hh => q7 _ _ hy (hh ▸ hρ)
        refine .inr ⟨b', cs', ty', hA, q1, q2, q3, q4, q5, hbb, ?_⟩
        rcases q6 with q6 | q6 | q6
        · exact .inl q6
        · exact absurd q6 hbb
        · exact .inr q6
    · rcases hfin with rfl | ⟨h1, rfl⟩
      · exact .any _
      · exact cleanV_rv (fgtV_rv hv) h1
  cases e with
  | ret => exact main hq
  | normal => exact main hq
  | _ => exact hq.elim

end Go.Sy
