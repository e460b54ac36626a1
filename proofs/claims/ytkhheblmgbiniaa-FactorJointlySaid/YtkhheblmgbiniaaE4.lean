/- Functions that hand back lists of their own. -/
import Derived.Test.YtkhheblmgbiniaaB6
namespace Go.Sy
open Go Go.RowKit

variable {N : Nat} {w0 : World} {C0 : CMap} {E : EX} {s : St} {a : Act} {w : World} {C : CMap} {ρ : RMap} {τ : TMap} {P : Program}

def kidx : List Key → Key → Option Nat
  | [], _ => none
  | k' :: r, k => if k = k' then some 0 else (kidx r k).map (· + 1)
theorem kidx_get : ∀ {ks : List Key} {k : Key} {j : Nat}, kidx ks k = some j → ks[j]? = some k
  | [], k, j, h => by cases h
  | k' :: r, k, j, h => by
    unfold kidx at h
    split at h
    · rename_i hk; cases h; simp [hk]
    · obtain ⟨i, hi, rfl⟩ := Option.map_eq_some_iff.1 h
      simpa using kidx_get hi
def tkO : Option Nat → Tok
  | some j => .own (0, 0, j)
  | none => .no
def rnT (ks : List Key) : Tok → Tok
  | .own k => tkO (kidx ks k)
  | t => t
def rn0 (ks : List Key) : AV → AV
  | .list sz xs tk => .list sz xs (rnT ks tk)
  | a => a
def rn1 (ks : List Key) : AV → AV
  | .agg l => .agg (l.map (rn0 ks))
  | a => rn0 ks a
def rnF (ks : List Key) : AV → AV
  | .tup l => .tup (l.map (rn1 ks))
  | a => rn1 ks a
def rc0 : AV → Bool
  | .list _ _ _ => true
  | a => clean a
def rc1 : AV → Bool
  | .agg l => l.all rc0
  | a => rc0 a
def rcF : AV → Bool
  | .tup l => l.all rc1
  | a => rc1 a

def nτ (ks : List Key) (τ : TMap) : TMap := fun k => if k.1 = 0 ∧ k.2.1 = 0 then (ks[k.2.2]?).bind τ else none

theorem rn0_rv {ks : List Key} {v : Value} {x : AV} (h : RV C ρ τ v x) (hc : rc0 x = true) : RV C noρ (nτ ks τ) v (rn0 ks x) := by
  cases hx : x with
  | list sz xs tk =>
    rw [hx] at h
    obtain ⟨A, c, cv, rfl, h1, h2, h3, h4, h5⟩ := rv_list h
    refine .list sz xs _ A _ c cv rfl h1 h2 h3 h4 ?_
    cases tk with
    | no => trivial
    | nil => exact h5
    | own k =>
      simp only [rnT]
      cases hk : kidx ks k with
      | none => trivial
      | some j =>
        show nτ ks τ (0, 0, j) = _
        simp only [nτ, and_self, if_true, kidx_get hk]
        exact h5
  | _ =>
    rw [hx] at h hc
    exact (clean_rv h (by simpa [rc0] using hc)).mono (fun _ _ _ h => h) (fun _ _ h => h) (fun _ _ h => by cases h)

theorem rn1_rv {ks : List Key} {v : Value} {x : AV} (h : RV C ρ τ v x) (hc : rc1 x = true) : RV C noρ (nτ ks τ) v (rn1 ks x) := by
  cases hx : x with
  | agg l =>
    rw [hx] at h hc
    obtain ⟨cs, rfl, h1, h2, h3⟩ := rv_agg h
    refine .agg _ _ (by simpa using h1) (fun i v y hv hy => ?_) h3
    simp only [List.getElem?_map] at hy
    obtain ⟨z, hz, rfl⟩ := Option.map_eq_some_iff.1 hy
    exact rn0_rv (h2 i v z hv hz) (List.all_eq_true.1 hc z (List.mem_of_getElem? hz))
  | _ => rw [hx] at h hc; exact rn0_rv h hc

theorem rnF_rv {ks : List Key} {v : Value} {x : AV} (h : RV C ρ τ v x) (hc : rcF x = true) : RV C noρ (nτ ks τ) v (rnF ks x) := by
  cases hx : x with
  | tup l =>
    rw [hx] at h hc
    obtain ⟨cs, rfl, h1, h2⟩ := rv_tup h
    refine .tup _ _ (by simpa using h1) (fun i v y hv hy => ?_)
    simp only [List.getElem?_map] at hy
    obtain ⟨z, hz, rfl⟩ := Option.map_eq_some_iff.1 hy
    exact rn1_rv (h2 i v z hv hz) (List.all_eq_true.1 hc z (List.mem_of_getElem? hz))
  | _ => rw [hx] at h hc; exact rn1_rv h hc

def retN (P : Program) (rs : List ResultVar) (n : Nat) (r : AV) : Exit → St → Prop
  | .ret, s | .normal, s => oK (resAV P s rs) (fun xs => ∃ ks : List Key, ks.length = n ∧ ks.Nodup ∧ (ks.all fun k => !s.d k) = true ∧ rcF (one xs) = true ∧ r = rnF ks (one xs)) (.mk _)
  | _, _ => False

/-- An answer that is one list of the call's own, or nil. -/
def retC (P : Program) (rs : List ResultVar) (n : Nat) (r : AV) (e : Exit) (s : St) : Prop := retN P rs n r e s ∨ ∃ sz, n = 1 ∧ r = .list sz [] (.own (0, 0, 0)) ∧ retN P rs 0 (.list sz [] .nil) e s

theorem con_ofNw {f : FuncId} {fn : Func} {c : Code} {rs : List ResultVar} {args : List AV} {n : Nat} {r : AV} (hf : P.funcs[f]? = some fn) (hname : (fn.name == "runtime.NumGoroutine") = false) (hb : fn.body = some c)
    (hrs : fn.results.toList = rs) (hN : args.length ≤ fn.ntmps)
    (h : ∀ (w0 : World) (C0 : CMap) (Q : Exit → Act → World → Prop) (a : Act) (w : World), (∀ e s' a' w', retC P rs n r e s' → Rep fn.ntmps w0 C0 EX.none s' a' w' → Q e a' w') → Rep fn.ntmps w0 C0 EX.none (s0 args) a w → c.wp P Q a w) : Con P f args n r := by
  refine ⟨enters_of hf hname hb, ?_⟩
  intro C w vs hC hl hv
  refine calls_of_wp hf hb (h w C _ _ _ ?_ ⟨C, noρ, noτ, s0_rep hC hl hv hN⟩)
  intro e s' a' w' hq hr
  obtain ⟨C', ρ', τ', hr⟩ := hr
  have main : ∀ n r, oK (resAV P s' rs) (fun xs => ∃ ks : List Key, ks.length = n ∧ ks.Nodup ∧ (ks.all fun k => !s'.d k) = true ∧ rcF (one xs) = true ∧ r = rnF ks (one xs)) (.mk _) → a'.defers = [] ∧ ∃ v, (results fn a'.tmps).run P w' = .ok v w' ∧
      ∃ v1 C' τ', Ending.returned v = .returned v1 ∧ Below w.heap.size w w' ∧ (∀ b o v, C b o = some v → C' b o = some v) ∧ (∀ b o v, C' b o = some v → C b o = some v ∨ w.heap.size ≤ b) ∧
      CW C' w' ∧ RV C' noρ τ' v1 r ∧ Toks C' w' τ' n w.heap.size := by
    intro n r hq
    unfold oK at hq
    split at hq
    case h_2 => exact hq.elim
    rename_i xs hxs
    obtain ⟨ks, hkn, hnd, hal, hc, rfl⟩ := hq
    obtain ⟨v, hrun, hv⟩ := results_run (P := P) (fn := fn) hr (by rw [hrs]; exact hxs)
    have hnτ : ∀ k y, nτ ks τ' k = some y → k.1 = 0 ∧ k.2.1 = 0 ∧ k.2.2 < n ∧ ∃ k', ks[k.2.2]? = some k' ∧ τ' k' = some y ∧ s'.d k' = false := by
      intro k y hk
      unfold nτ at hk
      split at hk
      · rename_i hh
        obtain ⟨k', h1, h2⟩ := Option.bind_eq_some_iff.1 hk
        refine ⟨hh.1, hh.2, by rw [← hkn]; exact (List.getElem?_eq_some_iff.1 h1).1, k', h1, h2, ?_⟩
        have := List.all_eq_true.1 hal k' (List.mem_of_getElem? h1)
        simpa using this
      · cases hk
    refine ⟨hr.df, v, hrun, v, C', nτ ks τ', rfl, ⟨hr.fr.os, hr.fr.tape, hr.fr.output, hr.fr.size, fun k hk => hr.fr.block k hk id⟩, fun b o v h => hr.c0 _ _ _ h, ?_, hr.cw, rnF_rv hv hc, ⟨fun k x hk => ?_, ?_, ?_⟩⟩
    · intro b o v h
      rcases Nat.lt_or_ge b w.heap.size with hlt | hge
      · exact (hr.c1 _ _ _ hlt h).imp_right fun h => h.elim
      · exact .inr hge
    · have := hnτ k x hk
      exact ⟨this.1, this.2.1, this.2.2.1⟩
    · intro k v m hk
      obtain ⟨_, _, _, k', _, h2, h3⟩ := hnτ k _ hk
      obtain ⟨A, n', c, rfl, gg⟩ := hr.tk k' v m h2 h3
      refine ⟨A, n', c, rfl, ?_⟩
      rcases gg with gg | ⟨b', cs', ty', hA, q1, q2, q3, q4, q5, q6, q7⟩
      · exact .inl gg
      · refine .inr ⟨b', cs', ty', hA, q1, q2, q3, q4, q5, ?_⟩
        rcases q6 with q6 | q6
        · exact q6
        · exact q6.elim
    · intro k1 k2 v1 v2 m1 m2 b e1 e2 r1 r2
      obtain ⟨a1, a2, a3, k1', a4, a5, a6⟩ := hnτ k1 _ e1
      obtain ⟨b1, b2, b3, k2', b4, b5, b6⟩ := hnτ k2 _ e2
      have := hr.tj k1' k2' _ _ _ _ b a5 b5 a6 b6 r1 r2
      subst this
      have hj : k1.2.2 = k2.2.2 := (List.getElem?_inj (by rw [hkn]; exact a3) hnd).1 (a4.trans b4.symm)
      exact Prod.ext (a1.trans b1.symm) (Prod.ext (a2.trans b2.symm) hj)
  have conv : ∀ sz, (a'.defers = [] ∧ ∃ v, (results fn a'.tmps).run P w' = .ok v w' ∧
      ∃ v1 C' τ', Ending.returned v = .returned v1 ∧ Below w.heap.size w w' ∧ (∀ b o v, C b o = some v → C' b o = some v) ∧ (∀ b o v, C' b o = some v → C b o = some v ∨ w.heap.size ≤ b) ∧
      CW C' w' ∧ RV C' noρ τ' v1 (.list sz [] .nil) ∧ Toks C' w' τ' 0 w.heap.size) → (a'.defers = [] ∧ ∃ v, (results fn a'.tmps).run P w' = .ok v w' ∧
      ∃ v1 C' τ', Ending.returned v = .returned v1 ∧ Below w.heap.size w w' ∧ (∀ b o v, C b o = some v → C' b o = some v) ∧ (∀ b o v, C' b o = some v → C b o = some v ∨ w.heap.size ≤ b) ∧
      CW C' w' ∧ RV C' noρ τ' v1 (.list sz [] (.own (0, 0, 0))) ∧ Toks C' w' τ' 1 w.heap.size) := by
    rintro sz ⟨hd, v, hrun, v1, C', τ', h1, h2, h3, h4, h5, h6, _⟩
    have one : ∀ k x, (if k = (0, 0, 0) then some (v1, sz) else none : Option (Value × Nat)) = some x → k = (0, 0, 0) ∧ x = (v1, sz) := by
      intro k x hk
      split at hk
      · cases hk; exact ⟨by assumption, rfl⟩
      · cases hk
    obtain ⟨A, c, cv, rfl, q1, q2, _, _, q5⟩ := rv_list h6
    obtain ⟨A', q5⟩ := q5
    refine ⟨hd, v, hrun, _, C', fun k => if k = (0, 0, 0) then some (.slice A ([] : List (List AV)).length c, sz) else none, h1, h2, h3, h4, h5, .list _ _ _ A _ c cv rfl q1 q2 (fun i x hx => by simp at hx) (fun i x j y hx => by simp at hx) (if_pos rfl), ⟨?_, ?_, ?_⟩⟩
    · intro k x hk
      obtain ⟨rfl, _⟩ := one k x hk
      exact ⟨rfl, rfl, Nat.zero_lt_one⟩
    · intro k v m hk
      obtain ⟨_, hx⟩ := one k _ hk
      cases hx
      cases q5
      exact ⟨_, _, _, rfl, .inl rfl⟩
    · intro k k' v v' m m' b e1 e2 _ _
      rw [(one k _ e1).1, (one k' _ e2).1]
  have fin : ∀ n r, retN P rs n r e s' → bodyPost P fn (fun e w' => ∃ v C' τ', e = .returned v ∧ Below w.heap.size w w' ∧ (∀ b o v, C b o = some v → C' b o = some v) ∧ (∀ b o v, C' b o = some v → C b o = some v ∨ w.heap.size ≤ b) ∧
      CW C' w' ∧ RV C' noρ τ' v r ∧ Toks C' w' τ' n w.heap.size) e a' w' := by
    intro n r hq
    cases e with
    | ret => exact main n r hq
    | normal => exact main n r hq
    | _ => exact hq.elim
  rcases hq with hq | ⟨sz, rfl, rfl, hq⟩
  · exact fin _ _ hq
  · cases e with
    | ret => exact conv sz (main _ _ hq)
    | normal => exact conv sz (main _ _ hq)
    | _ => exact hq.elim

theorem retN_ret {rs : List ResultVar} {n : Nat} {r : AV} : retN P rs n r .ret s = oK (resAV P s rs) (fun xs => ∃ ks : List Key, ks.length = n ∧ ks.Nodup ∧ (ks.all fun k => !s.d k) = true ∧ rcF (one xs) = true ∧ r = rnF ks (one xs)) (.mk _) := rfl
theorem retN_normal {rs : List ResultVar} {n : Nat} {r : AV} : retN P rs n r .normal s = oK (resAV P s rs) (fun xs => ∃ ks : List Key, ks.length = n ∧ ks.Nodup ∧ (ks.all fun k => !s.d k) = true ∧ rcF (one xs) = true ∧ r = rnF ks (one xs)) (.mk _) := rfl
attribute [go_sem] retN_ret retN_normal

theorem con_ofN {D : List Ap → Array Oper → Bool} (hD : DOK P D) {X : Hints} {f : FuncId} {fn : Func} {c : Code} {rs : List ResultVar} {args : List AV} {n : Nat} {r : AV} (hf : P.funcs[f]? = some fn) (hname : (fn.name == "runtime.NumGoroutine") = false) (hb : fn.body = some c)
    (hrs : fn.results.toList = rs) (hN : (dstOK fn.ntmps c && draws D X c && decide (args.length ≤ fn.ntmps)) = true) (h : acode P X c (retN P rs n r) (s0 args)) : Con P f args n r := by
  rw [Bool.and_eq_true] at hN
  exact con_ofNw hf hname hb hrs (of_decide_eq_true hN.2) fun w0 C0 Q a w hQ hr => acode_sound (N := fn.ntmps) (w0 := w0) (C0 := C0) (E := EX.none) hD c _ _ _ _ _ hN.1 (fun e s' a' w' h => hQ e s' a' w' (.inl h)) h hr

end Go.Sy
