/- A function that begins by asking whether a slice is nil. -/
import Derived.Test.YtkhheblmgbiniaaE4
import Derived.WalkSpells
namespace Go.Sy
open Go Go.RowKit

variable {N : Nat} {w0 : World} {C0 : CMap} {E : EX} {s : St} {a : Act} {w : World} {C : CMap} {ρ : RMap} {τ : TMap} {P : Program} {o : Oper} {e : Eff}

theorem nil_run {t e : TypeId} (hu : P.underlying t = some (.slice e)) (A : Option Addr) (n c : Nat) (X Y : Operand) :
    (do eqGuard .eql t X Y (.slice A n c) (.slice none 0 0); binOp .eql t (.slice A n c) (.slice none 0 0) : Sem Value).run P w = .ok (.bool A.isNone) w := by
  have hb : (binOp .eql t (.slice A n c) (.slice none 0 0)).run P w = .ok (.bool A.isNone) w := Lib.run_eql_slice_nil w t e A n c 0 0 hu
  simp [eqGuard, hb]

def nilK (P : Program) (s : St) (o : Oper) (K : St → Prop) : Prop := match o.op with
  | .binOp .eql t x (.const (.slice none 0 0)) _ => slT P t = true ∧ o.guard = none ∧ ∃ d sz xs tk, o.dst = some d ∧ s.o P t x = .list sz xs tk ∧ ∀ β, (β = true → xs = []) → K (s.set d (.v (.bool β)))
  | _ => False

theorem nil_sound {Q : Exit → Act → World → Prop} {K : Act → World → Prop} {KA : St → Prop} (h : Rep N w0 C0 E s a w) (hN : ∀ d, o.dst = some d → d < N) (hk : nilK P s o KA)
    (hK : ∀ s' a' w', KA s' → Rep N w0 C0 E s' a' w' → K a' w') : o.guard = none ∧ o.wp P a w K Q := by
  obtain ⟨C, ρ, τ, h⟩ := h
  unfold nilK at hk
  split at hk
  case h_2 => exact hk.elim
  rename_i t x u ho
  obtain ⟨ht, hg, d, sz, xs, tk, hd, hx, hk⟩ := hk
  refine ⟨hg, ?_⟩
  have hv := opnd (P := P) h t x
  rw [hx] at hv
  obtain ⟨A, c, cv, he, h1, h2, h3, _, _⟩ := rv_list hv
  have hu : ∃ e, P.underlying t = some (.slice e) := by
    unfold slT at ht
    split at ht
    · rename_i e hu; exact ⟨e, hu⟩
    · cases ht
  obtain ⟨e, hu⟩ := hu
  have hrun : (execOp a.eval o).run P w = .ok (.value (.bool A.isNone)) w := by
    have h2 : execOp a.eval o = (do pure (Next.value (← (do eqGuard .eql t x (.const (.slice none 0 0)) (a.eval x) (a.eval (.const (.slice none 0 0))); binOp .eql t (a.eval x) (a.eval (.const (.slice none 0 0))) : Sem Value)))) := by simp [execOp, ho]
    have h3 : a.eval (.const (.slice none 0 0)) = .slice none 0 0 := rfl
    rw [h2, Sem.run_bind, he, h3, nil_run hu]
    simp
  unfold Oper.wp
  rw [hrun]
  refine hK (s.set d (.v (.bool A.isNone))) _ w (hk _ ?_) ⟨C, ρ, τ, hd ▸ h.set d (hN d hd) (.v _ rfl)⟩
  intro hA
  cases xs with
  | nil => rfl
  | cons x xs =>
    obtain ⟨_, b, o, hA2, _⟩ := h3 0 x rfl
    rw [hA2] at hA
    cases hA

theorem aops_then {ops : Array Oper} {Q : Exit → Act → World → Prop} {K : St → Prop} {l2 : List Oper} (hQ : ∀ s' a' w', K s' → Rep N w0 C0 E s' a' w' → wpList P ops Q l2 a' w') :
    ∀ (l : List Oper) (s : St) (a : Act) (w : World), (∀ o ∈ l, ∀ d, o.dst = some d → d < N) → aops P ops l s K → Rep N w0 C0 E s a w → wpList P ops Q (l ++ l2) a w
  | [], s, a, w, _, h, hr => hQ s a w h hr
  | o :: r, s, a, w, hN, h, hr => by
    unfold aops at h
    split at h
    · exact h.elim
    · rename_i c hc
      obtain ⟨C, ρ, τ, hr'⟩ := id hr
      have hw := wantA_sound hr' hc
      have hNo := hN o (List.mem_cons_self ..)
      rw [List.cons_append]
      unfold wpList
      cases c with
      | true =>
        rw [if_pos hw]
        obtain ⟨e, he, h2⟩ := stepG_elim (h.1 rfl)
        exact .inl (stp_sound hr hNo he fun a' w' hr' => aops_then hQ r _ a' w' (fun o ho => hN o (List.mem_cons_of_mem _ ho)) h2 hr')
      | false =>
        rw [if_neg (by simp [hw])]
        exact aops_then hQ r _ _ w (fun o ho => hN o (List.mem_cons_of_mem _ ho)) (h.2 rfl) (skip_sound hr hNo)

theorem con_nil {D : List Ap → Array Oper → Bool} (hD : DOK P D) {f : FuncId} {fn : Func} {i0 i1 : Nat} {o0 : Array Oper} {op1 op2 : Oper} {c : Operand} {A B G : Code} {rs : List ResultVar} {args : List AV} {n : Nat} {r : AV}
    (hf : P.funcs[f]? = some fn) (hname : (fn.name == "runtime.NumGoroutine") = false)
    (hb : fn.body = some ((Code.region i0 o0 false).seq (((Code.region i1 #[op1, op2] false).seq (.cond c A B)).seq G)))
    (hrs : fn.results.toList = rs)
    (hN : (dstOK fn.ntmps (((Code.region i0 o0 false).seq (((Code.region i1 #[op1, op2] false).seq (.cond c A B)).seq G))) && draws D [] ((Code.cond c A B).seq G) && decide (args.length ≤ fn.ntmps)) = true)
    (h : acode P [] (.region i0 o0 false) (fun e s => e = .normal ∧ aops P #[op1, op2] [op1] s fun s => nilK P s op2 fun s => acode P [] ((Code.cond c A B).seq G) (retC P rs n r) s) (s0 args)) : Con P f args n r := by
  rw [Bool.and_eq_true, Bool.and_eq_true] at hN
  obtain ⟨⟨hN1, hN2⟩, hN3⟩ := hN
  refine con_ofNw hf hname hb hrs (of_decide_eq_true hN3) fun w0 C0 Q a w hQ hr => ?_
  simp only [dstOK, Bool.and_eq_true] at hN1
  obtain ⟨n0, ⟨n1, n2⟩, n3⟩ := hN1
  simp only [draws, Bool.and_eq_true] at hN2
  obtain ⟨⟨d1, d2⟩, d3⟩ := hN2
  refine wp_seq (acode_sound (N := fn.ntmps) (w0 := w0) (C0 := C0) (E := EX.none) hD (X := []) _ _ _ _ _ _ (by simp [dstOK, draws, n0]) ?_ h hr)
  rintro e s1 a1 w1 ⟨rfl, h1⟩ hr1
  have one : ∀ o ∈ [op1, op2], ∀ d, o.dst = some d → d < fn.ntmps := by
    intro o ho d hd
    simp at n1
    rcases List.mem_cons.1 ho with rfl | ho
    · have := n1.1; rw [hd] at this; simpa using this
    · simp at ho; subst ho; have := n1.2; rw [hd] at this; simpa using this
  have main : (((Code.region i1 #[op1, op2] false).seq (.cond c A B)).seq G).wp P Q a1 w1 := by
    refine wp_seq (wp_seq (wp_region_list (aops_then (l2 := [op2]) ?_ [op1] _ _ _ (fun o ho => one o (by simp at ho; simp [ho])) h1 hr1)))
    intro s2 a2 w2 h2 hr2
    obtain ⟨C, ρ, τ, hr2'⟩ := id hr2
    unfold wpList
    obtain ⟨g, hw⟩ := nil_sound (Q := Exit.then (Code.wp P (Code.cond c A B) (Exit.then (Code.wp P G Q) Q)) (Exit.then (Code.wp P G Q) Q))
      (K := wpList P #[op1, op2] (Exit.then (Code.wp P (Code.cond c A B) (Exit.then (Code.wp P G Q) Q)) (Exit.then (Code.wp P G Q) Q)) []) hr2 (one op2 (by simp)) h2 (by
      intro s3 a3 w3 h3 hr3
      unfold wpList
      show Code.wp P (Code.cond c A B) (Exit.then (Code.wp P G Q) Q) a3 w3
      unfold acode at h3
      refine acode_sound (N := fn.ntmps) (w0 := w0) (C0 := C0) (E := EX.none) hD (X := []) _ _ _ _ _ _ (by simp only [dstOK, draws, Bool.and_eq_true]; exact ⟨n2, d1, d2⟩) ?_ h3 hr3
      intro e s4 a4 w4 h4 hr4
      cases e with
      | normal => exact acode_sound (N := fn.ntmps) (w0 := w0) (C0 := C0) (E := EX.none) hD (X := []) _ _ _ _ _ _ (by simp [n3, d3]) hQ h4 hr4
      | _ => exact hQ _ _ _ _ h4 hr4)
    rw [if_pos (by simp [Region.wanted, g])]
    exact .inl hw
  exact main
end Go.Sy
