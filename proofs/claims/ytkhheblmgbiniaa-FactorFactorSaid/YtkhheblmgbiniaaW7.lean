/- Contracts: Go's library: clone, index, contains. -/
import Derived.Test.YtkhheblmgbiniaaW6
set_option linter.unusedSimpArgs false
namespace Go.Sy
open Go Go.Proofs

theorem conZ {f : FuncId} {fn : Func} {i0 i1 : Nat} {o0 : Array Oper} {op1 op2 : Oper} {c : Operand} {A B G : Code} {rs : List ResultVar} {args : List AV} {n : Nat} {r : AV}
    (hf : Try.prog.funcs[f]? = some fn) (hname : (fn.name == "runtime.NumGoroutine") = false)
    (hb : fn.body = some ((Code.region i0 o0 false).seq (((Code.region i1 #[op1, op2] false).seq (.cond c A B)).seq G)))
    (hrs : fn.results.toList = rs)
    (hN : (dstOK fn.ntmps (((Code.region i0 o0 false).seq (((Code.region i1 #[op1, op2] false).seq (.cond c A B)).seq G))) && draws (drawOK Try.prog) [] ((Code.cond c A B).seq G) && decide (args.length ≤ fn.ntmps)) = true)
    (h : acode Try.prog [] (.region i0 o0 false) (fun e s => e = .normal ∧ aops Try.prog #[op1, op2] [op1] s fun s => nilK Try.prog s op2 fun s => acode Try.prog [] ((Code.cond c A B).seq G) (retC Try.prog rs n r) s) (s0 args)) : Con Try.prog f args n r :=
  con_nil (drawOK_ok (by kernel_rfl)) hf hname hb hrs hN h
theorem nilK_intro {P : Program} {s : St} {d : Nat} {t u ty : TypeId} {x : Operand} {pos : String} {aft : Array Edge} {sz : Nat} {xs : List (List AV)} {tk : Tok} {K : St → Prop} (ht : slT P t = true) (hx : s.o P t x = .list sz xs tk)
    (hK : ∀ β, (β = true → xs = []) → K (s.set d (.v (.bool β)))) : nilK P s ⟨some d, .binOp .eql t x (.const (.slice none 0 0)) u, ty, pos, aft, none⟩ K := ⟨ht, rfl, d, sz, xs, tk, rfl, hx, hK⟩
section
variable {P : Program} {s : St} {K : Eff → Prop} {dst : Option Nat} {ty : TypeId} {p : String} {af : Array Edge} {gd : Option (Nat × Bool)}
/-- A call of what a slot holds. -/
def cloK (x : AV) (K : FuncId → List AV → Prop) (_ : Tag K) : Prop := match x with | .clo f l => K f l | _ => False
theorem cloK_clo (f : FuncId) (l : List AV) (K : FuncId → List AV → Prop) : cloK (.clo f l) K (.mk _) = K f l := rfl
theorem stepF_callV (t : Nat) (args : List Operand) (ts : List TypeId) : stepF P s ⟨dst, .call { callee := .value (.tmp t), args := args.toArray, argTypes := ts.toArray }, ty, p, af, gd⟩ K =
    cloK (s.t t) (fun f caps => (args.length ≤ ts.length ∧ (argsAV P s args ts).all cleanV = true) ∧ callK P f (argsAV P s args ts ++ caps) (dst.getD 0) (s.g (dst.getD 0)) K (.mk _)) (.mk _) := by
  unfold stepF callK cloK
  show (match s.t t with | .clo f caps => _ | _ => False) = _
  cases s.t t <;> simp [and_assoc]
theorem boxArg_callV (t : Nat) (x0 : Operand) (xs : List Operand) (t0 : TypeId) (ts : List TypeId) : boxArg P s ⟨dst, .call { callee := .value (.tmp t), args := (x0 :: xs).toArray, argTypes := (t0 :: ts).toArray }, ty, p, af, gd⟩ = pbox (isPtrT P t0) (s.o P t0 x0) := rfl
theorem boxArg_callV0 (t : Nat) : boxArg P s ⟨dst, .call { callee := .value (.tmp t), args := #[], argTypes := #[] }, ty, p, af, gd⟩ = none := rfl
end
attribute [go_sem] cloK_clo boxArg_callV boxArg_callV0
attribute [go_sem ↓] stepF_callV
theorem c78 (l : List Int) (h : l.length ≤ 1000000) : Con Try.prog 78 [lv l] 1 (lvT l (.own (0, 0, 0))) := by
  refine conZ (rs := [.tmp 2]) Try.func78 (by kernel_rfl) rfl rfl (by kernel_rfl) ?_
  simp (dsimp := false) (maxDischargeDepth := 16) only [go_sem, ↓reduceIte, reduceCtorEq, Nat.reduceEqDiff, Nat.reduceAdd, Nat.reduceMul, Nat.reduceSub, Nat.reduceLT, Nat.reduceLeDiff, Nat.reducePow, Int.reduceLT, Int.reduceLE, Int.reduceNeg, Int.reduceToNat]
  refine nilK_intro (sz := 1) (xs := l.map fun n => [AV.v (.int .i64 n)]) (tk := .no) (by kernel_rfl) rfl fun β hβ => ?_
  simp (dsimp := false) (maxDischargeDepth := 16) only [go_sem, ↓reduceIte, reduceCtorEq, Nat.reduceEqDiff, Nat.reduceAdd, Nat.reduceMul, Nat.reduceSub, Nat.reduceLT, Nat.reduceLeDiff, Nat.reducePow, Int.reduceLT, Int.reduceLE, Int.reduceNeg, Int.reduceToNat]
  refine condK_intro (fun h1 => ?_) (fun h1 => ?_)
  · have hl : l = [] := by simpa using hβ h1
    subst hl
    simp (dsimp := false) (maxDischargeDepth := 16) only [go_sem, ↓reduceIte, reduceCtorEq, Nat.reduceEqDiff, Nat.reduceAdd, Nat.reduceMul, Nat.reduceSub, Nat.reduceLT, Nat.reduceLeDiff, Nat.reducePow, Int.reduceLT, Int.reduceLE, Int.reduceNeg, Int.reduceToNat, h1]
    refine .inr ⟨_, rfl, rfl, ?_⟩
    simp (dsimp := false) (maxDischargeDepth := 16) only [go_sem, ↓reduceIte, reduceCtorEq, Nat.reduceEqDiff, Nat.reduceAdd, Nat.reduceMul, Nat.reduceSub, Nat.reduceLT, Nat.reduceLeDiff, Nat.reducePow, Int.reduceLT, Int.reduceLE, Int.reduceNeg, Int.reduceToNat]
    exact ⟨[], rfl, .nil, rfl, rfl, rfl⟩
  · simp (dsimp := false) (maxDischargeDepth := 16) only [go_sem, ↓reduceIte, reduceCtorEq, Nat.reduceEqDiff, Nat.reduceAdd, Nat.reduceMul, Nat.reduceSub, Nat.reduceLT, Nat.reduceLeDiff, Nat.reducePow, Int.reduceLT, Int.reduceLE, Int.reduceNeg, Int.reduceToNat, h1]
    refine ⟨⟨by omega, by omega⟩, .inl ?_⟩
    simp (dsimp := false) (maxDischargeDepth := 16) only [go_sem, ↓reduceIte, reduceCtorEq, Nat.reduceEqDiff, Nat.reduceAdd, Nat.reduceMul, Nat.reduceSub, Nat.reduceLT, Nat.reduceLeDiff, Nat.reducePow, Int.reduceLT, Int.reduceLE, Int.reduceNeg, Int.reduceToNat]
    refine ⟨[(7, 0, 0)], rfl, by decide, ?_, rfl, rfl⟩
    simp (dsimp := false) (maxDischargeDepth := 16) only [go_sem, ↓reduceIte, reduceCtorEq, Nat.reduceEqDiff, Nat.reduceAdd, Nat.reduceMul, Nat.reduceSub, Nat.reduceLT, Nat.reduceLeDiff, Nat.reducePow, Int.reduceLT, Int.reduceLE, Int.reduceNeg, Int.reduceToNat]
theorem c125 (l : List Ed) (h : l.length ≤ 1000000) : Con Try.prog 125 [elv l] 1 (elT' l (.own (0, 0, 0))) := by
  refine conZ (rs := [.tmp 2]) Try.func125 (by kernel_rfl) rfl rfl (by kernel_rfl) ?_
  simp (dsimp := false) (maxDischargeDepth := 16) only [go_sem, ↓reduceIte, reduceCtorEq, Nat.reduceEqDiff, Nat.reduceAdd, Nat.reduceMul, Nat.reduceSub, Nat.reduceLT, Nat.reduceLeDiff, Nat.reducePow, Int.reduceLT, Int.reduceLE, Int.reduceNeg, Int.reduceToNat]
  refine nilK_intro (sz := 3) (xs := l.map ecs) (tk := .no) (by kernel_rfl) rfl fun β hβ => ?_
  simp (dsimp := false) (maxDischargeDepth := 16) only [go_sem, ↓reduceIte, reduceCtorEq, Nat.reduceEqDiff, Nat.reduceAdd, Nat.reduceMul, Nat.reduceSub, Nat.reduceLT, Nat.reduceLeDiff, Nat.reducePow, Int.reduceLT, Int.reduceLE, Int.reduceNeg, Int.reduceToNat]
  refine condK_intro (fun h1 => ?_) (fun h1 => ?_)
  · have hl : l = [] := by simpa using hβ h1
    subst hl
    simp (dsimp := false) (maxDischargeDepth := 16) only [go_sem, ↓reduceIte, reduceCtorEq, Nat.reduceEqDiff, Nat.reduceAdd, Nat.reduceMul, Nat.reduceSub, Nat.reduceLT, Nat.reduceLeDiff, Nat.reducePow, Int.reduceLT, Int.reduceLE, Int.reduceNeg, Int.reduceToNat, h1]
    refine .inr ⟨_, rfl, rfl, ?_⟩
    simp (dsimp := false) (maxDischargeDepth := 16) only [go_sem, ↓reduceIte, reduceCtorEq, Nat.reduceEqDiff, Nat.reduceAdd, Nat.reduceMul, Nat.reduceSub, Nat.reduceLT, Nat.reduceLeDiff, Nat.reducePow, Int.reduceLT, Int.reduceLE, Int.reduceNeg, Int.reduceToNat]
    exact ⟨[], rfl, .nil, rfl, rfl, rfl⟩
  · simp (dsimp := false) (maxDischargeDepth := 16) only [go_sem, ↓reduceIte, reduceCtorEq, Nat.reduceEqDiff, Nat.reduceAdd, Nat.reduceMul, Nat.reduceSub, Nat.reduceLT, Nat.reduceLeDiff, Nat.reducePow, Int.reduceLT, Int.reduceLE, Int.reduceNeg, Int.reduceToNat, h1]
    refine ⟨⟨by omega, by omega⟩, .inl ?_⟩
    simp (dsimp := false) (maxDischargeDepth := 16) only [go_sem, ↓reduceIte, reduceCtorEq, Nat.reduceEqDiff, Nat.reduceAdd, Nat.reduceMul, Nat.reduceSub, Nat.reduceLT, Nat.reduceLeDiff, Nat.reducePow, Int.reduceLT, Int.reduceLE, Int.reduceNeg, Int.reduceToNat]
    refine ⟨[(7, 0, 0)], rfl, by decide, ?_, rfl, rfl⟩
    simp (dsimp := false) (maxDischargeDepth := 16) only [go_sem, ↓reduceIte, reduceCtorEq, Nat.reduceEqDiff, Nat.reduceAdd, Nat.reduceMul, Nat.reduceSub, Nat.reduceLT, Nat.reduceLeDiff, Nat.reducePow, Int.reduceLT, Int.reduceLE, Int.reduceNeg, Int.reduceToNat]
/-- The place of the first element that p is true of, or -1. -/
def idxP {α : Type} (p : α → Bool) : List α → Int
  | [] => -1
  | x :: l => if p x then 0 else if idxP p l < 0 then -1 else idxP p l + 1
theorem idxP_ge {α : Type} (p : α → Bool) (l : List α) : -1 ≤ idxP p l := by
  induction l with
  | nil => simp [idxP]
  | cons x l ih => unfold idxP; split <;> (try split) <;> omega
theorem idxP_hit {α : Type} {p : α → Bool} : ∀ {l : List α} {i : Nat} (h : i < l.length), (∀ x ∈ l.take i, p x = false) → p l[i] = true → idxP p l = i
  | x :: l, 0, _, _, h2 => by simp at h2; simp [idxP, h2]
  | x :: l, i + 1, h, h1, h2 => by
    have hx : p x = false := h1 x (by simp)
    have := idxP_hit (l := l) (i := i) (by simpa using h) (fun y hy => h1 y (by simp [hy])) (by simpa using h2)
    simp only [idxP, hx, Bool.false_eq_true, if_false, this]
    rw [if_neg (by omega)]
    rfl
theorem idxP_none {α : Type} {p : α → Bool} : ∀ {l : List α}, (∀ x ∈ l, p x = false) → idxP p l = -1
  | [], _ => rfl
  | x :: l, h => by
    have hx : p x = false := h x (by simp)
    have := idxP_none (l := l) (fun y hy => h y (by simp [hy]))
    simp [idxP, hx, this]
theorem idxP_any {α : Type} {p : α → Bool} : ∀ (l : List α), (0 ≤ idxP p l) ↔ l.any p = true
  | [] => by simp [idxP]
  | x :: l => by
    have ih := idxP_any (p := p) l
    have := idxP_ge p l
    unfold idxP
    by_cases hx : p x = true
    · simp [hx]
    · rw [if_neg hx]
      simp only [List.any_cons, hx, Bool.false_or]
      rw [← ih]
      split <;> omega
theorem c92 (l : List Int) (x : Int) : Con Try.prog 92 [lv l, iv x] 0 (iv (idxP (fun y => x == y) l)) := by
  refine Con.assume (enters_of Try.func92 (by kernel_rfl) rfl) fun hb => ?_
  have hlen := bnd_lv (hb _ (List.mem_cons_self ..))
  refine conT (X := []) (rs := [.tmp 4]) Try.func92 (by kernel_rfl) rfl rfl (by kernel_rfl) ?_
  simp (dsimp := false) (maxDischargeDepth := 16) only [go_sem, ↓reduceIte, reduceCtorEq, Nat.reduceEqDiff, Nat.reduceAdd, Nat.reduceMul, Nat.reduceSub, Nat.reduceLT, Nat.reduceLeDiff, Nat.reducePow, Int.reduceLT, Int.reduceLE, Int.reduceNeg, Int.reduceToNat]
  refine loopK_intro (fun (i : Nat) s => i ≤ l.length ∧ s.t 0 = lv l ∧ s.t 1 = iv x ∧ s.t 7 = iv l.length ∧ s.t 8 = iv i ∧ ∀ y ∈ l.take i, (x == y) = false) (fun i => l.length - i) ⟨0, by omega, rfl, rfl, rfl, rfl, fun j hj => by simp at hj⟩ ?_
  rintro i s ⟨hi, h0, h1, h7, h8, hn⟩
  simp (dsimp := false) (maxDischargeDepth := 16) only [go_sem, ↓reduceIte, reduceCtorEq, Nat.reduceEqDiff, Nat.reduceAdd, Nat.reduceMul, Nat.reduceSub, Nat.reduceLT, Nat.reduceLeDiff, Nat.reducePow, Int.reduceLT, Int.reduceLE, Int.reduceNeg, Int.reduceToNat, h0, h1, h7, h8]
  refine condK_dec (fun h6 => ?_) (fun h6 => ?_)
  · simp (dsimp := false) (maxDischargeDepth := 16) only [go_sem, ↓reduceIte, reduceCtorEq, Nat.reduceEqDiff, Nat.reduceAdd, Nat.reduceMul, Nat.reduceSub, Nat.reduceLT, Nat.reduceLeDiff, Nat.reducePow, Int.reduceLT, Int.reduceLE, Int.reduceNeg, Int.reduceToNat, h0, h1, h7, h8, h6, idx_nat]
    refine condK_intro (fun h9 => ?_) (fun h9 => ?_)
    · simp (dsimp := false) (maxDischargeDepth := 16) only [go_sem, ↓reduceIte, reduceCtorEq, Nat.reduceEqDiff, Nat.reduceAdd, Nat.reduceMul, Nat.reduceSub, Nat.reduceLT, Nat.reduceLeDiff, Nat.reducePow, Int.reduceLT, Int.reduceLE, Int.reduceNeg, Int.reduceToNat, h0, h1, h7, h8, h6, h9]
      exact finI (idxP_hit h6 hn h9)
    · simp (dsimp := false) (maxDischargeDepth := 16) only [go_sem, ↓reduceIte, reduceCtorEq, Nat.reduceEqDiff, Nat.reduceAdd, Nat.reduceMul, Nat.reduceSub, Nat.reduceLT, Nat.reduceLeDiff, Nat.reducePow, Int.reduceLT, Int.reduceLE, Int.reduceNeg, Int.reduceToNat, h0, h1, h7, h8, h6, h9]
      exact ⟨i + 1, by omega, by omega, by rw [wrapN _ (by omega)], take_all h6 hn h9⟩
  · simp (dsimp := false) (maxDischargeDepth := 16) only [go_sem, ↓reduceIte, reduceCtorEq, Nat.reduceEqDiff, Nat.reduceAdd, Nat.reduceMul, Nat.reduceSub, Nat.reduceLT, Nat.reduceLeDiff, Nat.reducePow, Int.reduceLT, Int.reduceLE, Int.reduceNeg, Int.reduceToNat, h0, h1, h7, h8, h6]
    exact finI (idxP_none (take_full h6 hn))
theorem c119 (l : List Int) (x : Int) : Con Try.prog 119 [lv l, iv x] 0 (bv (l.contains x)) := by
  refine conT (X := []) (rs := [.tmp 4]) Try.func119 (by kernel_rfl) rfl rfl (by kernel_rfl) ?_
  simp (dsimp := false) (maxDischargeDepth := 16) only [go_sem, ↓reduceIte, reduceCtorEq, Nat.reduceEqDiff, Nat.reduceAdd, Nat.reduceMul, Nat.reduceSub, Nat.reduceLT, Nat.reduceLeDiff, Nat.reducePow, Int.reduceLT, Int.reduceLE, Int.reduceNeg, Int.reduceToNat]
  refine callK_intro (c92 l x) ?_
  simp (dsimp := false) (maxDischargeDepth := 16) only [go_sem, ↓reduceIte, reduceCtorEq, Nat.reduceEqDiff, Nat.reduceAdd, Nat.reduceMul, Nat.reduceSub, Nat.reduceLT, Nat.reduceLeDiff, Nat.reducePow, Int.reduceLT, Int.reduceLE, Int.reduceNeg, Int.reduceToNat]
  refine finB ?_
  rw [Bool.eq_iff_iff]
  simp only [decide_eq_true_eq]
  rw [idxP_any, List.any_beq]
theorem c144 (l : List Int) (f : FuncId) (caps : List AV) (p : Int → Bool) (hp : ∀ x ∈ l, Con Try.prog f (iv x :: caps) 0 (bv (p x))) : Con Try.prog 144 [lv l, .clo f caps] 0 (iv (idxP p l)) := by
  refine Con.assume (enters_of Try.func144 (by kernel_rfl) rfl) fun hb => ?_
  have hlen := bnd_lv (hb _ (List.mem_cons_self ..))
  refine conT (X := []) (rs := [.tmp 4]) Try.func144 (by kernel_rfl) rfl rfl (by kernel_rfl) ?_
  simp (dsimp := false) (maxDischargeDepth := 16) only [go_sem, ↓reduceIte, reduceCtorEq, Nat.reduceEqDiff, Nat.reduceAdd, Nat.reduceMul, Nat.reduceSub, Nat.reduceLT, Nat.reduceLeDiff, Nat.reducePow, Int.reduceLT, Int.reduceLE, Int.reduceNeg, Int.reduceToNat]
  refine loopK_intro (fun (i : Nat) s => i ≤ l.length ∧ s.t 0 = lv l ∧ s.t 1 = .clo f caps ∧ s.t 7 = iv l.length ∧ s.t 8 = iv i ∧ ∀ y ∈ l.take i, p y = false) (fun i => l.length - i) ⟨0, by omega, rfl, rfl, rfl, rfl, fun j hj => by simp at hj⟩ ?_
  rintro i s ⟨hi, h0, h1, h7, h8, hn⟩
  simp (dsimp := false) (maxDischargeDepth := 16) only [go_sem, ↓reduceIte, reduceCtorEq, Nat.reduceEqDiff, Nat.reduceAdd, Nat.reduceMul, Nat.reduceSub, Nat.reduceLT, Nat.reduceLeDiff, Nat.reducePow, Int.reduceLT, Int.reduceLE, Int.reduceNeg, Int.reduceToNat, h0, h1, h7, h8]
  refine condK_dec (fun h6 => ?_) (fun h6 => ?_)
  · simp (dsimp := false) (maxDischargeDepth := 16) only [go_sem, ↓reduceIte, reduceCtorEq, Nat.reduceEqDiff, Nat.reduceAdd, Nat.reduceMul, Nat.reduceSub, Nat.reduceLT, Nat.reduceLeDiff, Nat.reducePow, Int.reduceLT, Int.reduceLE, Int.reduceNeg, Int.reduceToNat, h0, h1, h7, h8, h6, idx_nat]
    refine callK_intro (hp _ (List.getElem_mem h6)) ?_
    simp (dsimp := false) (maxDischargeDepth := 16) only [go_sem, ↓reduceIte, reduceCtorEq, Nat.reduceEqDiff, Nat.reduceAdd, Nat.reduceMul, Nat.reduceSub, Nat.reduceLT, Nat.reduceLeDiff, Nat.reducePow, Int.reduceLT, Int.reduceLE, Int.reduceNeg, Int.reduceToNat, h0, h1, h7, h8, h6]
    refine condK_intro (fun h9 => ?_) (fun h9 => ?_)
    · simp (dsimp := false) (maxDischargeDepth := 16) only [go_sem, ↓reduceIte, reduceCtorEq, Nat.reduceEqDiff, Nat.reduceAdd, Nat.reduceMul, Nat.reduceSub, Nat.reduceLT, Nat.reduceLeDiff, Nat.reducePow, Int.reduceLT, Int.reduceLE, Int.reduceNeg, Int.reduceToNat, h0, h1, h7, h8, h6, h9]
      exact finI (idxP_hit h6 hn h9)
    · simp (dsimp := false) (maxDischargeDepth := 16) only [go_sem, ↓reduceIte, reduceCtorEq, Nat.reduceEqDiff, Nat.reduceAdd, Nat.reduceMul, Nat.reduceSub, Nat.reduceLT, Nat.reduceLeDiff, Nat.reducePow, Int.reduceLT, Int.reduceLE, Int.reduceNeg, Int.reduceToNat, h0, h1, h7, h8, h6, h9]
      exact ⟨i + 1, by omega, by omega, by rw [wrapN _ (by omega)], take_all h6 hn h9⟩
  · simp (dsimp := false) (maxDischargeDepth := 16) only [go_sem, ↓reduceIte, reduceCtorEq, Nat.reduceEqDiff, Nat.reduceAdd, Nat.reduceMul, Nat.reduceSub, Nat.reduceLT, Nat.reduceLeDiff, Nat.reducePow, Int.reduceLT, Int.reduceLE, Int.reduceNeg, Int.reduceToNat, h0, h1, h7, h8, h6]
    exact finI (idxP_none (take_full h6 hn))
theorem c112 (l : List Int) (f : FuncId) (caps : List AV) (p : Int → Bool) (hp : ∀ x ∈ l, Con Try.prog f (iv x :: caps) 0 (bv (p x))) : Con Try.prog 112 [lv l, .clo f caps] 0 (bv (l.any p)) := by
  refine conT (X := []) (rs := [.tmp 4]) Try.func112 (by kernel_rfl) rfl rfl (by kernel_rfl) ?_
  simp (dsimp := false) (maxDischargeDepth := 16) only [go_sem, ↓reduceIte, reduceCtorEq, Nat.reduceEqDiff, Nat.reduceAdd, Nat.reduceMul, Nat.reduceSub, Nat.reduceLT, Nat.reduceLeDiff, Nat.reducePow, Int.reduceLT, Int.reduceLE, Int.reduceNeg, Int.reduceToNat]
  refine callK_intro (c144 l f caps p hp) ?_
  simp (dsimp := false) (maxDischargeDepth := 16) only [go_sem, ↓reduceIte, reduceCtorEq, Nat.reduceEqDiff, Nat.reduceAdd, Nat.reduceMul, Nat.reduceSub, Nat.reduceLT, Nat.reduceLeDiff, Nat.reducePow, Int.reduceLT, Int.reduceLE, Int.reduceNeg, Int.reduceToNat]
  refine finB ?_
  rw [Bool.eq_iff_iff, ← idxP_any]
  simp
theorem c145 (l : List Ed) (f : FuncId) (caps : List AV) (p : Ed → Bool) (hp : ∀ x ∈ l, Con Try.prog f (.agg (ecs x) :: caps) 0 (bv (p x))) : Con Try.prog 145 [elv l, .clo f caps] 0 (iv (idxP p l)) := by
  refine Con.assume (enters_of Try.func145 (by kernel_rfl) rfl) fun hb => ?_
  have hlen := bnd_elv (hb _ (List.mem_cons_self ..))
  refine conT (X := []) (rs := [.tmp 4]) Try.func145 (by kernel_rfl) rfl rfl (by kernel_rfl) ?_
  simp (dsimp := false) (maxDischargeDepth := 16) only [go_sem, ↓reduceIte, reduceCtorEq, Nat.reduceEqDiff, Nat.reduceAdd, Nat.reduceMul, Nat.reduceSub, Nat.reduceLT, Nat.reduceLeDiff, Nat.reducePow, Int.reduceLT, Int.reduceLE, Int.reduceNeg, Int.reduceToNat]
  refine loopK_intro (fun (i : Nat) s => i ≤ l.length ∧ s.t 0 = elv l ∧ s.t 1 = .clo f caps ∧ s.t 7 = iv l.length ∧ s.t 8 = iv i ∧ ∀ y ∈ l.take i, p y = false) (fun i => l.length - i) ⟨0, by omega, rfl, rfl, rfl, rfl, fun j hj => by simp at hj⟩ ?_
  rintro i s ⟨hi, h0, h1, h7, h8, hn⟩
  simp (dsimp := false) (maxDischargeDepth := 16) only [go_sem, ↓reduceIte, reduceCtorEq, Nat.reduceEqDiff, Nat.reduceAdd, Nat.reduceMul, Nat.reduceSub, Nat.reduceLT, Nat.reduceLeDiff, Nat.reducePow, Int.reduceLT, Int.reduceLE, Int.reduceNeg, Int.reduceToNat, h0, h1, h7, h8]
  refine condK_dec (fun h6 => ?_) (fun h6 => ?_)
  · simp (dsimp := false) (maxDischargeDepth := 16) only [go_sem, ↓reduceIte, reduceCtorEq, Nat.reduceEqDiff, Nat.reduceAdd, Nat.reduceMul, Nat.reduceSub, Nat.reduceLT, Nat.reduceLeDiff, Nat.reducePow, Int.reduceLT, Int.reduceLE, Int.reduceNeg, Int.reduceToNat, h0, h1, h7, h8, h6, idx_nat]
    refine callK_intro (hp _ (List.getElem_mem h6)) ?_
    simp (dsimp := false) (maxDischargeDepth := 16) only [go_sem, ↓reduceIte, reduceCtorEq, Nat.reduceEqDiff, Nat.reduceAdd, Nat.reduceMul, Nat.reduceSub, Nat.reduceLT, Nat.reduceLeDiff, Nat.reducePow, Int.reduceLT, Int.reduceLE, Int.reduceNeg, Int.reduceToNat, h0, h1, h7, h8, h6]
    refine condK_intro (fun h9 => ?_) (fun h9 => ?_)
    · simp (dsimp := false) (maxDischargeDepth := 16) only [go_sem, ↓reduceIte, reduceCtorEq, Nat.reduceEqDiff, Nat.reduceAdd, Nat.reduceMul, Nat.reduceSub, Nat.reduceLT, Nat.reduceLeDiff, Nat.reducePow, Int.reduceLT, Int.reduceLE, Int.reduceNeg, Int.reduceToNat, h0, h1, h7, h8, h6, h9]
      exact finI (idxP_hit h6 hn h9)
    · simp (dsimp := false) (maxDischargeDepth := 16) only [go_sem, ↓reduceIte, reduceCtorEq, Nat.reduceEqDiff, Nat.reduceAdd, Nat.reduceMul, Nat.reduceSub, Nat.reduceLT, Nat.reduceLeDiff, Nat.reducePow, Int.reduceLT, Int.reduceLE, Int.reduceNeg, Int.reduceToNat, h0, h1, h7, h8, h6, h9]
      exact ⟨i + 1, by omega, by omega, by rw [wrapN _ (by omega)], take_all h6 hn h9⟩
  · simp (dsimp := false) (maxDischargeDepth := 16) only [go_sem, ↓reduceIte, reduceCtorEq, Nat.reduceEqDiff, Nat.reduceAdd, Nat.reduceMul, Nat.reduceSub, Nat.reduceLT, Nat.reduceLeDiff, Nat.reducePow, Int.reduceLT, Int.reduceLE, Int.reduceNeg, Int.reduceToNat, h0, h1, h7, h8, h6]
    exact finI (idxP_none (take_full h6 hn))
theorem c115 (l : List Ed) (f : FuncId) (caps : List AV) (p : Ed → Bool) (hp : ∀ x ∈ l, Con Try.prog f (.agg (ecs x) :: caps) 0 (bv (p x))) : Con Try.prog 115 [elv l, .clo f caps] 0 (bv (l.any p)) := by
  refine conT (X := []) (rs := [.tmp 4]) Try.func115 (by kernel_rfl) rfl rfl (by kernel_rfl) ?_
  simp (dsimp := false) (maxDischargeDepth := 16) only [go_sem, ↓reduceIte, reduceCtorEq, Nat.reduceEqDiff, Nat.reduceAdd, Nat.reduceMul, Nat.reduceSub, Nat.reduceLT, Nat.reduceLeDiff, Nat.reducePow, Int.reduceLT, Int.reduceLE, Int.reduceNeg, Int.reduceToNat]
  refine callK_intro (c145 l f caps p hp) ?_
  simp (dsimp := false) (maxDischargeDepth := 16) only [go_sem, ↓reduceIte, reduceCtorEq, Nat.reduceEqDiff, Nat.reduceAdd, Nat.reduceMul, Nat.reduceSub, Nat.reduceLT, Nat.reduceLeDiff, Nat.reducePow, Int.reduceLT, Int.reduceLE, Int.reduceNeg, Int.reduceToNat]
  refine finB ?_
  rw [Bool.eq_iff_iff, ← idxP_any]
  simp
end Go.Sy
