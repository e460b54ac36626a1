/- The rules of reckoning for code that turns two lists; contracts out of it. -/
import Derived.Test.YtkhheblmgbiniaaE6
namespace Go.Sy
open Go Go.RowKit

variable {P : Program} {X : Hints} {H : XHints} {h : List (Nat × Nat)} {ops : Array Oper} {r : List Oper} {s : St} {K : St → Prop} {Q : Exit → St → Prop}

def hkK (x : Option (List (Nat × Nat))) (A : Prop) (B : List (Nat × Nat) → Prop) (_ : Tag (A, B)) : Prop := match x with | none => A | some h => B h
theorem hkK_none (A : Prop) (B : List (Nat × Nat) → Prop) : hkK none A B (.mk _) = A := rfl
theorem hkK_some (h : List (Nat × Nat)) (A : Prop) (B : List (Nat × Nat) → Prop) : hkK (some h) A B (.mk _) = B h := rfl
theorem hkO_nil (i : Nat) : hkO [] i = none := rfl
theorem hkO_cons (j i : Nat) (h : List (Nat × Nat)) : hkO ((j, h) :: H) i = if i = j then some h else hkO H i := rfl
theorem kdO_nil (i : Nat) : kdO [] i = 0 := rfl
theorem kdO_cons (j k i : Nat) : kdO ((j, k) :: h) i = if i = j then k else kdO h i := rfl
theorem xcode_region (id : Nat) (l : List Oper) (dr : Bool) : xcode P X H (.region id l.toArray dr) Q s = hkK (hkO H id) (acode P X (.region id l.toArray dr) Q s) (fun h => dr = false ∧ xops P l.toArray h 0 l s (Q .normal)) (.mk _) := by
  unfold hkK
  simp only [xcode]
  cases hkO H id <;> rfl
theorem xcode_skip : xcode P X H .skip Q s = Q .normal s := rfl
theorem xcode_seq (x y : Code) : xcode P X H (.seq x y) Q s = xcode P X H x (fun e s' => match e with | .normal => xcode P X H y Q s' | e => Q e s') s := rfl
theorem xcode_block (id : Nat) (c : Code) : xcode P X H (.block id c) Q s = xcode P X H c (fun e s' => match e with | .exit id' => if id' = id then Q .normal s' else Q (.exit id') s' | e => Q e s') s := rfl
theorem xcode_scope (c : Code) : xcode P X H (.scope c) Q s = xcode P X H c (fun e s' => match e with | .goto _ => False | e => Q e s') s := rfl
theorem xcode_exit (id : Nat) : xcode P X H (.exit id) Q s = Q (.exit id) s := rfl
theorem xcode_ret : xcode P X H .ret Q s = Q .ret s := rfl
def xloopK (P : Program) (X : Hints) (H : XHints) (c : Code) (Q : Exit → St → Prop) (s : St) (_ : Tag (X, c, Q)) : Prop := xcode P X H (.loop c) Q s
theorem xcode_loop (c : Code) : xcode P X H (.loop c) Q s = xloopK P X H c Q s (.mk _) := rfl
theorem xcode_cond (c : Operand) (x y : Code) : xcode P X H (.cond c x y) Q s = testK (s.o P 0 c) (xcode P X H x Q s) (xcode P X H y Q s) (.mk _) := rfl
theorem xops_nil (i : Nat) : xops P ops h i [] s K = K s := rfl
def kdK (n : Nat) (A B C : Prop) (_ : Tag (A, B, C)) : Prop := if n = 0 then A else if n = 1 then B else C
theorem kdK_0 (A B C : Prop) : kdK 0 A B C (.mk _) = A := rfl
theorem kdK_1 (A B C : Prop) : kdK 1 A B C (.mk _) = B := rfl
theorem kdK_2 (A B C : Prop) : kdK 2 A B C (.mk _) = C := rfl
theorem stepX_kdK (o : Oper) (n : Nat) : stepX P s o n K = kdK n (gK (boxArg P s o) (stepF P s o fun e => K (s.app o.dst e)) (fun k => estepF P s o k K) (.mk _)) (stepT P s o K) (stepM P s o K) (.mk _) := by
  unfold stepX kdK
  rw [stepG_gK]
theorem xops_cons (i : Nat) (dst : Option Nat) (op : Op) (ty : TypeId) (p : String) (af : Array Edge) :
    xops P ops h i (⟨dst, op, ty, p, af, none⟩ :: r) s K = kdK (kdO h i)
      (gK (boxArg P s ⟨dst, op, ty, p, af, none⟩) (stepF P s ⟨dst, op, ty, p, af, none⟩ (fun e => xops P ops h (i + 1) r (s.app dst e) K)) (fun k => estepF P s ⟨dst, op, ty, p, af, none⟩ k (fun s' => xops P ops h (i + 1) r s' K)) (.mk _))
      (stepT P s ⟨dst, op, ty, p, af, none⟩ (fun s' => xops P ops h (i + 1) r s' K)) (stepM P s ⟨dst, op, ty, p, af, none⟩ (fun s' => xops P ops h (i + 1) r s' K)) (.mk _) := by
  rw [← stepX_kdK (K := fun s' => xops P ops h (i + 1) r s' K)]
  simp [xops, wantA]
theorem xops_guard (i : Nat) (dst : Option Nat) (op : Op) (ty : TypeId) (p : String) (af : Array Edge) (j : Nat) (want : Bool) :
    xops P ops h i (⟨dst, op, ty, p, af, some (j, want)⟩ :: r) s K = guardK s (gdst ops j) want (kdK (kdO h i)
      (gK (boxArg P s ⟨dst, op, ty, p, af, none⟩) (stepF P s ⟨dst, op, ty, p, af, none⟩ (fun e => xops P ops h (i + 1) r (s.app dst e) K)) (fun k => estepF P s ⟨dst, op, ty, p, af, none⟩ k (fun s' => xops P ops h (i + 1) r s' K)) (.mk _))
      (stepT P s ⟨dst, op, ty, p, af, none⟩ (fun s' => xops P ops h (i + 1) r s' K)) (stepM P s ⟨dst, op, ty, p, af, none⟩ (fun s' => xops P ops h (i + 1) r s' K)) (.mk _)) (xops P ops h (i + 1) r (s.skip dst) K) (.mk _) := by
  have e : xops P ops h i (⟨dst, op, ty, p, af, some (j, want)⟩ :: r) s K = (match wantA ops s ⟨dst, op, ty, p, af, some (j, want)⟩ with
    | none => False
    | some c => (c = true → stepX P s ⟨dst, op, ty, p, af, none⟩ (kdO h i) fun s' => xops P ops h (i + 1) r s' K) ∧ (c = false → xops P ops h (i + 1) r (s.skip dst) K)) := rfl
  rw [e]
  rw [stepX_kdK (K := fun s' => xops P ops h (i + 1) r s' K)]
  unfold wantA gdst guardK testG
  simp only
  cases (ops[j]?).bind (·.dst) with
  | none => rfl
  | some d =>
    simp only
    cases s.t d with
    | v v => cases v <;> rfl
    | tup l => cases l <;> simp
    | _ => rfl
def thawK (P : Program) (f : FuncId) (xs : List AV) (K : Value → Prop) (_ : Tag K) : Prop := ∃ v, Con P f xs 0 (.v v) ∧ K v
theorem thawK_intro {f : FuncId} {xs : List AV} {v : Value} {K : Value → Prop} {t : Tag K} (h : Con P f xs 0 (.v v)) (hK : K v) : thawK P f xs K t := ⟨v, h, hK⟩
theorem stepT_call (f : FuncId) (args : List Operand) (ts : List TypeId) (d : Nat) (ty : TypeId) (p : String) (af : Array Edge) (gd : Option (Nat × Bool)) :
    stepT P s ⟨some d, .call { callee := .value (.func f), args := args.toArray, argTypes := ts.toArray }, ty, p, af, gd⟩ K =
      ((args.length ≤ ts.length ∧ ((argsAV P s args ts).map (thw s)).all cleanV = true) ∧ thawK P f ((argsAV P s args ts).map (thw s)) (fun v => K (s.set d (.v v))) (.mk _)) := by
  unfold stepT thawK
  simp [St.o, and_assoc]
theorem thw_v (v : Value) : thw s (.v v) = .v v := rfl
theorem thw_list (sz : Nat) (xs : List (List AV)) (tk : Tok) : thw s (.list sz xs tk) = .list sz xs tk := rfl
theorem thw_agg (l : List AV) : thw s (.agg l) = .agg l := rfl
theorem thw_clo (f : FuncId) (l : List AV) : thw s (.clo f l) = .clo f l := rfl
theorem thw_sl (k : Key) (n sz : Nat) : thw s (.sl k n sz) = thB (.sl k n sz) n sz (s.b k) := rfl
theorem thB_some (x : AV) (n sz : Nat) (l : List AV) (z : Bool) : thB x n sz (some ⟨l, z⟩) = if n = l.length ∧ sz = 1 ∧ l.all clean = true then .list 1 (l.map fun y => [y]) .no else x := rfl
theorem bi_clean (l : List Int) : (bi l).all clean = true := by simp [bi, clean]
theorem bi_list (l : List Int) : (bi l).map (fun y => [y]) = l.map fun n => [AV.v (.int .i64 n)] := by simp [bi]
theorem fgtV_sl (k : Key) (n sz : Nat) : fgtV (.sl k n sz) = .sl k n sz := rfl
theorem xcall_t (d u : Nat) (b : Bool) (k k1 k2 : Key) (c : List AV) (l m : List Int) : (s.xcall (some d) b k k1 k2 c l m).t u = if u = d then .v (.bool b) else s.t u := rfl
theorem xcall_t0 (b : Bool) (k k1 k2 : Key) (c : List AV) (l m : List Int) : (s.xcall none b k k1 k2 c l m).t = s.t := rfl
theorem xcall_b (d : Option Nat) (b : Bool) (k k1 k2 k' : Key) (c : List AV) (l m : List Int) : (s.xcall d b k k1 k2 c l m).b k' = if k' = k2 then some ⟨bi m, false⟩ else if k' = k1 then some ⟨bi l, false⟩ else if k' = k then some ⟨c, false⟩ else s.b k' := rfl
theorem xcall_d (d : Option Nat) (b : Bool) (k k1 k2 : Key) (c : List AV) (l m : List Int) : (s.xcall d b k k1 k2 c l m).d = s.d := rfl
theorem xcall_g (d : Option Nat) (b : Bool) (k k1 k2 : Key) (c : List AV) (l m : List Int) : (s.xcall d b k k1 k2 c l m).g = s.g := rfl
theorem stepM_intro {dst : Option Nat} {f : FuncId} {x0 : Operand} {xs : List Operand} {t0 : TypeId} {ts : List TypeId} {ty : TypeId} {ps : String} {af : Array Edge} {gd : Option (Nat × Bool)} (k k1 k2 : Key) {p : List AV} {q : AV} {l m : List Int} {b : Bool} {args : List AV}
    (hx : XCon P f args p q l m b) (ha : argsAV P s xs ts = args) (hl : xs.length ≤ ts.length) (hc : args.all cleanV = true) (h1 : s.o P t0 x0 = .box k 0) (h2 : s.b k = some ⟨xcell p k1 k2 l.length m.length q, false⟩) (h3 : s.b k1 = some ⟨bi l, false⟩)
    (h4 : s.b k2 = some ⟨bi m, false⟩) (hp : p.all clean = true) (hq : clean q = true) (hne : k ≠ k1 ∧ k ≠ k2 ∧ k1 ≠ k2)
    (hK : ∀ l' m' : List Int, l'.length = l.length → m'.length = m.length → (b = false → l' = l ∧ m' = m) → K (s.xcall dst b k k1 k2 (xcell p k1 k2 l.length m.length q) l' m')) :
    stepM P s ⟨dst, .call { callee := .value (.func f), args := (x0 :: xs).toArray, argTypes := (t0 :: ts).toArray }, ty, ps, af, gd⟩ K := by
  subst ha
  exact ⟨f, x0, xs, t0, ts, k, k1, k2, p, q, l, m, b, rfl, rfl, rfl, hl, h1, h2, ⟨hp, hq⟩, h3, h4, hne, hc, hx, hK⟩
theorem xcode_congr {c : Code} {s s' : St} {Q : Exit → St → Prop} (e : s = s') : xcode P X H c Q s = xcode P X H c Q s' := by rw [e]
theorem xops_congr {i : Nat} {l : List Oper} {s s' : St} {K : St → Prop} (e : s = s') : xops P ops h i l s K = xops P ops h i l s' K := by rw [e]
theorem stepM_congr {o : Oper} {s s' : St} {K : St → Prop} (e : s = s') : stepM P s o K = stepM P s' o K := by rw [e]
theorem stepT_congr {o : Oper} {s s' : St} {K : St → Prop} (e : s = s') : stepT P s o K = stepT P s' o K := by rw [e]
attribute [congr] xcode_congr xops_congr stepM_congr stepT_congr
theorem xloopK_intro {α : Type} {c : Code} {t : Tag (X, c, Q)} (I : α → St → Prop) (μ : α → Nat) (h0 : ∃ x, I x s) (hr : ∀ x s', I x s' → xcode P X H c (fun e s2 => match e with | .normal => ∃ y, μ y < μ x ∧ I y s2 | e => Q e s2) s') :
    xloopK P X H c Q s t := by
  obtain ⟨x0, h0⟩ := h0
  refine ⟨fun n s' => ∃ x, μ x = n ∧ I x s', ⟨μ x0, x0, rfl, h0⟩, ?_⟩
  rintro n s' ⟨x, rfl, hx⟩
  have := hr x s' hx
  have e : (fun (e : Exit) (s2 : St) => (match e with | .normal => ∃ y, μ y < μ x ∧ I y s2 | e => Q e s2)) = (fun (e : Exit) (s2 : St) => (match e with | .normal => ∃ m, m < μ x ∧ ∃ y, μ y = m ∧ I y s2 | e => Q e s2)) := by
    funext e s2
    cases e with
    | normal => exact propext ⟨fun ⟨y, h1, h2⟩ => ⟨_, h1, y, rfl, h2⟩, fun ⟨m, h1, y, h2, h3⟩ => ⟨y, h2 ▸ h1, h3⟩⟩
    | _ => rfl
  rw [e] at this
  exact this
attribute [go_sem] hkK_none hkK_some hkO_nil hkO_cons kdO_nil kdO_cons kdK_0 kdK_1 kdK_2 thw_v thw_list thw_agg thw_clo thw_sl thB_some bi_clean bi_list fgtV_sl xcall_t xcall_t0 xcall_b xcall_d xcall_g
attribute [go_sem ↓] xcode_region xcode_skip xcode_seq xcode_block xcode_scope xcode_exit xcode_ret xcode_loop xcode_cond xops_nil xops_cons xops_guard stepT_call

/-! ### A slice of the call's own that may still be written -/
variable {N : Nat} {w0 : World} {C0 : CMap} {E : EX} {a : Act} {w : World} {C : CMap} {ρ : RMap} {τ : TMap}
def retB (P : Program) (rs : List ResultVar) (n : Nat) (l : List AV) : Exit → St → Prop
  | .ret, s | .normal, s => oK (resAV P s rs) (fun xs => ∃ k m, one xs = .sl k n m ∧ s.b k = some ⟨l, false⟩ ∧ l.all clean = true) (.mk _)
  | _, _ => False
theorem retB_ret {rs : List ResultVar} {n : Nat} {l : List AV} : retB P rs n l .ret s = oK (resAV P s rs) (fun xs => ∃ k m, one xs = .sl k n m ∧ s.b k = some ⟨l, false⟩ ∧ l.all clean = true) (.mk _) := rfl
theorem retB_normal {rs : List ResultVar} {n : Nat} {l : List AV} : retB P rs n l .normal s = oK (resAV P s rs) (fun xs => ∃ k m, one xs = .sl k n m ∧ s.b k = some ⟨l, false⟩ ∧ l.all clean = true) (.mk _) := rfl
attribute [go_sem] retB_ret retB_normal
theorem bcon_of {D : List Ap → Array Oper → Bool} (hD : DOK P D) {X : Hints} {f : FuncId} {fn : Func} {c : Code} {rs : List ResultVar} {args : List AV} {n : Nat} {l : List AV} (hf : P.funcs[f]? = some fn) (hname : (fn.name == "runtime.NumGoroutine") = false) (hb : fn.body = some c)
    (hrs : fn.results.toList = rs) (hN : (dstOK fn.ntmps c && draws D X c && decide (args.length ≤ fn.ntmps)) = true) (h : acode P X c (retB P rs n l) (s0 args)) : BCon P f args n l := by
  refine ⟨enters_of hf hname hb, ?_⟩
  intro C w vs hC hl hv
  rw [Bool.and_eq_true] at hN
  refine calls_of_wp hf hb (acode_sound (N := fn.ntmps) (w0 := w) (C0 := C) (E := EX.none) hD c _ _ _ _ _ hN.1 ?_ h ⟨C, noρ, noτ, s0_rep hC hl hv (of_decide_eq_true hN.2)⟩)
  intro e s' a' w' hq hr
  obtain ⟨C', ρ', τ', hr⟩ := hr
  have main : oK (resAV P s' rs) (fun xs => ∃ k m, one xs = .sl k n m ∧ s'.b k = some ⟨l, false⟩ ∧ l.all clean = true) (.mk _) → a'.defers = [] ∧ ∃ v, (results fn a'.tmps).run P w' = .ok v w' ∧
      ∃ (b c : Nat) (C' : CMap) (cs : Array Value) (ty : TypeId), Ending.returned v = .returned (.slice (some ⟨b, 0, none⟩) n c) ∧ n ≤ c ∧ c ≤ maxLen ∧ Below w.heap.size w w' ∧ (∀ b o v, C b o = some v → C' b o = some v) ∧
      (∀ b o v, C' b o = some v → C b o = some v ∨ w.heap.size ≤ b) ∧ CW C' w' ∧ w.heap.size ≤ b ∧ w'.heap[b]? = some (.cells cs ty (0, 0)) ∧ cs.size = l.length ∧ (∀ (i : Nat) (v : Value), cs[i]? = some v → v.oneCell' = true) ∧
      (∀ (i : Nat) (v : Value) (x : AV), cs[i]? = some v → l[i]? = some x → RV C' noρ noτ v x) ∧ ∀ o, C' b o = none := by
    intro hq
    unfold oK at hq
    split at hq
    case h_2 => exact hq.elim
    rename_i xs hxs
    obtain ⟨k, m, hone, hB, hcl⟩ := hq
    obtain ⟨v, hrun, hv⟩ := results_run (P := P) (fn := fn) hr (by rw [hrs]; exact hxs)
    rw [hone] at hv
    obtain ⟨b, c, rfl, hρ, h1, h2⟩ := rv_sl hv
    obtain ⟨b', hρ', ⟨⟨cs, ty, g1, g2, g3, g4, _⟩, g6⟩, g7⟩ := hr.bx _ _ hB
    rw [hρ] at hρ'; cases hρ'
    refine ⟨hr.df, _, hrun, b, c, C', cs, ty, rfl, h1, h2, ⟨hr.fr.os, hr.fr.tape, hr.fr.output, hr.fr.size, fun k hk => hr.fr.block k hk id⟩, fun b o v h => hr.c0 _ _ _ h, ?_, hr.cw, g7.resolve_right id, g1, g2, g3, fun i v x hv hx => clean_rv (g4 i v x hv hx) (List.all_eq_true.1 hcl x (List.mem_of_getElem? hx)), g6 rfl⟩
    intro b o v h
    rcases Nat.lt_or_ge b w.heap.size with hlt | hge
    · exact (hr.c1 _ _ _ hlt h).imp_right fun h => h.elim
    · exact .inr hge
  cases e with
  | ret => exact main hq
  | normal => exact main hq
  | _ => exact hq.elim

/-! ### Functions that turn two lists -/
def s3 (args p : List AV) (q : AV) (l m : List Int) : St :=
  { t := fun u => if u = 0 then .box (0, 0, 0) 0 else args.getD (u - 1) .any
    b := fun k => if k = (0, 0, 0) then some ⟨xcell p (0, 0, 1) (0, 0, 2) l.length m.length q, false⟩ else if k = (0, 0, 1) then some ⟨bi l, false⟩ else if k = (0, 0, 2) then some ⟨bi m, false⟩ else none
    d := fun _ => false
    g := fun u => if u = 0 then 1 else 0 }
theorem s3_t (args p : List AV) (q : AV) (l m : List Int) (u : Nat) : (s3 args p q l m).t u = if u = 0 then .box (0, 0, 0) 0 else args.getD (u - 1) .any := rfl
theorem s3_b (args p : List AV) (q : AV) (l m : List Int) (k : Key) : (s3 args p q l m).b k = if k = (0, 0, 0) then some ⟨xcell p (0, 0, 1) (0, 0, 2) l.length m.length q, false⟩ else if k = (0, 0, 1) then some ⟨bi l, false⟩ else if k = (0, 0, 2) then some ⟨bi m, false⟩ else none := rfl
theorem s3_d (args p : List AV) (q : AV) (l m : List Int) (k : Key) : (s3 args p q l m).d k = false := rfl
theorem s3_g (args p : List AV) (q : AV) (l m : List Int) (u : Nat) : (s3 args p q l m).g u = if u = 0 then 1 else 0 := rfl
attribute [go_sem] s3_t s3_b s3_d s3_g
def retX (P : Program) (rs : List ResultVar) (p : List AV) (q : AV) (l m : List Int) (b : Bool) : Exit → St → Prop
  | .ret, s | .normal, s => oK (resAV P s rs) (fun xs => one xs = .v (.bool b) ∧ ∃ l' m' : List Int, s.b (0, 0, 0) = some ⟨xcell p (0, 0, 1) (0, 0, 2) l.length m.length q, false⟩ ∧ s.b (0, 0, 1) = some ⟨bi l', false⟩ ∧ s.b (0, 0, 2) = some ⟨bi m', false⟩ ∧
      l'.length = l.length ∧ m'.length = m.length ∧ (b = false → l' = l ∧ m' = m)) (.mk _)
  | _, _ => False
theorem retX_ret {rs : List ResultVar} {p : List AV} {q : AV} {l m : List Int} {b : Bool} : retX P rs p q l m b .ret s = oK (resAV P s rs) (fun xs => one xs = .v (.bool b) ∧ ∃ l' m' : List Int, s.b (0, 0, 0) = some ⟨xcell p (0, 0, 1) (0, 0, 2) l.length m.length q, false⟩ ∧ s.b (0, 0, 1) = some ⟨bi l', false⟩ ∧ s.b (0, 0, 2) = some ⟨bi m', false⟩ ∧
      l'.length = l.length ∧ m'.length = m.length ∧ (b = false → l' = l ∧ m' = m)) (.mk _) := rfl
theorem retX_normal {rs : List ResultVar} {p : List AV} {q : AV} {l m : List Int} {b : Bool} : retX P rs p q l m b .normal s = oK (resAV P s rs) (fun xs => one xs = .v (.bool b) ∧ ∃ l' m' : List Int, s.b (0, 0, 0) = some ⟨xcell p (0, 0, 1) (0, 0, 2) l.length m.length q, false⟩ ∧ s.b (0, 0, 1) = some ⟨bi l', false⟩ ∧ s.b (0, 0, 2) = some ⟨bi m', false⟩ ∧
      l'.length = l.length ∧ m'.length = m.length ∧ (b = false → l' = l ∧ m' = m)) (.mk _) := rfl
attribute [go_sem] retX_ret retX_normal
def ρ3 (x y z : Nat) : RMap := fun k => if k = (0, 0, 0) then some x else if k = (0, 0, 1) then some y else if k = (0, 0, 2) then some z else none
theorem ρ3_some {x y z b : Nat} {k : Key} (h : ρ3 x y z k = some b) : (k = (0, 0, 0) ∧ b = x) ∨ (k = (0, 0, 1) ∧ b = y) ∨ (k = (0, 0, 2) ∧ b = z) := by
  unfold ρ3 at h
  split at h
  · cases h; exact .inl ⟨by assumption, rfl⟩
  · split at h
    · cases h; exact .inr (.inl ⟨by assumption, rfl⟩)
    · split at h
      · cases h; exact .inr (.inr ⟨by assumption, rfl⟩)
      · cases h
theorem s3_box {args p : List AV} {q : AV} {l m : List Int} {k : Key} {B : Box} (h : (s3 args p q l m).b k = some B) :
    (k = (0, 0, 0) ∧ B = ⟨xcell p (0, 0, 1) (0, 0, 2) l.length m.length q, false⟩) ∨ (k = (0, 0, 1) ∧ B = ⟨bi l, false⟩) ∨ (k = (0, 0, 2) ∧ B = ⟨bi m, false⟩) := by
  rw [s3_b] at h
  split at h
  · cases h; exact .inl ⟨by assumption, rfl⟩
  · split at h
    · cases h; exact .inr (.inl ⟨by assumption, rfl⟩)
    · split at h
      · cases h; exact .inr (.inr ⟨by assumption, rfl⟩)
      · cases h
theorem s3_rep {args p : List AV} {q : AV} {l m : List Int} {x y z : Nat} {vs : Array Value} {w : World} (hC : CW C w) (hX : XB C w x y z p q l m) (hl : vs.size = args.length)
    (hv : ∀ (i : Nat) (v : Value) (x : AV), vs[i]? = some v → args[i]? = some x → RV C noρ noτ v x) (hN : args.length + 1 ≤ N) :
    RepG N w C ⟨fun i => i = x ∨ i = y ∨ i = z, ρ3 x y z⟩ (s3 args p q l m)
      { tmps := (#[Value.pointer (some ⟨x, 0, none⟩)] ++ vs) ++ Array.replicate (N - (#[Value.pointer (some ⟨x, 0, none⟩)] ++ vs).size) undef, defers := [] } w C (ρ3 x y z) noτ := by
  obtain ⟨cs, ty, c, d, g1, g2, g3, g4, g5, g6, g7, g8, g9, g10, g11⟩ := hX.ex
  obtain ⟨ty1, y1⟩ := hX.b1
  obtain ⟨ty2, z1⟩ := hX.b2
  have r0 : ρ3 x y z (0, 0, 0) = some x := rfl
  have r1 : ρ3 x y z (0, 0, 1) = some y := rfl
  have r2 : ρ3 x y z (0, 0, 2) = some z := rfl
  exact
  { df := rfl
    sz := by simp; omega
    tm := by
      intro t
      cases t with
      | zero => simpa [s3, Array.getElem?_append] using RV.box (0, 0, 0) x 0 r0
      | succ t =>
        simp only [s3, Nat.add_one_ne_zero, if_false, Nat.add_sub_cancel]
        by_cases ht : t < args.length
        · have h1 : t < vs.size := by omega
          have e : (#[Value.pointer (some ⟨x, 0, none⟩)] ++ vs ++ Array.replicate (N - (#[Value.pointer (some ⟨x, 0, none⟩)] ++ vs).size) undef).getD (t + 1) undef = vs[t] := by
            rw [Array.getD_eq_getD_getElem?, Array.getElem?_append_left (by simp; omega), Array.getElem?_append_right (by simp)]
            simp [h1]
          rw [e]
          simp only [List.getD, List.getElem?_eq_getElem ht, Option.getD_some]
          exact (hv t _ _ (by simp [h1]) (by simp [ht])).lift _ _
        · rw [List.getD, List.getElem?_eq_none (by omega)]
          exact .any _
    cw := hC
    c0 := fun _ _ _ h => h
    c1 := fun _ _ _ _ h => .inl h
    bx := by
      intro k B h
      rcases s3_box h with ⟨rfl, rfl⟩ | ⟨rfl, rfl⟩ | ⟨rfl, rfl⟩
      · refine ⟨x, r0, ⟨⟨cs, ty, g1, by simpa [xcell] using g2, g3, ?_, fun hz => by cases hz⟩, fun _ o => (hX.f o).1⟩, .inr (.inl rfl)⟩
        intro i u a hu ha
        rcases Nat.lt_or_ge i p.length with hi | hi
        · rw [xcell, List.getElem?_append_left hi] at ha
          exact (g4 i u a hu ha).lift _ _
        · rw [xcell, List.getElem?_append_right hi] at ha
          have hlt := (List.getElem?_eq_some_iff.1 ha).1
          simp at hlt
          have hcase : i = p.length ∨ i = p.length + 1 ∨ i = p.length + 2 := by omega
          rcases hcase with rfl | rfl | rfl
          · simp at ha; subst ha
            rw [g5] at hu; cases hu
            exact .sl _ y _ c 1 r1 g6 g7
          · rw [show p.length + 1 - p.length = 1 by omega] at ha
            simp at ha; subst ha
            rw [g8] at hu; cases hu
            exact .sl _ z _ d 1 r2 g9 g10
          · rw [show p.length + 2 - p.length = 2 by omega] at ha
            simp at ha; subst ha
            exact (g11 u hu).lift _ _
      · exact ⟨y, r1, ⟨⟨ints l, ty1, y1, by rw [ints_size, bi_len], fun i v hv => by obtain ⟨n, _, rfl⟩ := ints_at hv; rfl, fun i v u hv hu => ints_rv hv hu, fun hz => by cases hz⟩, fun _ o => (hX.f o).2.1⟩, .inr (.inr (.inl rfl))⟩
      · exact ⟨z, r2, ⟨⟨ints m, ty2, z1, by rw [ints_size, bi_len], fun i v hv => by obtain ⟨n, _, rfl⟩ := ints_at hv; rfl, fun i v u hv hu => ints_rv hv hu, fun hz => by cases hz⟩, fun _ o => (hX.f o).2.2⟩, .inr (.inr (.inr rfl))⟩
    bj := by
      intro k k' B B' b h h' e e'
      obtain ⟨n1, n2, n3⟩ := hX.ne
      rcases ρ3_some e with ⟨rfl, rfl⟩ | ⟨rfl, rfl⟩ | ⟨rfl, rfl⟩ <;> rcases ρ3_some e' with ⟨rfl, e2⟩ | ⟨rfl, e2⟩ | ⟨rfl, e2⟩ <;> first | rfl | (exfalso; omega)
    tk := fun k v n hk => by cases hk
    tj := fun k k' v v' n n' b hk => by cases hk
    fρ := by
      intro k b h
      rcases ρ3_some h with ⟨rfl, _⟩ | ⟨rfl, _⟩ | ⟨rfl, _⟩ <;> simp [s3]
    fτ := fun k x h => by cases h
    fo := fun k b h => h
    fr := ⟨rfl, rfl, rfl, Nat.le_refl _, fun _ _ _ => rfl⟩ }
theorem xcon_of {D : List Ap → Array Oper → Bool} (hD : DOK P D) {X : Hints} {H : XHints} {f : FuncId} {fn : Func} {c : Code} {rs : List ResultVar} {args p : List AV} {q : AV} {l m : List Int} {b : Bool} (hf : P.funcs[f]? = some fn) (hname : (fn.name == "runtime.NumGoroutine") = false) (hb : fn.body = some c)
    (hrs : fn.results.toList = rs) (hN : (dstOK fn.ntmps c && draws D X c && decide (args.length + 1 ≤ fn.ntmps)) = true) (hp : p.all clean = true) (hcq : clean q = true) (h : xcode P X H c (retX P rs p q l m b) (s3 args p q l m)) : XCon P f args p q l m b := by
  refine ⟨enters_of hf hname hb, ?_⟩
  intro C w x y z vs hC hX hl hv
  rw [Bool.and_eq_true] at hN
  have lx : x < w.heap.size := by obtain ⟨cs, ty, _, _, g, _⟩ := hX.ex; exact heap_lt g
  have ly : y < w.heap.size := by obtain ⟨ty, g⟩ := hX.b1; exact heap_lt g
  have lz : z < w.heap.size := by obtain ⟨ty, g⟩ := hX.b2; exact heap_lt g
  refine calls_of_wp hf hb (xcode_sound (N := fn.ntmps) (w0 := w) (C0 := C) (E := ⟨fun i => i = x ∨ i = y ∨ i = z, ρ3 x y z⟩) hD c _ _ _ _ _ hN.1 ?_ h ⟨C, _, noτ, s3_rep hC hX hl hv (of_decide_eq_true hN.2)⟩)
  intro e s' a' w' hq hr
  obtain ⟨C', ρ', τ', hr⟩ := hr
  have main : oK (resAV P s' rs) (fun xs => one xs = .v (.bool b) ∧ ∃ l' m' : List Int, s'.b (0, 0, 0) = some ⟨xcell p (0, 0, 1) (0, 0, 2) l.length m.length q, false⟩ ∧ s'.b (0, 0, 1) = some ⟨bi l', false⟩ ∧ s'.b (0, 0, 2) = some ⟨bi m', false⟩ ∧
      l'.length = l.length ∧ m'.length = m.length ∧ (b = false → l' = l ∧ m' = m)) (.mk _) → a'.defers = [] ∧ ∃ v, (results fn a'.tmps).run P w' = .ok v w' ∧
      ∃ (C' : CMap) (l' m' : List Int), Ending.returned v = .returned (.bool b) ∧ Fr w (fun i => i = x ∨ i = y ∨ i = z) w' ∧ (∀ b o v, C b o = some v → C' b o = some v) ∧
      (∀ b o v, C' b o = some v → C b o = some v ∨ w.heap.size ≤ b) ∧ CW C' w' ∧ XB C' w' x y z p q l' m' ∧ l'.length = l.length ∧ m'.length = m.length ∧ (b = false → l' = l ∧ m' = m) := by
    intro hq
    unfold oK at hq
    split at hq
    case h_2 => exact hq.elim
    rename_i xs hxs
    obtain ⟨hone, l', m', hB, hB1, hB2, e1, e2, e3⟩ := hq
    obtain ⟨v, hrun, hv⟩ := results_run (P := P) (fn := fn) hr (by rw [hrs]; exact hxs)
    rw [hone] at hv
    obtain ⟨rfl, _⟩ := rv_v hv
    have hρ0 : ρ' (0, 0, 0) = some x := hr.fo (0, 0, 0) x rfl
    have hρ1 : ρ' (0, 0, 1) = some y := hr.fo (0, 0, 1) y rfl
    have hρ2 : ρ' (0, 0, 2) = some z := hr.fo (0, 0, 2) z rfl
    obtain ⟨x', hρ', ⟨⟨cs, ty, g1, g2, g3, g4, _⟩, g6⟩, _⟩ := hr.bx _ _ hB
    rw [hρ0] at hρ'; cases hρ'
    obtain ⟨y', hρ', ⟨⟨cs1, ty1, y1, y2, y3, y4, _⟩, y6⟩, _⟩ := hr.bx _ _ hB1
    rw [hρ1] at hρ'; cases hρ'
    obtain ⟨z', hρ', ⟨⟨cs2, ty2, z1, z2, z3, z4, _⟩, z6⟩, _⟩ := hr.bx _ _ hB2
    rw [hρ2] at hρ'; cases hρ'
    have c1 : cs1 = ints l' := rv_ints (by simpa [bi] using y2) y4
    have c2 : cs2 = ints m' := rv_ints (by simpa [bi] using z2) z4
    subst c1 c2
    have hsz : cs.size = p.length + 3 := by simpa [xcell] using g2
    have sl1 : ∃ c, cs[p.length]? = some (.slice (some ⟨y, 0, none⟩) l'.length c) ∧ l'.length ≤ c ∧ c ≤ maxLen := by
      have hlt : p.length < cs.size := by omega
      have := g4 p.length cs[p.length] (.sl (0, 0, 1) l.length 1) (by simp [hlt]) (by simp [xcell])
      obtain ⟨b, c, e, hb, h1, h2⟩ := rv_sl this
      rw [hρ1] at hb; cases hb
      exact ⟨c, by simp [hlt, e, e1], by omega, h2⟩
    have sl2 : ∃ c, cs[p.length + 1]? = some (.slice (some ⟨z, 0, none⟩) m'.length c) ∧ m'.length ≤ c ∧ c ≤ maxLen := by
      have hlt : p.length + 1 < cs.size := by omega
      have := g4 (p.length + 1) cs[p.length + 1] (.sl (0, 0, 2) m.length 1) (by simp [hlt]) (by simp [xcell])
      obtain ⟨b, c, e, hb, h1, h2⟩ := rv_sl this
      rw [hρ2] at hb; cases hb
      exact ⟨c, by simp [hlt, e, e2], by omega, h2⟩
    obtain ⟨c, s1, s2, s3⟩ := sl1
    obtain ⟨d, t1, t2, t3⟩ := sl2
    refine ⟨hr.df, _, hrun, C', l', m', rfl, hr.fr, fun b o v h => hr.c0 _ _ _ h, ?_, hr.cw, ⟨⟨cs, ty, c, d, g1, hsz, g3, fun i v u hv hu => ?_, s1, s2, s3, t1, t2, t3, fun v hv => ?_⟩, ⟨ty1, y1⟩, ⟨ty2, z1⟩, fun o => ⟨g6 rfl o, y6 rfl o, z6 rfl o⟩, hX.ne⟩, e1, e2, e3⟩
    · intro b o v h
      rcases Nat.lt_or_ge b w.heap.size with hlt | hge
      · rcases hr.c1 _ _ _ hlt h with hh | hh
        · exact .inl hh
        · exfalso
          rcases hh with rfl | rfl | rfl
          · rw [g6 rfl o] at h; cases h
          · rw [y6 rfl o] at h; cases h
          · rw [z6 rfl o] at h; cases h
      · exact .inr hge
    · have hi := (List.getElem?_eq_some_iff.1 hu).1
      exact clean_rv (g4 i v u hv (by rw [xcell, List.getElem?_append_left hi]; exact hu)) (List.all_eq_true.1 hp u (List.mem_of_getElem? hu))
    · exact clean_rv (g4 (p.length + 2) v q hv (by simp [xcell])) hcq
  cases e with
  | ret => exact main hq
  | normal => exact main hq
  | _ => exact hq.elim
end Go.Sy
