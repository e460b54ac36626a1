/- A region that draws its order comes to what the text's order comes to: the proof. -/
import Derived.Test.YtkhheblmgbiniaaB9
set_option linter.unusedVariables false
set_option linter.unusedSectionVars false
namespace Go.Sy
open Go Go.RowKit

variable {N : Nat} {w0 : World} {C0 : CMap} {E : EX} {s s' : St} {a : Act} {w : World} {P : Program} {o o' : Oper} {e : Eff} {ops : Array Oper} {l : List Ap} {T : Nat → Option Stp} {S : Nat → St}

def stF (ops : Array Oper) (γ : Nat → Nat) (T : Nat → Option Stp) (j : Nat) (s : St) : St := match ops[j]? with
  | some o => actS γ o.dst (T j) s
  | none => s

theorem dich_of {V : Type} {f : Nat → St → St} {π : St → V} {R : Nat → Prop} (h : ∀ j, (∀ s, π (f j s) = π s) ∨ (R j ∧ ∃ v, ∀ s, π (f j s) = v)) : Dich f π ∧ ∀ j, Tch f π j → R j :=
  ⟨fun j => (h j).imp_right fun h => h.2, fun j ht => ((h j).resolve_left ht).1⟩

variable {γ : Nat → Nat}
theorem d_t (u : Nat) : Dich (stF ops γ T) (fun s => s.t u) ∧ ∀ j, Tch (stF ops γ T) (fun s => s.t u) j → ∃ o, ops[j]? = some o ∧ o.dst = some u := by
  refine dich_of fun j => ?_
  unfold stF
  cases ops[j]? with
  | none => exact .inl fun _ => rfl
  | some o => exact (act_t o.dst (T j) u).imp_right fun h => ⟨⟨o, rfl, h.1⟩, h.2⟩
theorem d_g (u : Nat) : Dich (stF ops γ T) (fun s => s.g u) ∧ ∀ j, Tch (stF ops γ T) (fun s => s.g u) j → ∃ o, ops[j]? = some o ∧ (o.dst = some u ∨ ∃ k kl g, isEc (T j) k kl g ∧ k.1 = u) := by
  refine dich_of fun j => ?_
  unfold stF
  cases ops[j]? with
  | none => exact .inl fun _ => rfl
  | some o =>
    refine (act_g o.dst (T j) u).imp_right fun h => ?_
    rcases h with ⟨h1, _, h2⟩ | ⟨k, kl, g, h1, h2, h3⟩
    · exact ⟨⟨o, rfl, .inl h1⟩, _, h2⟩
    · exact ⟨⟨o, rfl, .inr ⟨k, kl, g, h1, h2⟩⟩, _, h3⟩
/-- Made here. -/
def Mk (γ : Nat → Nat) (o : Oper) (t : Option Stp) (k : Key) : Prop := o.dst = some k.1 ∧ k.2.1 = γ k.1 ∧ ∃ e, t = some (.ef e)
def StB (t : Option Stp) (k : Key) : Prop := ∃ e, t = some (.ef e) ∧ k ∈ e.st.map Prod.fst
def KlB (t : Option Stp) (k : Key) : Prop := ∃ e, t = some (.ef e) ∧ e.kl = some k
theorem d_b (k : Key) : Dich (stF ops γ T) (fun s => s.b k) ∧ ∀ j, Tch (stF ops γ T) (fun s => s.b k) j → ∃ o, ops[j]? = some o ∧ (StB (T j) k ∨ Mk γ o (T j) k ∨ ∃ kl g, isEc (T j) k kl g) := by
  refine dich_of fun j => ?_
  unfold stF
  cases ops[j]? with
  | none => exact .inl fun _ => rfl
  | some o =>
    refine (act_b o.dst (T j) k).imp_right fun h => ⟨⟨o, rfl, ?_⟩, h.2⟩
    rcases h.1 with h | ⟨h1, h2, e, h3, _⟩ | h
    · exact .inl h
    · exact .inr (.inl ⟨h1, h2, e, h3⟩)
    · exact .inr (.inr h)
theorem d_d (k : Key) : Dich (stF ops γ T) (fun s => s.d k) ∧ ∀ j, Tch (stF ops γ T) (fun s => s.d k) j → ∃ o, ops[j]? = some o ∧ (Mk γ o (T j) k ∨ KlB (T j) k ∨ ∃ k0 kl g, isEc (T j) k0 kl g ∧ (kl = some k ∨ k = (k0.1, g, 0))) := by
  refine dich_of fun j => ?_
  unfold stF
  cases ops[j]? with
  | none => exact .inl fun _ => rfl
  | some o =>
    refine (act_d o.dst (T j) k).imp_right fun h => ⟨⟨o, rfl, ?_⟩, h.2⟩
    rcases h.1 with ⟨h1, h2, e, h3, _⟩ | h | h
    · exact .inl ⟨h1, h2, e, h3⟩
    · exact .inr (.inl h)
    · exact .inr (.inr h)

structure Txt (P : Program) (N : Nat) (w0 : World) (C0 : CMap) (E : EX) (ops : Array Oper) (l : List Ap) (T : Nat → Option Stp) (S : Nat → St) : Prop where
  ok : OKs P l ops
  tr : ∀ j o, ops[j]? = some o → TR P ops (S j) o (T j) ∧ S (j + 1) = nx (S j) o.dst (T j)
  fin : l.all (ap1 (S ops.size)) = true
  rep : ∀ j, j ≤ ops.size → ∃ a w, Rep N w0 C0 E (S j) a w

namespace Txt
variable (H : Txt P N w0 C0 E ops l T S)
include H

theorem at_ {j : Nat} (hj : j < ops.size) : ∃ o, ops[j]? = some o := ⟨ops[j], by simp [hj]⟩
theorem lt_ {j : Nat} (hj : ops[j]? = some o) : j < ops.size := (Array.getElem?_eq_some_iff.1 hj).1

theorem t_end (hl : l ≠ []) {i u : Nat} (hi : ops[i]? = some o) (hu : u ∈ Oper.looksAt ops o) : (S i).t u = (S ops.size).t u := by
  have key : ∀ m, i ≤ m → m ≤ ops.size → (S m).t u = (S i).t u := by
    intro m hm
    induction hm with
    | refl => intro _; rfl
    | @step m hm ih =>
      have hm : i ≤ m := hm
      intro hn
      obtain ⟨q, hq⟩ := H.at_ (show m < ops.size by omega)
      rw [(H.tr m q hq).2, nx_t, ih (by omega)]
      intro hd
      by_cases hmi : m = i
      · subst hmi
        rw [hi] at hq; cases hq
        exact H.ok.self _ _ _ hi hd hu
      · have := (H.ok.last hl i m o q u hi hq (Ne.symm hmi) hd hu).lt H.ok
        omega
  have hin := H.lt_ hi
  exact (key ops.size (by omega) (Nat.le_refl _)).symm

theorem ec {i : Nat} {k : Key} {kl : Option Key} {g : Nat} (hi : ops[i]? = some o) (hT : isEc (T i) k kl g) :
    pcall P o = true ∧ (∀ (j : Nat) o' d, ops[j]? = some o' → o'.dst = some d → k.1 ≠ d) ∧
    (∀ (j : Nat) o', ops[j]? = some o' → accB o' = true → j ≠ i → OrdR ops i j ∨ ∀ y ∈ addrs o', ∀ k' off, (S ops.size).t y = .box k' off → k' ≠ k) ∧ g = (S i).g k.1 ∧
    (∃ y, (S i).t y = .box k 0 ∧ y ∈ Oper.looksAt ops o) ∧ (∃ v c, EEvK P (S i) o k v c kl) ∧ l ≠ [] := by
  obtain ⟨v, c, hT⟩ := hT
  obtain ⟨he, hg⟩ := (H.tr i o hi).1.e _ hT
  obtain ⟨h1, ⟨x0, hx0, hr, t, hb⟩, _⟩ := EEvK_facts he
  obtain ⟨x, ys, ds, hq, hrx, hds, hacc⟩ := H.ok.cov i o hi h1
  rw [hr] at hrx
  cases hrx
  have hlook : x ∈ Oper.looksAt ops o := by
    simp only [Oper.looksAt, List.mem_append, List.mem_filterMap]
    exact .inl ⟨.tmp x, by simpa using hx0, rfl⟩
  have hxe : (S ops.size).t x = .box k 0 := by rw [← H.t_end (List.ne_nil_of_mem hq) hi hlook]; exact hb
  have hap := List.all_eq_true.1 H.fin _ hq
  simp only [ap1, hxe, ap2, Bool.and_eq_true, List.all_eq_true] at hap
  refine ⟨h1, ?_, ?_, hg, ⟨x, hb, hlook⟩, ⟨v, c, he⟩, List.ne_nil_of_mem hq⟩
  · intro j o' d hj hd
    simpa using hap.2 d (hds j o' d hj hd)
  · intro j o' hj ha hne
    refine (hacc j o' hj ha hne).imp_right fun h y hy k' off hk' => ?_
    have := hap.1 y (h y hy)
    simpa [ap0, hk'] using this

theorem notec {i j : Nat} {d : Nat} (hi : ops[i]? = some o) (hd : o.dst = some d) (hj : ops[j]? = some o') {k : Key} {kl : Option Key} {g : Nat} (hT : isEc (T j) k kl g) : k.1 ≠ d :=
  (H.ec hj hT).2.1 i o d hi hd

theorem g_text {i j : Nat} {d : Nat} (hi : ops[i]? = some o) (hd : o.dst = some d) (hj : j ≤ i) : (S j).g d = (S 0).g d := by
  induction j with
  | zero => rfl
  | succ j ih =>
    have hin := H.lt_ hi
    obtain ⟨q, hq⟩ := H.at_ (show j < ops.size by omega)
    rw [(H.tr j q hq).2, nx_g, ih (by omega)]
    · intro hd'
      have := H.ok.dist i j o q d hi hq hd hd'
      omega
    · intro k v c kl g hT
      exact H.notec hi hd hq ⟨v, c, hT⟩

theorem mono {j m u : Nat} (h : j ≤ m) (hm : m ≤ ops.size) : (S j).g u ≤ (S m).g u := by
  induction h with
  | refl => exact Nat.le_refl _
  | @step m hjm ih =>
    obtain ⟨q, hq⟩ := H.at_ (show m < ops.size by omega)
    rw [(H.tr m q hq).2]
    exact Nat.le_trans (ih (by omega)) (nx_mono u)

theorem dead {j m : Nat} {k : Key} (h : j ≤ m) (hm : m ≤ ops.size) (hk : k.2.1 < (S j).g k.1) (hd : (S j).d k = true) : (S m).d k = true := by
  induction h with
  | refl => exact hd
  | @step m hjm ih =>
    obtain ⟨q, hq⟩ := H.at_ (show m < ops.size by omega)
    rw [(H.tr m q hq).2]
    refine nx_dead (Nat.lt_of_lt_of_le hk (H.mono hjm (by omega))) (ih (by omega)) ?_
    intro k' v c kl g hT
    exact (H.ec hq ⟨v, c, hT⟩).2.2.2.1

theorem step {j : Nat} (hj : ops[j]? = some o) : S (j + 1) = stF ops (S 0).g T j (S j) := by
  rw [(H.tr j o hj).2, stF, hj]
  refine (actS_nx ?_ ?_).symm
  · intro d hd
    exact H.g_text hj hd (Nat.le_refl _)
  · intro k v c kl g hT
    exact (H.ec hj ⟨v, c, hT⟩).2.2.2.1

theorem fold {j : Nat} (hj : j ≤ ops.size) : S j = (List.range j).foldl (fun s j => stF ops (S 0).g T j s) (S 0) := by
  induction j with
  | zero => rfl
  | succ j ih =>
    obtain ⟨q, hq⟩ := H.at_ (show j < ops.size by omega)
    rw [List.range_succ, List.foldl_append, ← ih (by omega)]
    exact H.step hq

/-- Who makes a key comes before who knows it. -/
theorem made {i j : Nat} {k : Key} (hj : ops[j]? = some o) (hm : Mk (S 0).g o (T j) k) (hi : i ≤ ops.size) (hk : k.2.1 < (S i).g k.1) : j < i := by
  rcases Nat.lt_or_ge j i with h | h
  · exact h
  · have := H.g_text hj hm.1 h
    have := hm.2.1
    omega

/-- Two appends that both let one token die are one. -/
theorem kill_one {i j : Nat} {k : Key} (hi : ops[i]? = some o) (hj : ops[j]? = some o') (h1 : KlB (T i) k) (h2 : KlB (T j) k) : i = j := by
  have key : ∀ {i j : Nat} {o o' : Oper}, ops[i]? = some o → ops[j]? = some o' → KlB (T i) k → KlB (T j) k → i < j → False := by
    intro i j o o' hi hj ⟨e1, hT1, hk1⟩ ⟨e2, hT2, hk2⟩ hij
    have hv1 : Ev P (S i) o e1 := (H.tr i o hi).1.e _ hT1
    have hv2 : Ev P (S j) o' e2 := (H.tr j o' hj).1.e _ hT2
    obtain ⟨_, hd1, y1, _, sz, xs, hy1, _⟩ := ev_kl hv1 hk1
    obtain ⟨_, _, y2, _, _, _, _, hlive⟩ := ev_kl hv2 hk2
    have hin := H.lt_ hi
    have hjn := H.lt_ hj
    obtain ⟨a, w, hr⟩ := H.rep i (by omega)
    have hlt := rep_tok hr hy1
    obtain ⟨d, hd⟩ := Option.isSome_iff_exists.1 hd1
    have hdead : (S (i + 1)).d k = true := by
      rw [(H.tr i o hi).2, hT1, hd]
      exact nx_kill hlt hk1
    have := H.dead (j := i + 1) (m := j) (by omega) (by omega) (Nat.lt_of_lt_of_le hlt (H.mono (by omega) (by omega))) hdead
    rw [this] at hlive
    cases hlive
  rcases Nat.lt_trichotomy i j with h | h | h
  · exact (key hi hj h1 h2 h).elim
  · exact h
  · exact (key hj hi h2 h1 h).elim

end Txt

/-- The keys that a step reads and turns. -/
def Keys (t : Option Stp) (k : Key) : Prop := StB t k ∨ KlB t k ∨ ∃ kl g k0, isEc t k0 kl g ∧ (k = k0 ∨ kl = some k)
def InvX (T : Nat → Option Stp) (X : Nat → Prop) (s : St) : Prop := ∀ j, X j → ∀ k, Keys (T j) k → k.2.1 < s.g k.1

noncomputable abbrev sx (ops : Array Oper) (T : Nat → Option Stp) (S : Nat → St) (X : Nat → Prop) : St := SX (stF ops (S 0).g T) ops.size (S 0) X

structure Rdy (ops : Array Oper) (X : Nat → Prop) (i : Nat) (o : Oper) : Prop where
  cl : Clos ops X
  lt : ∀ j, X j → j < ops.size
  at_ : ops[i]? = some o
  no : ¬ X i
  pre : ∀ e ∈ o.after, Region.binds .any e = true → X e.on

theorem Rdy.anc {X : Nat → Prop} {i j : Nat} (R : Rdy ops X i o) (h : AncR ops i j) : X j := by
  cases h with
  | one h he hb => rw [R.at_] at h; cases h; exact R.pre _ he hb
  | more h he hb hr => rw [R.at_] at h; cases h; exact R.cl.anc hr (R.pre _ he hb)
theorem Rdy.ord {X : Nat → Prop} {i j : Nat} (hO : OKs P l ops) (R : Rdy ops X i o) (h : OrdR ops i j) : X j ↔ j < i := by
  rcases h with h | h
  · exact ⟨fun _ => h.lt hO, fun _ => R.anc h⟩
  · have := h.lt hO
    exact ⟨fun hj => absurd (R.cl.anc h hj) R.no, fun hj => by omega⟩
theorem Rdy.me {X : Nat → Prop} {i : Nat} (R : Rdy ops X i o) : X i ↔ i < i := ⟨fun h => absurd h R.no, fun h => by omega⟩

theorem stF_mono {u : Nat} {i : Nat} (hi : ops[i]? = some o) (hg : ∀ d, o.dst = some d → s.g d = (S 0).g d) (hec : ∀ k kl g, isEc (T i) k kl g → g = s.g k.1) : s.g u ≤ (stF ops (S 0).g T i s).g u := by
  rw [stF, hi]
  simp only
  rw [actS_nx hg (fun k v c kl g hT => hec k kl g ⟨v, c, hT⟩)]
  exact nx_mono u

namespace Txt
variable (H : Txt P N w0 C0 E ops l T S) {X : Nat → Prop} {i : Nat}
include H

/-- A slot whose maker is not in the set is as old as it was. -/
theorem g_old {j d : Nat} (hj : ops[j]? = some o') (hd : o'.dst = some d) (hX : ¬ X j) : (sx ops T S X).g d = (S 0).g d := by
  have := SX_prefix (s := S 0) (n := ops.size) (X := X) (d_g (ops := ops) (γ := (S 0).g) (T := T) d).1 (i := 0) (Nat.zero_le _) (by
    intro m _ ht
    obtain ⟨q, hq, h⟩ := (d_g d).2 m ht
    refine ⟨fun hm => ?_, fun hm => by omega⟩
    rcases h with h | ⟨k, kl, g, h, hk⟩
    · have := H.ok.dist j m o' q d hj hq hd h
      subst this
      exact absurd hm hX
    · exact absurd hk (H.notec hj hd hq h))
  simpa using this

theorem madeX {j : Nat} {k : Key} (hj : ops[j]? = some o') (hm : Mk (S 0).g o' (T j) k) (hk : k.2.1 < (sx ops T S X).g k.1) : X j := by
  by_cases h : X j
  · exact h
  · have := H.g_old hj hm.1 h
    have := hm.2.1
    omega

variable (R : Rdy ops X i o)
include R

theorem tx {u : Nat} (hu : u ∈ Oper.looksAt ops o) : (S i).t u = (sx ops T S X).t u := by
  have hin := H.lt_ R.at_
  rw [H.fold (Nat.le_of_lt hin)]
  refine (SX_prefix (d_t u).1 (Nat.le_of_lt hin) ?_).symm
  intro j _ ht
  obtain ⟨q, hq, hd⟩ := (d_t u).2 j ht
  by_cases hij : i = j
  · subst hij; exact R.me
  · exact R.ord H.ok (H.ok.look i j o q u R.at_ hq hij hd hu)

theorem ox {x : Operand} (hx : x ∈ o.op.operands) (t : TypeId) : (S i).o P t x = (sx ops T S X).o P t x := by
  cases x with
  | tmp u =>
    refine H.tx R ?_
    simp only [Oper.looksAt, List.mem_append, List.mem_filterMap]
    exact .inl ⟨.tmp u, by simpa using hx, rfl⟩
  | _ => rfl

theorem wx : wantA ops (S i) o = wantA ops (sx ops T S X) o := by
  unfold wantA
  cases hg : o.guard with
  | none => rfl
  | some p =>
    obtain ⟨j, want⟩ := p
    simp only
    cases hd : (ops[j]?).bind (·.dst) with
    | none => rfl
    | some d =>
      simp only
      rw [H.tx R (u := d) (by simp only [Oper.looksAt, List.mem_append]; exact .inr (by simp [hg, hd]))]

theorem gx {d : Nat} (hd : o.dst = some d) : (S i).g d = (sx ops T S X).g d := by
  rw [H.g_old R.at_ hd R.no, H.g_text R.at_ hd (Nat.le_refl _)]

/-- The address slots are looked at. -/
theorem look_addr {y : Nat} (hy : y ∈ addrs o) : y ∈ Oper.looksAt ops o ∧ accB o = true := by
  have key : ∀ {x : Operand}, x ∈ o.op.operands → tmpOf x = some y → y ∈ Oper.looksAt ops o := by
    intro x hx hxy
    simp only [Oper.looksAt, List.mem_append, List.mem_filterMap]
    refine .inl ⟨x, by simpa using hx, ?_⟩
    cases x <;> simp [tmpOf] at hxy ⊢
    exact hxy
  unfold addrs at hy
  split at hy
  · rename_i t x ho
    exact ⟨key (x := x) (by simp [ho, Op.operands]) (by simpa using hy), by simp [accB, ho]⟩
  · rename_i t x v ho
    exact ⟨key (x := x) (by simp [ho, Op.operands]) (by simpa using hy), by simp [accB, ho]⟩
  · rename_i f xs cs ho
    obtain ⟨x, hx, hxy⟩ := List.mem_filterMap.1 hy
    exact ⟨key (x := x) (by simpa [ho, Op.operands] using hx) hxy, by simp [accB, ho]⟩
  · cases hy

end Txt

end Go.Sy
