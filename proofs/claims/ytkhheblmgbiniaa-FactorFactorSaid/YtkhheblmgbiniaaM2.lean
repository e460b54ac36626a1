/- Plain law: the overlaps are the pairs of matchings; as many for b and a. -/
import Derived.Test.YtkhheblmgbiniaaWC
import Derived.Test.YtkhheblmgbiniaaM1
namespace Go.Sy
open Go Go.Proofs

/-- All lists that go on from one by numbers from -1 to below m. -/
def genL (ok : List Int → Int → Bool) (m : Nat) : Nat → List Int → List (List Int)
  | 0, l => [l]
  | k + 1, l => (List.range (m + 1)).flatMap fun (j : Nat) => if ok l ((j : Int) - 1) then genL ok m k (l ++ [(j : Int) - 1]) else []
def oN (a b : Gr) (l : List Int) (n : Int) : Bool := okN a (b.n.getD l.length 0) l n
def oE (a b : Gr) (nodes l : List Int) (n : Int) : Bool := okE a nodes l (b.e.getD l.length (0, 0, 0)) n
theorem ovE_cap (a b : Gr) (nodes : List Int) : ∀ (k : Nat) (l : List Int) (out : List Ov), out.length ≤ 2001 →
    ovE a b nodes k l out = (out ++ (genL (oE a b nodes) a.e.length k l).map (glue a b nodes)).take 2001
  | 0, l, out, h => by
    rw [ovE, genL]
    split
    · exact take_full' (by omega) h _
    · rw [List.take_of_length_le (by simp; omega)]
      rfl
  | k + 1, l, out, h => by
    rw [ovE, genL, List.map_flatMap]
    split
    · exact take_full' (by omega) h _
    · refine fold_cap (fun j o ho => ?_) _ _ h
      by_cases c : oE a b nodes l ((j : Int) - 1) = true
      · have c' : okE a nodes l (b.e.getD l.length (0, 0, 0)) ((j : Int) - 1) = true := c
        rw [if_pos c, if_pos c']
        exact ovE_cap a b nodes k _ _ ho
      · have c' : ¬ okE a nodes l (b.e.getD l.length (0, 0, 0)) ((j : Int) - 1) = true := c
        rw [if_neg c, if_neg c', List.map_nil, List.append_nil, List.take_of_length_le ho]
def ovF (a b : Gr) (nodes : List Int) : List Ov := (genL (oE a b nodes) a.e.length b.e.length []).map (glue a b nodes)
theorem ovN_cap (a b : Gr) : ∀ (k : Nat) (l : List Int) (out : List Ov), out.length ≤ 2001 →
    ovN a b k l out = (out ++ (genL (oN a b) a.n.length k l).flatMap (ovF a b)).take 2001
  | 0, l, out, h => by
    rw [ovN, genL]
    split
    · exact take_full' (by omega) h _
    · rw [ovE_cap a b l _ _ _ h]
      simp [ovF]
  | k + 1, l, out, h => by
    rw [ovN, genL, List.flatMap_assoc]
    split
    · exact take_full' (by omega) h _
    · refine fold_cap (fun j o ho => ?_) _ _ h
      by_cases c : oN a b l ((j : Int) - 1) = true
      · have c' : okN a (b.n.getD l.length 0) l ((j : Int) - 1) = true := c
        rw [if_pos c, if_pos c']
        exact ovN_cap a b k _ _ ho
      · have c' : ¬ okN a (b.n.getD l.length 0) l ((j : Int) - 1) = true := c
        rw [if_neg c, if_neg c', List.flatMap_nil, List.append_nil, List.take_of_length_le ho]
theorem genL_mem {ok : List Int → Int → Bool} {m : Nat} : ∀ (k : Nat) (l q : List Int), q ∈ genL ok m k l ↔ ∃ t : List Int, q = l ++ t ∧ t.length = k ∧ ∀ i (h : i < t.length), -1 ≤ t[i] ∧ t[i] < m ∧ ok (l ++ t.take i) t[i] = true
  | 0, l, q => by
    rw [genL, List.mem_singleton]
    constructor
    · rintro rfl
      exact ⟨[], by simp, rfl, fun i h => by simp at h⟩
    · rintro ⟨t, rfl, h, _⟩
      simp [List.eq_nil_of_length_eq_zero h]
  | k + 1, l, q => by
    rw [genL, List.mem_flatMap]
    constructor
    · rintro ⟨j, hj, h⟩
      have hj := List.mem_range.1 hj
      split at h
      · rename_i c
        obtain ⟨t, rfl, h1, h2⟩ := (genL_mem k _ q).1 h
        refine ⟨((j : Int) - 1) :: t, by simp, by simp [h1], fun i hi => ?_⟩
        cases i with
        | zero => exact ⟨by simp; omega, by simp; omega, by simpa using c⟩
        | succ i =>
          have := h2 i (by simpa using hi)
          refine ⟨by simpa using this.1, by simpa using this.2.1, ?_⟩
          have h3 := this.2.2
          simpa using h3
      · simp at h
    · rintro ⟨t, rfl, h1, h2⟩
      cases t with
      | nil => simp at h1
      | cons x t =>
        have h0 := h2 0 (by simp)
        simp only [List.getElem_cons_zero, List.take_zero, List.append_nil] at h0
        refine ⟨(x + 1).toNat, List.mem_range.2 (by omega), ?_⟩
        have hx : (((x + 1).toNat : Nat) : Int) - 1 = x := by omega
        rw [hx, if_pos h0.2.2]
        refine (genL_mem k _ _).2 ⟨t, by simp, by simpa using h1, fun i hi => ?_⟩
        have := h2 (i + 1) (by simpa using hi)
        simpa using this
theorem genL_nodup {ok : List Int → Int → Bool} {m : Nat} : ∀ (k : Nat) (l : List Int), (genL ok m k l).Nodup
  | 0, l => by simp [genL]
  | k + 1, l => by
    rw [genL, List.nodup_iff_pairwise_ne, List.pairwise_flatMap]
    constructor
    · intro j _
      split
      · exact List.nodup_iff_pairwise_ne.1 (genL_nodup k _)
      · exact List.Pairwise.nil
    · refine List.Pairwise.imp ?_ (List.nodup_iff_pairwise_ne.1 (List.nodup_range (n := m + 1)))
      intro j j' hne x hx y hy e
      subst e
      split at hx
      · split at hy
        · obtain ⟨t, h1, _⟩ := (genL_mem k _ _).1 hx
          obtain ⟨t', h2, _⟩ := (genL_mem k _ _).1 hy
          rw [h1, List.append_assoc, List.append_assoc] at h2
          have := List.append_cancel_left h2
          simp at this
          omega
        · simp at hy
      · simp at hx
/-- A partial injection from the numbers below n to those below m, along a relation; -1: nowhere. -/
structure PI (n m : Nat) (R : Nat → Nat → Prop) (q : List Int) : Prop where
  len : q.length = n
  val : ∀ i, i < n → q.getD i 0 = -1 ∨ ∃ k : Nat, k < m ∧ q.getD i 0 = (k : Int) ∧ R i k
  inj : ∀ i j, i < j → j < n → q.getD i 0 = q.getD j 0 → q.getD i 0 = -1
theorem mem_take {l : List Int} {i : Nat} {x : Int} (hi : i ≤ l.length) : x ∈ l.take i ↔ ∃ j, j < i ∧ l.getD j 0 = x := by
  rw [List.mem_take_iff_getElem]
  constructor
  · rintro ⟨j, hj, rfl⟩
    have : j < l.length := by omega
    exact ⟨j, by omega, getD_at this⟩
  · rintro ⟨j, hj, rfl⟩
    have : j < l.length := by omega
    exact ⟨j, by omega, (getD_at this).symm⟩
theorem genL_PI {R : Nat → Nat → Prop} {ok : List Int → Int → Bool} {n m : Nat} (hok : ∀ l x, ok l x = true ↔ x < 0 ∨ (x ∉ l ∧ R l.length x.toNat)) (q : List Int) : q ∈ genL ok m n [] ↔ PI n m R q := by
  rw [genL_mem]
  constructor
  · rintro ⟨t, h, h1, h2⟩
    rw [List.nil_append] at h
    subst h
    have each : ∀ i, i < n → q.getD i 0 = -1 ∨ ((∃ k : Nat, k < m ∧ q.getD i 0 = (k : Int) ∧ R i k) ∧ q.getD i 0 ∉ q.take i) := by
      intro i hi
      have hi' : i < q.length := by omega
      obtain ⟨a1, a2, a3⟩ := h2 i hi'
      rw [getD_at hi']
      rw [List.nil_append, hok] at a3
      rcases a3 with a3 | ⟨a3, a4⟩
      · exact .inl (by omega)
      · rw [List.length_take, Nat.min_eq_left (by omega)] at a4
        by_cases hneg : q[i] < 0
        · exact .inl (by omega)
        · exact .inr ⟨⟨q[i].toNat, by omega, by omega, a4⟩, a3⟩
    refine ⟨h1, fun i hi => (each i hi).imp id And.left, fun i j hij hj he => ?_⟩
    rcases each j hj with h3 | ⟨_, h3⟩
    · omega
    · exact absurd ((mem_take (by omega)).2 ⟨i, hij, he⟩) h3
  · rintro ⟨h1, h2, h3⟩
    refine ⟨q, rfl, h1, fun i hi => ?_⟩
    have h4 := h2 i (by omega)
    rw [getD_at hi] at h4
    rw [List.nil_append, hok]
    rcases h4 with h4 | ⟨k, hk, h4, h5⟩
    · exact ⟨by omega, by omega, .inl (by omega)⟩
    · refine ⟨by omega, by omega, .inr ⟨fun hm => ?_, ?_⟩⟩
      · obtain ⟨j, hj, he⟩ := (mem_take (by omega)).1 hm
        have := h3 j i hj (by omega) (by rw [he, getD_at hi])
        omega
      · rw [List.length_take, Nat.min_eq_left (by omega), h4]
        simpa using h5
def relN (a b : Gr) (i k : Nat) : Prop := a.n.getD k 0 = b.n.getD i 0
def relE (a b : Gr) (nodes : List Int) (i k : Nat) : Prop := a.e.getD k (0, 0, 0) = ((b.e.getD i (0, 0, 0)).1, nodes.getD (b.e.getD i (0, 0, 0)).2.1.toNat 0, nodes.getD (b.e.getD i (0, 0, 0)).2.2.toNat 0)
theorem memN (a b : Gr) (q : List Int) : q ∈ genL (oN a b) a.n.length b.n.length [] ↔ PI b.n.length a.n.length (relN a b) q :=
  genL_PI (fun l x => by simp [oN, okN, relN]) q
theorem memE (a b : Gr) (nodes q : List Int) : q ∈ genL (oE a b nodes) a.e.length b.e.length [] ↔ PI b.e.length a.e.length (relE a b nodes) q :=
  genL_PI (fun l x => by simp [oE, okE, relE]) q
/-! ### Turned round -/
theorem idxP_cases {α : Type} (p : α → Bool) : ∀ (l : List α), (idxP p l = -1 ∧ ∀ x ∈ l, p x = false) ∨ ∃ (k : Nat) (h : k < l.length), idxP p l = (k : Int) ∧ p l[k] = true
  | [] => .inl ⟨rfl, by simp⟩
  | x :: l => by
    by_cases hx : p x = true
    · exact .inr ⟨0, by simp, by simp [idxP, hx], by simpa using hx⟩
    · rcases idxP_cases p l with ⟨h1, h2⟩ | ⟨k, hk, h1, h2⟩
      · refine .inl ⟨by simp [idxP, hx, h1], ?_⟩
        intro y hy
        rcases List.mem_cons.1 hy with rfl | hy
        · simpa using hx
        · exact h2 y hy
      · refine .inr ⟨k + 1, by simp; omega, ?_, by simpa using h2⟩
        simp only [idxP, hx, Bool.false_eq_true, if_false, h1]
        rw [if_neg (by omega)]
        rfl
/-- A partial injection turned round. -/
def inv (m : Nat) (q : List Int) : List Int := (List.range m).map fun (i : Nat) => idxP (fun x => x == (i : Int)) q
theorem inv_at {m i : Nat} {q : List Int} (h : i < m) : (inv m q).getD i 0 = idxP (fun x => x == (i : Int)) q := by
  rw [inv, getD_at (by simpa using h)]
  simp
theorem inv_iff {n m : Nat} {R : Nat → Nat → Prop} {q : List Int} (hq : PI n m R q) {i k : Nat} (hi : i < m) (hk : k < n) : (inv m q).getD i 0 = (k : Int) ↔ q.getD k 0 = (i : Int) := by
  rw [inv_at hi]
  have hl := hq.len
  constructor
  · intro h
    rcases idxP_cases (fun x => x == (i : Int)) q with ⟨h1, _⟩ | ⟨k', hk', h1, h2⟩
    · omega
    · have : k' = k := by omega
      subst this
      rw [getD_at hk']
      simpa using h2
  · intro h
    have hkl : k < q.length := by omega
    rcases idxP_cases (fun x => x == (i : Int)) q with ⟨_, h2⟩ | ⟨k', hk', h1, h2⟩
    · have := h2 q[k] (List.getElem_mem hkl)
      rw [getD_at hkl] at h
      simp [h] at this
    · rw [h1]
      have e : q.getD k' 0 = (i : Int) := by rw [getD_at hk']; simpa using h2
      rcases Nat.lt_trichotomy k' k with hlt | heq | hgt
      · have := hq.inj k' k hlt hk (e.trans h.symm)
        omega
      · rw [heq]
      · have := hq.inj k k' hgt (by omega) (h.trans e.symm)
        omega
theorem inv_val {n m : Nat} {R : Nat → Nat → Prop} {q : List Int} (hq : PI n m R q) {i : Nat} (hi : i < m) : ((inv m q).getD i 0 = -1 ∧ ∀ k, k < n → q.getD k 0 ≠ (i : Int)) ∨ ∃ k : Nat, k < n ∧ (inv m q).getD i 0 = (k : Int) ∧ q.getD k 0 = (i : Int) := by
  rw [inv_at hi]
  have hl := hq.len
  rcases idxP_cases (fun x => x == (i : Int)) q with ⟨h1, h2⟩ | ⟨k, hk, h1, h2⟩
  · refine .inl ⟨h1, fun k hk e => ?_⟩
    have hkl : k < q.length := by omega
    have := h2 q[k] (List.getElem_mem hkl)
    rw [getD_at hkl] at e
    simp [e] at this
  · exact .inr ⟨k, by omega, h1, by rw [getD_at hk]; simpa using h2⟩
theorem PI_inv {n m : Nat} {R R' : Nat → Nat → Prop} {q : List Int} (hq : PI n m R q) (hR : ∀ i k, i < m → k < n → q.getD k 0 = (i : Int) → R k i → R' i k) : PI m n R' (inv m q) := by
  refine ⟨by simp [inv], fun i hi => ?_, fun i j hij hj he => ?_⟩
  · rcases inv_val hq hi with ⟨h1, _⟩ | ⟨k, hk, h1, h2⟩
    · exact .inl h1
    · refine .inr ⟨k, hk, h1, hR i k hi hk h2 ?_⟩
      rcases hq.val k hk with h3 | ⟨k', _, h3, h4⟩
      · omega
      · have : k' = i := by omega
        rwa [this] at h4
  · rcases inv_val hq (show i < m by omega) with ⟨h1, _⟩ | ⟨k, hk, h1, h2⟩
    · exact h1
    · rw [h1] at he
      have := (inv_iff hq hj hk).1 he.symm
      omega
theorem inv_inv {n m : Nat} {R : Nat → Nat → Prop} {q : List Int} (hq : PI n m R q) : inv n (inv m q) = q := by
  have hq' : PI m n (fun _ _ => True) (inv m q) := PI_inv hq fun _ _ _ _ _ _ => trivial
  have hl := hq.len
  have hlen : (inv n (inv m q)).length = n := by simp [inv]
  refine List.ext_getElem (by omega) fun i h1 h2 => ?_
  have e1 : (inv n (inv m q)).getD i 0 = (inv n (inv m q))[i] := getD_at h1
  have e2 : q.getD i 0 = q[i] := getD_at h2
  rw [← e1, ← e2]
  have hi : i < n := by omega
  rcases hq.val i hi with h3 | ⟨k, hk, h3, _⟩
  · rw [h3]
    rcases inv_val hq' hi with ⟨h4, _⟩ | ⟨k, hk, h4, h5⟩
    · exact h4
    · have := (inv_iff hq hk hi).1 h5
      omega
  · rw [h3]
    exact (inv_iff hq' hi hk).2 ((inv_iff hq hk hi).2 h3)
theorem length_le_inj {α β : Type} [DecidableEq β] (f : α → β) : ∀ (l : List α) (l' : List β), l.Nodup → (∀ x ∈ l, f x ∈ l') → (∀ x ∈ l, ∀ y ∈ l, f x = f y → x = y) → l.length ≤ l'.length
  | [], _, _, _, _ => by simp
  | x :: l, l', h1, h2, h3 => by
    have hx := h2 x (by simp)
    have hlen := List.length_erase_of_mem hx
    have hpos : 0 < l'.length := List.length_pos_of_mem hx
    have hnd := List.nodup_cons.1 h1
    have := length_le_inj f l (l'.erase (f x)) hnd.2 (fun y hy => by
      refine (List.mem_erase_of_ne fun e => ?_).2 (h2 y (by simp [hy]))
      have := h3 y (by simp [hy]) x (by simp) e
      exact hnd.1 (this ▸ hy)) (fun y hy z hz => h3 y (by simp [hy]) z (by simp [hz]))
    rw [List.length_cons]
    omega
/-! ### Pairs of matchings -/
def ovP (a b : Gr) : List (List Int × List Int) := (genL (oN a b) a.n.length b.n.length []).flatMap fun nodes => (genL (oE a b nodes) a.e.length b.e.length []).map fun edges => (nodes, edges)
def isM (a b : Gr) (p : List Int × List Int) : Prop := PI b.n.length a.n.length (relN a b) p.1 ∧ PI b.e.length a.e.length (relE a b p.1) p.2
theorem memP (a b : Gr) (p : List Int × List Int) : p ∈ ovP a b ↔ isM a b p := by
  unfold ovP isM
  rw [List.mem_flatMap]
  constructor
  · rintro ⟨nodes, h1, h2⟩
    obtain ⟨edges, h3, rfl⟩ := List.mem_map.1 h2
    exact ⟨(memN a b _).1 h1, (memE a b _ _).1 h3⟩
  · rintro ⟨h1, h2⟩
    exact ⟨p.1, (memN a b _).2 h1, List.mem_map.2 ⟨p.2, (memE a b _ _).2 h2, rfl⟩⟩
theorem ovP_nodup (a b : Gr) : (ovP a b).Nodup := by
  unfold ovP
  rw [List.nodup_iff_pairwise_ne, List.pairwise_flatMap]
  constructor
  · intro nodes _
    rw [List.pairwise_map]
    exact List.Pairwise.imp (fun h e => h (Prod.mk.inj e).2) (List.nodup_iff_pairwise_ne.1 (genL_nodup _ _))
  · refine List.Pairwise.imp ?_ (List.nodup_iff_pairwise_ne.1 (genL_nodup _ _))
    intro n1 n2 hne x hx y hy e
    obtain ⟨_, _, rfl⟩ := List.mem_map.1 hx
    obtain ⟨_, _, rfl⟩ := List.mem_map.1 hy
    exact hne (Prod.mk.inj e).1
theorem ovN_pairs (a b : Gr) : (genL (oN a b) a.n.length b.n.length []).flatMap (ovF a b) = (ovP a b).map fun p => glue a b p.1 p.2 := by
  unfold ovP ovF
  rw [List.map_flatMap]
  refine flat_congr fun nodes _ => ?_
  rw [List.map_map]
  rfl
theorem isM_inv {a b : Gr} (ha : gErr a = 0) (hb : gErr b = 0) {p : List Int × List Int} (h : isM a b p) : isM b a (inv a.n.length p.1, inv a.e.length p.2) := by
  obtain ⟨h1, h2⟩ := h
  obtain ⟨_, _, va⟩ := gErr_small ha
  obtain ⟨_, _, vb⟩ := gErr_small hb
  refine ⟨PI_inv h1 fun i k _ _ _ hr => hr.symm, PI_inv h2 fun i k hi hk _ hr => ?_⟩
  unfold relE at hr ⊢
  have xa := va _ (List.getElem_mem hi)
  have xb := vb _ (List.getElem_mem hk)
  rw [getD_at hi, getD_at hk] at hr ⊢
  have e1 : a.e[i].1 = b.e[k].1 := by rw [hr]
  have e2 : p.1.getD b.e[k].2.1.toNat 0 = (a.e[i].2.1.toNat : Int) := by have := xa.2.1; rw [hr] at this ⊢; simp at this ⊢; omega
  have e3 : p.1.getD b.e[k].2.2.toNat 0 = (a.e[i].2.2.toNat : Int) := by have := xa.2.2.2.1; rw [hr] at this ⊢; simp at this ⊢; omega
  have b1 := xb.2
  have a1 := xa.2
  have f1 := (inv_iff h1 (show a.e[i].2.1.toNat < a.n.length by omega) (show b.e[k].2.1.toNat < b.n.length by omega)).2 e2
  have f2 := (inv_iff h1 (show a.e[i].2.2.toNat < a.n.length by omega) (show b.e[k].2.2.toNat < b.n.length by omega)).2 e3
  show b.e[k] = (a.e[i].1, (inv a.n.length p.1).getD a.e[i].2.1.toNat 0, (inv a.n.length p.1).getD a.e[i].2.2.toNat 0)
  rw [f1, f2, e1]
  refine Prod.ext rfl (Prod.ext ?_ ?_)
  · exact (Int.toNat_of_nonneg b1.1).symm
  · exact (Int.toNat_of_nonneg b1.2.2.1).symm
theorem ovP_le {a b : Gr} (ha : gErr a = 0) (hb : gErr b = 0) : (ovP a b).length ≤ (ovP b a).length := by
  refine length_le_inj (fun p => (inv a.n.length p.1, inv a.e.length p.2)) _ _ (ovP_nodup a b) (fun p hp => (memP b a _).2 (isM_inv ha hb ((memP a b p).1 hp))) fun p hp q hq he => ?_
  obtain ⟨p1, p2⟩ := (memP a b p).1 hp
  obtain ⟨q1, q2⟩ := (memP a b q).1 hq
  obtain ⟨e1, e2⟩ := Prod.mk.inj he
  refine Prod.ext ?_ ?_
  · rw [← inv_inv p1, ← inv_inv q1, e1]
  · rw [← inv_inv p2, ← inv_inv q2, e2]
theorem ovP_len {a b : Gr} (ha : gErr a = 0) (hb : gErr b = 0) : (ovP a b).length = (ovP b a).length := Nat.le_antisymm (ovP_le ha hb) (ovP_le hb ha)
/-- The overlaps of valid graphs that are small together. -/
theorem ovS_eq {a b : Gr} (ha : gErr a = 0) (hb : gErr b = 0) (hs : a.n.length + b.n.length ≤ 40 ∧ a.e.length + b.e.length ≤ 80) :
    ovS a b = if 2000 < (ovP a b).length then ([], 3) else ((ovP a b).map (fun p => glue a b p.1 p.2), 0) := by
  rw [ovS, if_neg (by simp [ha]), if_neg (by simp [hb]), if_neg (by omega), ovN_cap a b _ _ _ (by simp), List.nil_append, ovN_pairs]
  by_cases h : 2000 < (ovP a b).length
  · rw [if_pos h, if_pos (by rw [List.length_take, List.length_map]; omega)]
  · rw [if_neg h, if_neg (by rw [List.length_take, List.length_map]; omega), List.take_of_length_le (by rw [List.length_map]; omega)]
end Go.Sy
