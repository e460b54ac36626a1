/- Plain law: the factorization of a morphism. -/
import Derived.Test.YtkhheblmgbiniaaSF
import Derived.Test.YtkhheblmgbiniaaS1
namespace Go.Sy
open Go Go.Proofs

theorem pw_ext : ∀ {l k : List Int}, l.Pairwise (· < ·) → k.Pairwise (· < ·) → (∀ x, x ∈ l ↔ x ∈ k) → l = k
  | [], [], _, _, _ => rfl
  | [], y :: k, _, _, h => by have := (h y).2 (by simp); simp at this
  | x :: l, [], _, _, h => by have := (h x).1 (by simp); simp at this
  | x :: l, y :: k, h1, h2, h => by
    obtain ⟨a1, a2⟩ := List.pairwise_cons.1 h1
    obtain ⟨b1, b2⟩ := List.pairwise_cons.1 h2
    have e : x = y := by
      rcases List.mem_cons.1 ((h x).1 (by simp)) with e | e
      · exact e
      · rcases List.mem_cons.1 ((h y).2 (by simp)) with e' | e'
        · exact e'.symm
        · have := b1 x e
          have := a1 y e'
          omega
    subst e
    rw [pw_ext a2 b2 fun z => ?_]
    constructor
    · intro hz
      rcases List.mem_cons.1 ((h z).1 (by simp [hz])) with e | e
      · have := a1 z hz
        omega
      · exact e
    · intro hz
      rcases List.mem_cons.1 ((h z).2 (by simp [hz])) with e | e
      · have := b1 z hz
        omega
      · exact e
def has (l : List Int) (i : Nat) : Bool := l.contains (i : Int)
theorem has_iff {l : List Int} {i : Nat} : has l i = true ↔ (i : Int) ∈ l := by simp [has]
theorem selN_pw (p : Nat → Bool) (n : Nat) : (selN p n).Pairwise (· < ·) := by
  rw [selN, List.pairwise_map]
  exact (List.pairwise_lt_range.filter p).imp fun h => by omega
theorem mem_selN {p : Nat → Bool} {n : Nat} {x : Int} : x ∈ selN p n ↔ ∃ j : Nat, x = (j : Int) ∧ j < n ∧ p j = true := by
  rw [selN, List.mem_map]
  constructor
  · rintro ⟨j, hj, rfl⟩
    exact ⟨j, rfl, sel_mem.1 hj⟩
  · rintro ⟨j, rfl, hj⟩
    exact ⟨j, sel_mem.2 hj, rfl⟩
theorem sq_sel {l : List Int} {n : Nat} (h : ∀ x ∈ l, 0 ≤ x ∧ x < n) : sq l = selN (has l) n := by
  refine pw_ext (sq_pw l) (selN_pw _ _) fun x => ?_
  rw [mem_sq, mem_selN]
  constructor
  · intro hx
    have := h x hx
    refine ⟨x.toNat, by omega, by omega, ?_⟩
    rw [has_iff, Int.toNat_of_nonneg this.1]
    exact hx
  · rintro ⟨j, rfl, _, hj⟩
    exact has_iff.1 hj
/-- The place of a number among those chosen. -/
def rk (p : Nat → Bool) (x : Int) : Int := ((sel p x.toNat).length : Int)
theorem rk_at {p : Nat → Bool} {n j : Nat} (hj : j < n) (hp : p j = true) : rk p j < (sel p n).length ∧ (selN p n).getD (rk p j).toNat 0 = (j : Int) := by
  have h := sel_place hp hj
  have hl := (List.getElem?_eq_some_iff.1 h).1
  have e : (rk p (j : Int)).toNat = (sel p j).length := by simp [rk]
  refine ⟨by simp only [rk, Int.toNat_natCast]; omega, ?_⟩
  rw [e, selN, List.getD_eq_getElem?_getD, List.getElem?_map, h]
  rfl
theorem idx_rk {p : Nat → Bool} {n : Nat} {x : Int} (h0 : 0 ≤ x) (h1 : x < n) (hp : p x.toNat = true) : idxP (fun y => x == y) (selN p n) = rk p x := by
  obtain ⟨j, rfl⟩ := Int.eq_ofNat_of_zero_le h0
  rw [Int.toNat_natCast] at hp
  have hj : j < n := by omega
  obtain ⟨r1, r2⟩ := rk_at hj hp
  have hr : 0 ≤ rk p j := by simp [rk]
  rcases idxP_cases (fun y => (j : Int) == y) (selN p n) with ⟨_, h2⟩ | ⟨k, hk, h2, h3⟩
  · have := h2 (j : Int) (mem_selN.2 ⟨j, rfl, hj, hp⟩)
    simp at this
  · rw [h2]
    have e : (selN p n).getD k 0 = (j : Int) := by rw [getD_at hk]; exact (beq_iff_eq.1 h3).symm
    have := dist_at (selN_dist p n) hk (show (rk p j).toNat < (selN p n).length by rw [selN_len]; omega) (by rw [e, r2])
    omega
def facG (b : Gr) (p q : Nat → Bool) : Gr :=
  ⟨(sel p b.n.length).map fun i => b.n.getD i 0, (sel q b.e.length).map fun i => ((b.e.getD i (0, 0, 0)).1, rk p (b.e.getD i (0, 0, 0)).2.1, rk p (b.e.getD i (0, 0, 0)).2.2)⟩
def facR (a b : Gr) (m : Mo) : Gr × Mo × Mo × Int := if mErr a b m ≠ 0 then (⟨[], []⟩, ⟨[], []⟩, ⟨[], []⟩, mErr a b m) else
  (facG b (has m.n) (has m.e), ⟨m.n.map (rk (has m.n)), m.e.map (rk (has m.e))⟩, ⟨selN (has m.n) b.n.length, selN (has m.e) b.e.length⟩, 0)
/-- The ends of a morphism's edges are nodes of its. -/
theorem im_ends {a b : Gr} {m : Mo} (h : mErr a b m = 0) {i : Nat} (hi : i < b.e.length) (hq : has m.e i = true) : 0 ≤ (b.e.getD i (0, 0, 0)).2.1 ∧ (b.e.getD i (0, 0, 0)).2.1 < b.n.length ∧ has m.n (b.e.getD i (0, 0, 0)).2.1.toNat = true ∧
    0 ≤ (b.e.getD i (0, 0, 0)).2.2 ∧ (b.e.getD i (0, 0, 0)).2.2 < b.n.length ∧ has m.n (b.e.getD i (0, 0, 0)).2.2.toNat = true := by
  have o := mErr_ok h
  have r := edge_in o.2.1 hi
  obtain ⟨j, hj, e⟩ := List.mem_iff_getElem.1 (has_iff.1 hq)
  have n := mErr_edge h (show j < a.e.length by omega)
  rw [getD_at hj, e, Int.toNat_natCast] at n
  have r2 := edge_in o.1 (show j < a.e.length by omega)
  refine ⟨r.1, r.2.1, ?_, r.2.2.1, r.2.2.2, ?_⟩
  · rw [has_iff, Int.toNat_of_nonneg r.1, ← n.2.2.2.1, getD_at (by omega)]
    exact List.getElem_mem _
  · rw [has_iff, Int.toNat_of_nonneg r.2.2.1, ← n.2.2.2.2, getD_at (by omega)]
    exact List.getElem_mem _
/-- How the program puts it. -/
def facP (b : Gr) (m : Mo) : Gr × Mo × Mo :=
  (⟨(sq m.n).map fun x => b.n.getD x.toNat 0, (sq m.e).map fun x => ((b.e.getD x.toNat (0, 0, 0)).1, idxP (fun y => (b.e.getD x.toNat (0, 0, 0)).2.1 == y) (sq m.n), idxP (fun y => (b.e.getD x.toNat (0, 0, 0)).2.2 == y) (sq m.n))⟩,
    ⟨plc (sq m.n) m.n, plc (sq m.e) m.e⟩, ⟨sq m.n, sq m.e⟩)
theorem facP_eq {a b : Gr} {m : Mo} (h : mErr a b m = 0) : facR a b m = ((facP b m).1, (facP b m).2.1, (facP b m).2.2, 0) := by
  have r := mErr_rng h
  rw [facR, if_neg (by simp [h])]
  unfold facP
  rw [sq_sel r.1, sq_sel r.2]
  have hn : m.n.map (rk (has m.n)) = plc (selN (has m.n) b.n.length) m.n := by
    unfold plc
    refine List.map_congr_left fun x hx => ?_
    have := r.1 x hx
    rw [idx_rk this.1 this.2]
    rw [has_iff, Int.toNat_of_nonneg this.1]
    exact hx
  have he : m.e.map (rk (has m.e)) = plc (selN (has m.e) b.e.length) m.e := by
    unfold plc
    refine List.map_congr_left fun x hx => ?_
    have := r.2 x hx
    rw [idx_rk this.1 this.2]
    rw [has_iff, Int.toNat_of_nonneg this.1]
    exact hx
  rw [hn, he]
  unfold facG
  have e1 : (selN (has m.n) b.n.length).map (fun x => b.n.getD x.toNat 0) = (sel (has m.n) b.n.length).map fun i => b.n.getD i 0 := by
    rw [selN, List.map_map]
    refine List.map_congr_left fun i _ => ?_
    simp
  have e2 : (selN (has m.e) b.e.length).map (fun x => ((b.e.getD x.toNat (0, 0, 0)).1, idxP (fun y => (b.e.getD x.toNat (0, 0, 0)).2.1 == y) (selN (has m.n) b.n.length), idxP (fun y => (b.e.getD x.toNat (0, 0, 0)).2.2 == y) (selN (has m.n) b.n.length))) =
      (sel (has m.e) b.e.length).map fun i => ((b.e.getD i (0, 0, 0)).1, rk (has m.n) (b.e.getD i (0, 0, 0)).2.1, rk (has m.n) (b.e.getD i (0, 0, 0)).2.2) := by
    rw [show selN (has m.e) b.e.length = (sel (has m.e) b.e.length).map fun (j : Nat) => (j : Int) from rfl, List.map_map]
    refine List.map_congr_left fun i hi => ?_
    obtain ⟨h1, h2⟩ := sel_mem.1 hi
    obtain ⟨a1, a2, a3, a4, a5, a6⟩ := im_ends h h1 h2
    simp only [Function.comp_apply, Int.toNat_natCast]
    rw [idx_rk a1 a2 a3, idx_rk a4 a5 a6]
  rw [e1, e2]
/-! ### Onto -/
def covB (l : List Int) (n : Nat) : Bool := (List.range n).all fun k => l.contains (k : Int)
def surR (a b : Gr) (m : Mo) : Bool := mErr a b m == 0 && (covB m.n b.n.length && covB m.e b.e.length)
theorem rk_cov {l : List Int} {n : Nat} (h : ∀ x ∈ l, 0 ≤ x ∧ x < n) : covB (l.map (rk (has l))) (sel (has l) n).length = true := by
  rw [covB, List.all_eq_true]
  intro k hk
  have hk := List.mem_range.1 hk
  obtain ⟨h1, h2⟩ := sel_mem.1 (List.getElem_mem hk)
  rw [List.contains_iff_mem, List.mem_map]
  refine ⟨_, has_iff.1 h2, ?_⟩
  obtain ⟨r1, r2⟩ := rk_at h1 h2
  have hr : 0 ≤ rk (has l) ((sel (has l) n)[k] : Nat) := by simp [rk]
  have e : (selN (has l) n).getD k 0 = (((sel (has l) n)[k] : Nat) : Int) := by
    rw [getD_at (by rw [selN_len]; exact hk)]
    simp [selN]
  have := dist_at (selN_dist (has l) n) (show k < (selN (has l) n).length by rw [selN_len]; exact hk) (show (rk (has l) ((sel (has l) n)[k] : Nat)).toNat < (selN (has l) n).length by rw [selN_len]; omega) (by rw [e, r2])
  omega
theorem rk_thr {l : List Int} {n : Nat} (h : ∀ x ∈ l, 0 ≤ x ∧ x < n) : thr (l.map (rk (has l))) (selN (has l) n) = l := by
  rw [thr, List.map_map]
  conv => rhs; rw [← List.map_id l]
  refine List.map_congr_left fun x hx => ?_
  have hx' := h x hx
  obtain ⟨j, rfl⟩ := Int.eq_ofNat_of_zero_le hx'.1
  exact (rk_at (show j < n by omega) (has_iff.2 hx)).2
theorem facR_ok {a b : Gr} {m : Mo} (h : mErr a b m = 0) : cmpR a (facG b (has m.n) (has m.e)) b ⟨m.n.map (rk (has m.n)), m.e.map (rk (has m.e))⟩ ⟨selN (has m.n) b.n.length, selN (has m.e) b.e.length⟩ = (m, 0) ∧
    surR a (facG b (has m.n) (has m.e)) ⟨m.n.map (rk (has m.n)), m.e.map (rk (has m.e))⟩ = true ∧ injR (facG b (has m.n) (has m.e)) b ⟨selN (has m.n) b.n.length, selN (has m.e) b.e.length⟩ = true := by
  have o := mErr_ok h
  have r := mErr_rng h
  have gb := gErr_small o.2.1
  have s1 := sel_le (has m.n) b.n.length
  have s2 := sel_le (has m.e) b.e.length
  generalize hp : has m.n = p at *
  generalize hq : has m.e = q at *
  have l1 : (facG b p q).n.length = (sel p b.n.length).length := by simp [facG]
  have l2 : (facG b p q).e.length = (sel q b.e.length).length := by simp [facG]
  have ends := fun i h1 h2 => im_ends (i := i) h h1 h2
  rw [hp, hq] at ends
  have ne : ∀ i : Nat, i < (sel p b.n.length).length → ∃ j : Nat, j < b.n.length ∧ p j = true ∧ (sel p b.n.length)[i]? = some j ∧ (facG b p q).n.getD i 0 = b.n.getD j 0 ∧ (selN p b.n.length).getD i 0 = (j : Int) := fun i hi => by
    obtain ⟨h1, h2⟩ := sel_mem.1 (List.getElem_mem hi)
    refine ⟨_, h1, h2, List.getElem?_eq_getElem hi, ?_, ?_⟩
    · rw [getD_at (by omega)]
      simp [facG]
    · rw [getD_at (by rw [selN_len]; exact hi)]
      simp [selN]
  have ee : ∀ i : Nat, i < (sel q b.e.length).length → ∃ j : Nat, j < b.e.length ∧ q j = true ∧ (facG b p q).e.getD i (0, 0, 0) = ((b.e.getD j (0, 0, 0)).1, rk p (b.e.getD j (0, 0, 0)).2.1, rk p (b.e.getD j (0, 0, 0)).2.2) ∧ (selN q b.e.length).getD i 0 = (j : Int) := fun i hi => by
    obtain ⟨h1, h2⟩ := sel_mem.1 (List.getElem_mem hi)
    refine ⟨_, h1, h2, ?_, ?_⟩
    · rw [getD_at (by omega)]
      simp [facG]
    · rw [getD_at (by rw [selN_len]; exact hi)]
      simp [selN]
  have rkI : ∀ x : Int, 0 ≤ x → x < b.n.length → p x.toNat = true → 0 ≤ rk p x ∧ rk p x < (sel p b.n.length).length ∧ (selN p b.n.length).getD (rk p x).toNat 0 = x := fun x x0 x1 x2 => by
    obtain ⟨j, rfl⟩ := Int.eq_ofNat_of_zero_le x0
    obtain ⟨r1, r2⟩ := rk_at (show j < b.n.length by omega) (by simpa using x2)
    exact ⟨by simp [rk], r1, r2⟩
  have rkQ : ∀ x : Int, 0 ≤ x → x < b.e.length → q x.toNat = true → 0 ≤ rk q x ∧ rk q x < (sel q b.e.length).length ∧ (selN q b.e.length).getD (rk q x).toNat 0 = x := fun x x0 x1 x2 => by
    obtain ⟨j, rfl⟩ := Int.eq_ofNat_of_zero_le x0
    obtain ⟨r1, r2⟩ := rk_at (show j < b.e.length by omega) (by simpa using x2)
    exact ⟨by simp [rk], r1, r2⟩
  have gv : gErr (facG b p q) = 0 := by
    rw [gErr, if_pos (by omega), if_pos]
    refine ⟨fun t ht => ?_, fun x hx => ?_⟩
    · obtain ⟨j, hj, rfl⟩ := List.mem_map.1 ht
      have := (sel_mem.1 hj).1
      rw [getD_at this]
      exact gb.2.1 _ (List.getElem_mem this)
    · obtain ⟨j, hj, rfl⟩ := List.mem_map.1 hx
      obtain ⟨h1, h2⟩ := sel_mem.1 hj
      obtain ⟨a1, a2, a3, a4, a5, a6⟩ := ends j h1 h2
      have t := gb.2.2 _ (List.getElem_mem h1)
      rw [← getD_at h1 (d := (0, 0, 0))] at t
      have u1 := rkI _ a1 a2 a3
      have u2 := rkI _ a4 a5 a6
      unfold edOK
      rw [l1]
      exact ⟨t.1, u1.1, u1.2.1, u2.1, u2.2.1⟩
  -- into
  have m2 : mErr (facG b p q) b ⟨selN p b.n.length, selN q b.e.length⟩ = 0 := by
    refine mErr_zero gv o.2.1 (by rw [l1, selN_len]) (by rw [l2, selN_len]) (fun i hi => ?_) (fun i hi => ?_)
    · obtain ⟨j, j1, _, _, j3, j4⟩ := ne i (by omega)
      rw [nodeErr, j4, j3, if_neg (by omega), Int.toNat_natCast, if_neg (by simp)]
    · obtain ⟨j, j1, j2, j3, j4⟩ := ee i (by omega)
      obtain ⟨a1, a2, a3, a4, a5, a6⟩ := ends j j1 j2
      have u1 := rkI _ a1 a2 a3
      have u2 := rkI _ a4 a5 a6
      rw [edgeErr, j4, j3, if_neg (by omega), Int.toNat_natCast, if_neg (by simp)]
      dsimp only
      rw [u1.2.2, u2.2.2, if_neg (by simp)]
  -- onto
  have hmn : ∀ i, i < m.n.length → (m.n.map (rk p)).getD i 0 = rk p (m.n.getD i 0) := fun i hi => by rw [getD_at (by simpa using hi), getD_at hi, List.getElem_map]
  have hme : ∀ i, i < m.e.length → (m.e.map (rk q)).getD i 0 = rk q (m.e.getD i 0) := fun i hi => by rw [getD_at (by simpa using hi), getD_at hi, List.getElem_map]
  have pin : ∀ i, i < m.n.length → p (m.n.getD i 0).toNat = true := fun i hi => by
    have := r.1 _ (List.getElem_mem hi)
    rw [← hp, getD_at hi, has_iff, Int.toNat_of_nonneg this.1]
    exact List.getElem_mem hi
  have qin : ∀ i, i < m.e.length → q (m.e.getD i 0).toNat = true := fun i hi => by
    have := r.2 _ (List.getElem_mem hi)
    rw [← hq, getD_at hi, has_iff, Int.toNat_of_nonneg this.1]
    exact List.getElem_mem hi
  have m1 : mErr a (facG b p q) ⟨m.n.map (rk p), m.e.map (rk q)⟩ = 0 := by
    refine mErr_zero o.1 gv (by simpa using o.2.2.1) (by simpa using o.2.2.2.1) (fun i hi => ?_) (fun i hi => ?_)
    · have n := mErr_node h hi
      have u := rkI (m.n.getD i 0) n.1 (by omega) (pin i (by omega))
      obtain ⟨j, j1, j2, _, j3, j4⟩ := ne (rk p (m.n.getD i 0)).toNat (by omega)
      have e : (m.n.getD i 0).toNat = j := by rw [u.2.2] at j4; omega
      rw [nodeErr]
      dsimp only
      rw [hmn i (by omega), if_neg (by omega), j3, ← e, n.2.2, if_neg (by simp)]
    · have n := mErr_edge h hi
      have u := rkQ (m.e.getD i 0) n.1 (by omega) (qin i (by omega))
      obtain ⟨j, j1, j2, j3, j4⟩ := ee (rk q (m.e.getD i 0)).toNat (by omega)
      have e : (m.e.getD i 0).toNat = j := by rw [u.2.2] at j4; omega
      have ed := edge_in o.1 hi
      rw [edgeErr]
      dsimp only
      rw [hme i (by omega), if_neg (by omega), j3, ← e, if_neg (by rw [n.2.2.1]; simp), hmn _ (by omega), hmn _ (by omega), n.2.2.2.1, n.2.2.2.2, if_neg (by simp)]
  have t1 : thr (m.n.map (rk p)) (selN p b.n.length) = m.n := by rw [← hp]; exact rk_thr r.1
  have t2 : thr (m.e.map (rk q)) (selN q b.e.length) = m.e := by rw [← hq]; exact rk_thr r.2
  have c1 : covB (m.n.map (rk p)) (sel p b.n.length).length = true := by rw [← hp]; exact rk_cov r.1
  have c2 : covB (m.e.map (rk q)) (sel q b.e.length).length = true := by rw [← hq]; exact rk_cov r.2
  refine ⟨?_, ?_, ?_⟩
  · rw [cmpR, if_neg (by simp [m1]), if_neg (by simp [m2]), thn]
    dsimp only
    rw [t1, t2]
  · rw [surR, m1, l1, l2]
    dsimp only
    rw [c1, c2]
    rfl
  · rw [injR, m2]
    dsimp only
    rw [selN_dist, selN_dist]
    rfl
end Go.Sy
